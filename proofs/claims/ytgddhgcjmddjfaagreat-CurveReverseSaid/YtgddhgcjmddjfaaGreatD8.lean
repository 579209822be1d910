/- integer: divide. -/
import Derived.Test.YtgddhgcjmddjfaaGreatD7
noncomputable section
namespace Go.Proofs.YtgddhgcjmddjfaaGreat
open Go.RowKit Go.IntKind
theorem avF:type_of% @List.length_pos_iff:=@List.length_pos_iff
theorem avQ:type_of% @beq_iff_eq:=@beq_iff_eq
theorem av3:type_of% @Rat.num_divInt_den:=@Rat.num_divInt_den
theorem av6:type_of% @Classical.choose_spec:=@Classical.choose_spec
theorem av7:type_of% @Int.eq_ofNat_of_zero_le:=@Int.eq_ofNat_of_zero_le
theorem awf:type_of% @Int.natAbs_natCast:=@Int.natAbs_natCast
theorem awl:type_of% @decide_eq_decide:=@decide_eq_decide
theorem awN:type_of% @Int.lt_or_lt_of_ne:=@Int.lt_or_lt_of_ne
theorem awR:type_of% @Int.ediv_le_self:=@Int.ediv_le_self
theorem awZ:type_of% @Nat.gcd_comm:=@Nat.gcd_comm
theorem axg:type_of% @Prod.ext:=@Prod.ext
theorem axj:type_of% @Rat.divInt_ofNat:=@Rat.divInt_ofNat
theorem axo:type_of% @Rat.sub_eq_add_neg:=@Rat.sub_eq_add_neg
theorem axt:type_of% @Nat.mul_ne_zero:=@Nat.mul_ne_zero
theorem axu:type_of% @Int.mul_ne_zero:=@Int.mul_ne_zero
theorem axv:type_of% @Rat.divInt_mul_divInt:=@Rat.divInt_mul_divInt
theorem axE:type_of% @Int.natAbs_mul:=@Int.natAbs_mul
theorem axQ:type_of% @List.length_nil:=@List.length_nil
theorem axR:type_of% @Rat.num_mkRat:=@Rat.num_mkRat
theorem axS:type_of% @Rat.den_mkRat:=@Rat.den_mkRat
theorem axY:type_of% @Int.mul_neg:=@Int.mul_neg
theorem axZ:type_of% @Rat.div_def:=@Rat.div_def
section
section
variable (b:List Int) (x2:Int) (v:List Int) (m:Nat) (hN:(ah (val b).toNat).length=m+2) (hv:ah (val (dig ((ah (val b).toNat).length+([u32.wrap (u64.wrap (Int.tdiv 1000000000 (u64.wrap ((u64.wrap x2)+1))))]).length) (val (ah (val b).toNat)*val ([u32.wrap (u64.wrap (Int.tdiv 1000000000 (u64.wrap ((u64.wrap x2)+1))))])))).toNat=v) (lv:Lim v) (hvl:v.length=m+2)
include hN hv lv hvl
set_option maxHeartbeats 2000000 in
theorem Vv(sc:Int)(hsc:u32.wrap (u64.wrap (Int.tdiv 1000000000 (u64.wrap ((u64.wrap x2)+1))))=sc)(hs1:1≤sc)(hs2:sc≤500000000)(htop:500000000≤v[m+1])(A:Int):
  ∀(M:Nat) (r5 r1:List Int),Lim r5→Lim r1→r1.length=r5.length+(m+2)→r1.length≤1000000000→M≤r5.length→val v*val r5+val r1=A→(∀j (hj:j<r5.length),j<M→r5[j]=0)→val r1<val v*pw M→
   ∃qL rL,(Lim qL∧Lim rL∧qL.length=r5.length∧rL.length≤m+2∧val qL=A/val v∧val rL=A%val v/sc)∧gr.Runs 34 (qY b x2 ((M:Int)-1) r5 r1) [.d aya qL,.d aya rL]:=by
 have hVlt:=cA lv
 rw[hvl]at hVlt
 have hV0:0<val v:=by
  rw[FJ hvl]
  have h1:=bg (lv.take m)
  have h2:=lv.get (show m<v.length by omega)
  have h3:=Int.mul_pos (ct m) (show 0<v[m]+1000000000*v[m+1] by omega)
  omega
 intro M
 induction M with
 |zero=>
  intro r5 r1 l5 l1 hlen hsz hM hA hz hlt
  rw[nW,axf]at hlt
  have h0:=bg l1
  have eQ:A/val v=val r5:=by rw[←hA,axL,awL _ _ (by omega),awd h0 hlt];omega
  have eR:A%val v=val r1:=by rw[←hA,axL,awV];exact aw7 h0 hlt
  have ht:val (r1.take (m+2))=val r1:=by
   have hs:=fX r1 (m+2)
   rw[avy (by omega)]at hs
   have h2:=bg (l1.drop (m+2))
   have h3:=bg (l1.take (m+2))
   rcases avt 0 (val (r1.drop (m+2)))with hc|hc
   ·have:=au3 (show 1≤val (r1.drop (m+2)) by omega) (avA (ct (m+2)))
    omega
   ·have e:val (r1.drop (m+2))=0:=by omega
    rw[e]at hs
    omega
  have hlX:(ah (val r1).toNat).length≤m+2:=dw (by omega)
  have hX:=bZ (val r1).toNat
  have hXv:val (ah (val r1).toNat)=val r1:=by omega
  have hd0:0≤val r1/sc:=av2 h0 (by omega)
  have hd1:val r1/sc≤val r1:=awR _ h0
  have hXl:=cA (cB (val r1).toNat)
  refine⟨r5,dig (ah (val r1).toNat).length (val r1/sc),⟨l5,nJ _ _,rfl,by rw[jc];exact hlX,eQ.symm,by rw[eR,ie _ _ hd0 (by omega)]⟩,A7 _ _ _ _ _ ⟨0,?_⟩⟩
  unfold vj
  rw[auQ (by omega),hN,hsc,aP,show(0:Int).toNat=0 from rfl,axJ,awv,auO (show(0:Int)≤0∧(0:Int)≤((m+2:Nat):Int)∧((m+2:Nat):Int)≤(r1.length:Int) by omega),ht,hXv,
   auO (show bj (r1.take (m+2)) from⟨l1.take _,by rw[avz];omega⟩),auO (show F9 (ah (val r1).toNat) sc from⟨⟨cB _,by omega⟩,hs1,by omega⟩)]
 |succ k ih=>
  intro r5 r1 l5 l1 hlen hsz hM hA hz hlt
  have hk3:k+(m+2)+1≤r1.length:=by omega
  have hP:=ct k
  have hr0:=bg l1
  have hz1:val (r1.drop (k+(m+2)+1))=0:=by
   have hs:=fX r1 (k+(m+2)+1)
   rw[avy hk3]at hs
   have h2:=bg (l1.drop (k+(m+2)+1))
   have h3:=bg (l1.take (k+(m+2)+1))
   rcases avt 0 (val (r1.drop (k+(m+2)+1)))with hc|hc
   ·exfalso
    have e1:=au3 (show 1≤val (r1.drop (k+(m+2)+1)) by omega) (avA (ct (k+(m+2)+1)))
    have e2:=avb (avA hVlt) (avA (ct (k+1)))
    rw[←fI,show m+2+(k+1)=k+(m+2)+1 by omega]at e2
    omega
   ·omega
  have hw1:=Nt hk3 hz1
  have hwb:=UQ l1 hk3
  have hwlt:win k (m+2) r1<val v*1000000000:=by
   rcases avt (win k (m+2) r1) (val v*1000000000)with hc|hc
   ·exact hc
   ·exfalso
    have e1:=au3 hc (avA hP)
    have e2:=bg (l1.take k)
    have e3:val v*pw (k+1)=pw k*(val v*1000000000):=by rw[cD];grind
    omega
  have K:=apo lv hvl l1 (show k+m+3≤r1.length by omega) htop hwlt
  have htk:=cA (l1.take k)
  rw[avz,avy (by omega)]at htk
  have htk0:=bg (l1.take k)
  have hk5:k<r5.length:=by omega
  have hr5:=hz k hk5 (by omega)
  have e1:i64.wrap ((k:Int)+((m+2:Nat):Int))=((k+(m+2):Nat):Int):=by rw[bz (by omega) (by omega)];simp
  have e2:i64.wrap (((k+(m+2):Nat):Int)+1)=((k+(m+2)+1:Nat):Int):=cr (by omega)
  have e3:k+(m+2)+1-k=m+2+1:=by omega
  have fin:∀(d:Int) (r:List Int),0≤d→d<1000000000→Lim r→r.length=r1.length→r.take k=r1.take k→r.drop (k+(m+2)+1)=r1.drop (k+(m+2)+1)→val r=val r1-pw k*(d*val v)→win k (m+2) r1-d*val v<val v→
    ∃qL rL,(Lim qL∧Lim rL∧qL.length=r5.length∧rL.length≤m+2∧val qL=A/val v∧val rL=A%val v/sc)∧gr.Runs 34 (qY b x2 ((k:Int)-1) (r5.set k d) r) [.d aya qL,.d aya rL]:=by
   intro d r d0 d1 lr hl ht hd hval hwd
   obtain⟨qL,rL,⟨a1,a2,a3,a4,a5,a6⟩,a7⟩:=ih (r5.set k d) r (l5.set k ⟨d0,d1⟩) lr (by simp;omega) (by omega) (by simp;omega) (by
     rw[fx hk5,hr5,hval,←hA];grind) (fun j hj hjk=>by rw[awn (by omega)];exact hz j (by simpa using hj) (by omega)) (by
     rw[hval,hw1]
     have e4:=au3 (show win k (m+2) r1-d*val v≤val v-1 by omega) (avA hP)
     rw[Int.mul_sub,Int.mul_sub,axf]at e4
     rw[awC (val v)]
     omega)
   exact⟨qL,rL,⟨a1,a2,by simpa using a3,a4,a5,a6⟩,a7⟩
  have wof:∀(r:List Int) (x:Int),Lim r→r.length=r1.length→r.take k=r1.take k→r.drop (k+(m+2)+1)=r1.drop (k+(m+2)+1)→val r=val r1+pw k*x→win k (m+2) r=win k (m+2) r1+x∧0≤win k (m+2) r∧win k (m+2) r<pw (m+2+1):=by
   intro r x lr hl ht hd hval
   have h1:=Nt (k:=k) (n:=m+2) (r:=r) (by omega) (by rw[hd];exact hz1)
   rw[ht]at h1
   have h2:=UQ (k:=k) (n:=m+2) lr (by omega)
   refine⟨?_,h2⟩
   have:pw k*win k (m+2) r=pw k*(win k (m+2) r1+x):=by rw[axW];omega
   exact Int.eq_of_mul_eq_mul_left (by omega) this
  have hpw:pw (k+(m+2)+1)=pw k*pw (m+2+1):=by rw[←fI];congr 1
  have xt:=K.u2
  have xt1:=K.u1
  have xv:=K.v1
  have hg0:0≤(r1[k+m+2]*1000000000+r1[k+m+1])/v[m+1]:=av2 (by omega) (by omega)
  have hg1:(r1[k+m+2]*1000000000+r1[k+m+1])/v[m+1]<2000000000:=awu (by omega) (by
   have:=au3 xv.1 (show(0:Int)≤2000000000 by decide)
   omega)
  have md:=avK (r1[k+m+2]*1000000000+r1[k+m+1]) v[m+1]
  have m0:=av4 (r1[k+m+2]*1000000000+r1[k+m+1]) (show v[m+1]≠0 by omega)
  have m1:=avC (r1[k+m+2]*1000000000+r1[k+m+1]) (show 0<v[m+1] by omega)
  have key:∃qL rL,(Lim qL∧Lim rL∧qL.length=r5.length∧rL.length≤m+2∧val qL=A/val v∧val rL=A%val v/sc)∧gr.Runs 49 (nX b x2 (k:Int) r1 r5 ((r1[k+m+2]*1000000000+r1[k+m+1])/v[m+1]) ((r1[k+m+2]*1000000000+r1[k+m+1])%v[m+1])) [.d aya qL,.d aya rL]:=by
   have hex:∃g,0≤g∧g<1000000000∧g*val v≤win k (m+2) r1∧win k (m+2) r1<(g+1)*val v:=by
    have h1:=avK (win k (m+2) r1) (val v)
    have h2:=av4 (win k (m+2) r1) (show val v≠0 by omega)
    have h3:=avC (win k (m+2) r1) hV0
    refine⟨win k (m+2) r1/val v,av2 hwb.1 (by omega),awu hV0 (by rw[awC];exact hwlt),?_,?_⟩
    ·rw[awC];omega
    ·rw[Int.add_mul,axX,awC];omega
   obtain⟨d,d0,d1,d2,d3⟩:=hex
   have dv0:0≤d*val v:=avX d0 (by omega)
   have hrow:∃r,Lim r∧r.length=r1.length∧r.take k=r1.take k∧r.drop (k+(m+2)+1)=r1.drop (k+(m+2)+1)∧val r=val r1-pw k*(d*val v):=by
    refine⟨r1.take k++(dig (m+2+1) (win k (m+2) r1-d*val v)++r1.drop (k+(m+2)+1)),(l1.take k).append ((nJ _ _).append (l1.drop _)),by simp[jc];omega,?_,?_,?_⟩
    ·rw[awP (by simp;omega),ax3,Nat.min_self]
    ·rw[←avl,List.drop_append_of_le_length (by simp[jc];omega),avU (by simp[jc];omega),axM]
    ·rw[dH,dH,hz1,ie _ _ (by omega) (by omega),avz,avy (by omega),hw1]
     grind
   obtain⟨rr,q1,q2,q3,q4,q5⟩:=hrow
   obtain⟨qL,rL,hf,hrun⟩:=fin d rr d0 d1 q1 q2 q3 q4 q5 (by rw[Int.add_mul,axX]at d3;omega)
   refine⟨qL,rL,hf,IQ b x2 v m hN hv lv hvl k r1 r5 (by omega) (by omega) _ K ?_ 2000000000 _ _ (by omega) hg0 (by omega) m0 (by omega) (by rw[awC];omega) (K.first rfl)⟩
   intro g g0 g1 hg2 hg3
   have same:∀r,Lim r→r.length=r1.length→r.take k=r1.take k→r.drop (k+(m+2)+1)=r1.drop (k+(m+2)+1)→val r=val r1-pw k*(d*val v)→r=rr:=fun r a1 a2 a3 a4 a5=>Dl a1 q1 (by omega) (by omega)
   refine Si b x2 v m hN hv lv hvl k r1 r5 g ⟨g0,g1⟩ hk3 (by omega) _ ?_ ?_ (m+2+1) 0 0 0 r1 (by omega) (by omega) (by omega) (fun _=>rfl) (by omega) (by omega) l1 rfl rfl rfl (by simp[val])
   ·intro r a1 a2 a3 a4 a5
    obtain⟨w1,w2,w3⟩:=wof r (-(g*val v)) a1 a2 a3 a4 (by rw[a5,axY];omega)
    have hgd:g=d:=by
     have h1:¬g<d:=fun hc=>by
      have:=avb (show g+1≤d by omega) (avA hV0)
      omega
     have h2:¬d<g:=fun hc=>by
      have:=avb (show d+1≤g by omega) (avA hV0)
      omega
     omega
    subst hgd
    rw[same r a1 a2 a3 a4 a5]
    obtain⟨q,hq⟩:=hrun
    refine⟨q,?_⟩
    unfold du
    rw[hv,hN,e1,e2,aP,aP,e3,cz (auY _),auQ (show ¬(0:Int)>0 by decide),aA r5 k,auP hk5,dm (x:=g) (by omega) (by omega),bz (x:=(k:Int)-1) (by omega) (by omega)]
    exact hq
   ·intro r a1 a2 a3 a4 a5
    obtain⟨w1,w2,w3⟩:=wof r (-(g*val v)+pw (m+2+1)) a1 a2 a3 a4 (by rw[a5,hpw,axW,axY];omega)
    have hwg:win k (m+2) r1<g*val v:=by omega
    have hgd:g=d+1:=by
     have h1:¬g<d+1:=fun hc=>by
      have:=avb (show g≤d by omega) (avA hV0)
      omega
     have h2:¬d+1<g:=fun hc=>by
      have:=avb (show d+2≤g by omega) (avA hV0)
      rw[Int.add_mul]at this d3
      omega
     omega
    subst hgd
    have hres:gr.Runs 5 (dN b x2 (k:Int) r5 (d+1) 0 0 r) [.d aya qL,.d aya rL]:=by
     refine TB b x2 v m hN hv lv hvl k r r5 (d+1) (by omega) (by omega) _ ?_ (m+2+1) 0 0 r (by omega) (by omega) (by omega) a1 rfl rfl rfl (by simp[val])
     intro r' c b1 b2 b3 b4 c0 c1 b5
     obtain⟨u1,u2,u3⟩:=wof r' (-((d+1)*val v)+pw (m+2+1)+val v-pw (m+2+1)*c) b1 (by omega) (b3.trans a3) (b4.trans a4) (by rw[b5,a5,hpw,Int.mul_sub,axW,axW,axY];grind)
     have hc:c=1:=by
      rcases(show c=0∨c=1 by omega)with hc|hc
      ·exfalso
       subst hc
       rw[axa,Int.sub_zero]at u1
       rw[Int.add_mul,axX]at u1
       omega
      ·exact hc
     subst hc
     rw[same r' b1 (by omega) (b3.trans a3) (b4.trans a4) (by rw[b5,a5];grind)]
     obtain⟨q,hq⟩:=hrun
     refine⟨q,?_⟩
     unfold eE
     rw[hN,e1,e2,aP,aP,e3,cz (auY _),aA r5 k,auP hk5,show d+1-1=d by omega,b8 (x:=d) (by omega) (by omega),dm (x:=d) (by omega) (by omega),bz (x:=(k:Int)-1) (by omega) (by omega)]
     exact hq
    obtain⟨q,hq⟩:=hres
    refine⟨q,?_⟩
    unfold du
    rw[hv,hN,e1,e2,aP,aP,e3,cz (auY _),auO (show(1:Int)>0 by decide),auO (show(0:Int)≤(k:Int)∧(k:Int)≤((k+(m+2)+1:Nat):Int)∧((k+(m+2)+1:Nat):Int)≤(r.length:Int) by omega)]
    exact hq
  obtain⟨qL,rL,hf,q,hq⟩:=key
  refine⟨qL,rL,hf,A7 _ _ _ _ _ ⟨q,?_⟩⟩
  have e4:i64.wrap (((k+(m+2):Nat):Int)-1)=((k+m+1:Nat):Int):=by rw[bz (by omega) (by omega)];omega
  have e5:i64.wrap (((m+2:Nat):Int)-1)=((m+1:Nat):Int):=by rw[bz (by omega) (by omega)];omega
  unfold vj
  rw[show((k+1:Nat):Int)-1=(k:Int) by omega,auO (by omega),hv,hN,e1,e4,e5,aA r1 (k+(m+2)),aP,auP (show k+(m+2)<r1.length by omega),aA r1 (k+m+1),aP,auP (show k+m+1<r1.length by omega),aA v (m+1),auP (show m+1<v.length by omega)]
  dsimp only
  rw[b8 (x:=v[m+1]) (by omega) (by omega),auQ (show ¬v[m+1]=0 by omega)]
  dsimp only
  have e6:r1[k+(m+2)]=r1[k+m+2]:=rfl
  rw[e6,b8 (x:=r1[k+m+2]) (by omega) (by omega),b8 (x:=r1[k+m+1]) (by omega) (by omega),b8 (x:=r1[k+m+2]*1000000000) (by omega) (by omega),b8 (x:=r1[k+m+2]*1000000000+r1[k+m+1]) (by omega) (by omega),gu (by omega),jA (by omega),b8 (x:=(r1[k+m+2]*1000000000+r1[k+m+1])/v[m+1]) (by omega) (by omega)]
  exact hq
end
end
def p6(a b:List Int):Prop:=(Lim a∧a.length≤100000000)∧(Lim b∧b.length≤100000000)∧0<val b
instance (a b:List Int):Decidable (p6 a b):=by unfold p6;infer_instance
structure arE (a b q r:List Int):Prop where
 lq:Lim q
 lr:Lim r
 sq:q.length≤200000000
 sr:r.length≤200000000
 q:val q=val a/val b
 r:val r=val a%val b
theorem wV(x:Int):val [x]=x:=by simp[val]
theorem wc{l:List Int}(h:can l){m:Nat}(hl:l.length=m+1):1≤l[m]:=by
 have h2:=h.2
 rw[List.getLast?_eq_getElem?,hl,Nat.add_sub_cancel,auP (by omega)]at h2
 have h1:=h.1.get (show m<l.length by omega)
 have:l[m]≠0:=fun e=>h2 (by rw[e])
 omega
set_option maxHeartbeats 1000000 in
theorem Ep(a b:List Int)(h:p6 a b):∃q r,arE a b q r∧Con Tryz.prog 247 [.d aya a,.d aya b] [.d aya q,.d aya r]:=by
 obtain⟨⟨la,sa⟩,⟨lb,sb⟩,hb⟩:=h
 have ha:bj a:=⟨la,by omega⟩
 have hb':bj b:=⟨lb,by omega⟩
 have va:=bZ (val a).toNat
 have vb:=bZ (val b).toNat
 have na:=bg la
 have va':val (ah (val a).toNat)=val a:=by omega
 have vb':val (ah (val b).toNat)=val b:=by omega
 have lna:=jP la
 have lnb:=jP lb
 have ca:=eh (val a).toNat
 have cb:=eh (val b).toNat
 have hla:bj (ah (val a).toNat):=⟨ca.1,by omega⟩
 have hlb:bj (ah (val b).toNat):=⟨cb.1,by omega⟩
 have go:∀{q r},gr.Res 247 [.d aya a,.d aya b] [.d aya q,.d aya r]→Con Tryz.prog 247 [.d aya a,.d aya b] [.d aya q,.d aya r]:=fun hr=>aO PS hr
 have hb0:ah (val b).toNat≠[]:=fun e=>by rw[gT]at e;omega
 by_cases h1:(ah (val b).toNat).length=1
 ·have t1:=wc cb (m:=0) h1
  have t2:=cb.1.get (show 0<(ah (val b).toNat).length by omega)
  have e0:(ah (val b).toNat)[0]=val b:=by
   obtain⟨x,hx⟩:=List.length_eq_one_iff.1 h1
   have:=vb'
   rw[hx,wV]at this
   simp[hx,this]
  have hq0:0≤val a/val b:=av2 na (by omega)
  have hq1:val a/val b≤val a:=awR _ na
  have hr0:=av4 (val a) (show val b≠0 by omega)
  have hr1:=avC (val a) hb
  have hal:=cA ca.1
  refine⟨dig (ah (val a).toNat).length (val a/val b),[val a%val b],⟨nJ _ _,Lim.cons ⟨hr0,by omega⟩ Lim.nil,by rw[jc];omega,by simp,ie _ _ hq0 (by omega),wV _⟩,go (Wg _ _ ⟨0,?_⟩)⟩
  unfold Lq
  rw[auO ha,auO hb',h1,A6,auP (show 0<(ah (val b).toNat).length by omega),e0]
  dsimp only
  rw[auO (show F9 (ah (val a).toNat) (val b) from⟨hla,by omega,by omega⟩),va']
  rfl
 have hlen:2≤(ah (val b).toNat).length:=by
  rcases avo (ah (val b).toNat).length 2 with h|h
  ·exfalso
   have:(ah (val b).toNat).length≠0:=fun e=>hb0 (awQ e)
   omega
  ·exact h
 by_cases hlt:val a<val b
 ·refine⟨[],ah (val a).toNat,⟨Lim.nil,ca.1,by simp,by omega,?_,?_⟩,go (Wg _ _ ⟨0,?_⟩)⟩
  ·rw[awd na hlt];rfl
  ·rw[aw7 na hlt];exact va'
  ·unfold Lq
   rw[auO ha,auO hb',show(((ah (val b).toNat).length:Int)==1)=false by simp;omega,auO (show bj (ah (val a).toNat)∧bj (ah (val b).toNat) from⟨hla,hlb⟩),va',vb',df hlt,auO (show(ah (val a).toNat).length*4≤140737488355328∧(ah (val a).toNat).length≤140737488355328 by omega)]
   rfl
 ·obtain⟨m,hm⟩:∃m,(ah (val b).toNat).length=m+2:=⟨(ah (val b).toNat).length-2,by omega⟩
  have hxm:m+1<(ah (val b).toNat).length:=by omega
  have t1:=wc cb (m:=m+1) hm
  have t2:=cb.1.get hxm
  generalize hx2:(ah (val b).toNat)[m+1]=x2 at t1 t2
  obtain⟨s1,s2,s3,s4⟩:=YA t1 t2.2
  have esc:u32.wrap (u64.wrap (Int.tdiv 1000000000 (u64.wrap ((u64.wrap x2)+1))))=1000000000/(x2+1):=by
   rw[b8 (x:=x2) (by omega) (by omega),b8 (x:=x2+1) (by omega) (by omega),gu (by omega),b8 (x:=1000000000/(x2+1)) (by omega) (by omega),dm (x:=1000000000/(x2+1)) (by omega) (by omega)]
  generalize hsc:1000000000/(x2+1)=sc at s1 s2 s3 s4 esc
  have hsl:bj [sc]:=⟨Lim.cons ⟨by omega,by omega⟩ Lim.nil,by simp⟩
  have hbl:=cA cb.1
  rw[vb',hm]at hbl
  have hP:=ct (m+1)
  have hbtop:=bJ hxm
  rw[avO (by omega),vb',hx2]at hbtop
  have hbt0:=bg (cb.1.take (m+1))
  have hbt1:=cA (cb.1.take (m+1))
  rw[avz,avy (by omega)]at hbt1
  have hVhi:val b*sc<pw (m+2):=by
   have e1:val b*sc<(pw (m+1)*(x2+1))*sc:=Int.mul_lt_mul_of_pos_right (by rw[axW,axf];omega) (by omega)
   have e2:(pw (m+1)*(x2+1))*sc=pw (m+1)*((x2+1)*sc):=Int.mul_assoc _ _ _
   have e3:pw (m+1)*((x2+1)*sc)≤pw (m+1)*1000000000:=au3 s3 (avA hP)
   rw[cD]
   omega
  have hVlo:pw (m+1)*500000000≤val b*sc:=by
   have e1:pw (m+1)*x2*sc≤val b*sc:=avb (by omega) (by omega)
   have e2:pw (m+1)*x2*sc=pw (m+1)*(x2*sc):=Int.mul_assoc _ _ _
   have e3:pw (m+1)*500000000≤pw (m+1)*(x2*sc):=au3 s4 (avA hP)
   omega
  have hV0:0<val b*sc:=Int.mul_pos hb (by omega)
  have edv:val (dig (m+2+1) (val b*sc))=val b*sc:=ie _ _ (by omega) (by rw[cD];omega)
  obtain⟨v,hv⟩:∃v,ah (val b*sc).toNat=v:=⟨_,rfl⟩
  have cv:=eh (val b*sc).toNat
  have vv:=bZ (val b*sc).toNat
  rw[hv]at cv vv
  have hvv:val v=val b*sc:=by omega
  have hvl:v.length=m+2:=by
   have h1:v.length≤m+2:=by rw[←hv];exact dw (by omega)
   have h2:m+1<v.length:=by rw[←hv];exact CV (by omega)
   omega
  have htop:500000000≤v[m+1]:=by
   rcases avt v[m+1] 500000000 with hc|hc
   ·exfalso
    have e1:=bJ (l:=v) (n:=m+1) (by omega)
    rw[avO (by omega),hvv]at e1
    have e2:=cA (cv.1.take (m+1))
    rw[avz,avy (by omega)]at e2
    have e3:=au3 (show v[m+1]≤499999999 by omega) (avA hP)
    omega
   ·exact hc
  have hal:=cA ca.1
  rw[va']at hal
  have hA0:0≤val a*sc:=avX na (by omega)
  have hA1:val a*sc<pw ((ah (val a).toNat).length+1):=by
   have e1:val a*sc≤pw (ah (val a).toNat).length*sc:=avb (by omega) (by omega)
   have e2:pw (ah (val a).toNat).length*sc<pw (ah (val a).toNat).length*1000000000:=Int.mul_lt_mul_of_pos_left (by omega) (ct _)
   rw[cD]
   omega
  have lab:m+2≤(ah (val a).toNat).length:=by
   rw[←hm]
   rcases avo (ah (val a).toNat).length (ah (val b).toNat).length with hc|hc
   ·have:=wT hc;omega
   ·exact hc
  generalize hlA:(ah (val a).toNat).length=L at*
  have hdl:(dig (L+1) (val a*sc)++[0]).length=L+2:=by simp[jc]
  have hdv:val (dig (L+1) (val a*sc)++[0])=val a*sc:=by rw[dH,ie _ _ hA0 hA1];simp[val]
  have hmul:=hvv
  obtain⟨q,r,⟨f1,f2,f3,f4,f5,f6⟩,n,hrun⟩:=Vv b x2 v m hm (by rw[esc,hm,vb',wV];simp only[avk];rw[edv];exact hv) cv.1 hvl sc esc s1 s2 htop (val a*sc) (L-m) (List.replicate (L-m) 0) (dig (L+1) (val a*sc)++[0])
   (Lim.rep _) ((nJ _ _).append (Lim.cons (by decide) Lim.nil)) (by rw[hdl];simp;omega) (by rw[hdl];omega) (by simp) (by rw[gI,hdv];omega) (fun j hj _=>by simp) (by
    rw[hdv,hvv]
    have e1:pw (m+1)*500000000*pw (L-m)≤val b*sc*pw (L-m):=avb hVlo (avA (ct _))
    have e2:pw (m+1)*500000000*pw (L-m)=pw (L+1)*500000000:=by
     rw[show L+1=m+1+(L-m) by omega,fI (m+1) (L-m),Int.mul_right_comm]
    have:=ct (L+1)
    omega)
  have hq:val a*sc/(val b*sc)=val a/val b:=Int.mul_ediv_mul_of_pos_left _ _ (by omega)
  have hr:val a*sc%(val b*sc)/sc=val a%val b:=by
   rw[awC (val a),awC (val b),Int.mul_emod_mul_of_pos _ _ (by omega),awC]
   exact Int.mul_ediv_cancel _ (by omega)
  rw[hvv]at f5 f6
  rw[hq]at f5
  rw[hr]at f6
  refine⟨q,r,⟨f1,f2,by rw[f3];simp;omega,by omega,f5,f6⟩,go (Wg _ _ ⟨n,?_⟩)⟩
  unfold Lq
  have e1:i64.wrap (((m+2:Nat):Int)-1)=((m+1:Nat):Int):=by rw[bz (by omega) (by omega)];omega
  have e2:i64.wrap (((L+2:Nat):Int)-((m+2:Nat):Int))=((L-m:Nat):Int):=by rw[bz (by omega) (by omega)];omega
  have e3:i64.wrap (((L-m:Nat):Int)-1)=((L-m:Nat):Int)-1:=bz (by omega) (by omega)
  rw[auO ha,auO hb',hm,show(((m+2:Nat):Int)==1)=false by simp;omega,auO (show bj (ah (val a).toNat)∧bj (ah (val b).toNat) from⟨hla,hlb⟩),va',vb',show decide (cJ (val a) (val b)<0)=false by
   rcases avt (val b) (val a)with hc|hc
   ·rw[c8 hc];rfl
   ·rw[show val a=val b by omega,dU];rfl,e1,aA (ah (val b).toNat) (m+1),auP hxm,hx2]
  dsimp only
  rw[esc,b8 (x:=x2) (by omega) (by omega),b8 (x:=x2+1) (by omega) (by omega),auQ (show ¬x2+1=0 by omega),auO (show bj (ah (val a).toNat)∧bj [sc] from⟨hla,hsl⟩),auO (show bj (ah (val b).toNat)∧bj [sc] from⟨hlb,hsl⟩),wV,hlA]
  rw[avk,avk,hdl,jc (L+1)]
  rw[auO (show(L+1+1)*4≤140737488355328∧L+1+1≤140737488355328 by omega),auO (show bj (dig (m+2+1) (val b*sc)) from jn (by omega) _),e2,tY (by omega),aP,e3]
  exact hrun
abbrev BI:=Bool×List Int
def okI(x:BI):Prop:=can x.2∧(x.1=true→x.2≠[])∧x.2.length≤1000000
instance (x:BI):Decidable (okI x):=by unfold okI;infer_instance
theorem cg(x:BI):ag x=cC x.1 (val x.2):=rfl
theorem ik{x:BI}(h:okI x):x=aj (ag x):=by
 obtain⟨h1,h2,h3⟩:=h
 have h0:=bg h1.1
 rw[cg,mK _ h0,←oY h1]
 refine axg ?_ rfl
 show x.1=(x.1&&decide (0<val x.2))
 cases hx:x.1
 ·rfl
 ·rw[auO (eW h1 (h2 hx))];rfl
def szI(z:Int):Nat:=(ah z.natAbs).length
theorem bK{z:Int}(h:szI z≤1000000):okI (aj z):=by
 refine⟨eh _,fun e=>?_,h⟩
 unfold aj at e ⊢
 simp only[decide_eq_true_eq]at e
 intro e'
 rw[gT]at e'
 omega
theorem fu{z:Int}{k:Nat}(h1: -pw k<z)(h2:z<pw k):szI z≤k:=dw (by omega)
theorem JP(z:Int): -pw (szI z)<z∧z<pw (szI z):=by
 have h:=cA (cB z.natAbs)
 rw[bZ]at h
 unfold szI
 omega
theorem n4{z:Int}{k:Nat}(h:szI z≤k): -pw k<z∧z<pw k:=by
 have h1:=JP z
 have h2:=dt h
 omega
theorem iX(z:Int):szI (-z)=szI z:=by unfold szI;rw[Int.natAbs_neg]
theorem wH{a b:Int}{k:Nat}(h1:szI a≤k)(h2:szI b≤k):szI (a+b)≤k+1:=by
 have e1:=n4 h1
 have e2:=n4 h2
 have hp:=ct k
 exact fu (by rw[cD];omega) (by rw[cD];omega)
theorem c9{a b:Int}{j k:Nat}(h1:szI a≤j)(h2:szI b≤k):szI (a*b)≤j+k:=by
 have e1:=n4 h1
 have e2:=n4 h2
 have h:(a*b).natAbs<(pw (j+k)).toNat:=by
  rw[axE,fI]
  have p1:=ct j
  have p2:=ct k
  have:(pw j*pw k).toNat=(pw j).toNat*(pw k).toNat:=Int.toNat_mul (by omega) (by omega)
  rw[this]
  exact Nat.mul_lt_mul'' (by omega) (by omega)
 have hp:=ct (j+k)
 exact fu (by omega) (by omega)
theorem dG{a b:Int}(h:a.natAbs≤b.natAbs):szI a≤szI b:=by
 have:=JP b
 exact fu (by omega) (by omega)
theorem iO{x:BI}(h:okI x):szI (ag x)≤1000000:=by
 have:=ik h
 have h3:=h.2.2
 unfold szI
 rw[this]at h3
 exact h3
theorem fV{x:BI}(h:okI x):bj x.2:=⟨h.1.1,by have:=h.2.2;omega⟩
theorem cS{x:BI}(h:okI x):0≤val x.2∧(x.1=true→0<val x.2)∧(x.2=[]↔val x.2=0):=by
 refine⟨bg h.1.1,fun e=>eW h.1 (h.2.1 e),⟨fun e=>by rw[e];rfl,fun e=>?_⟩⟩
 rcases List.eq_nil_or_concat x.2 with h'|⟨l,y,h'⟩
 ·exact h'
 ·have:=eW h.1 (by rw[h'];simp)
  omega
def pU:aM:=spN false false [ayb] (fun x=>decide (bU x.1)) (fun x=>[RV.d y2Y (aj x.1)])
theorem kv:SpK 206 pU:=spX fun x h=>MN x.1 (auN h)
def dvQ(a b:List Int):List Int:=if h:p6 a b then Classical.choose (Ep a b h)else []
def dvR(a b:List Int):List Int:=if h:p6 a b then Classical.choose (av6 (Ep a b h))else []
theorem agM{a b:List Int}(h:p6 a b):arE a b (dvQ a b) (dvR a b):=by
 unfold dvQ dvR
 rw[dif_pos h,dif_pos h]
 exact(av6 (av6 (Ep a b h))).1
theorem aaO(a b:List Int)(h:p6 a b):Con Tryz.prog 247 [.d aya a,.d aya b] [.d aya (dvQ a b),.d aya (dvR a b)]:=by
 unfold dvQ dvR
 rw[dif_pos h,dif_pos h]
 exact(av6 (av6 (Ep a b h))).2
def Jo:aM:=spN false false [aya,aya] (fun x=>decide (p6 x.1 x.2.1)) (fun x=>[RV.d aya (dvQ x.1 x.2.1),RV.d aya (dvR x.1 x.2.1)])
theorem HD:SpK 247 Jo:=spX fun x h=>aaO x.1 x.2.1 (auN h)
def se:Env:=[(200,yn),(246,CZ),(242,Js),(243,Kg),(201,Jp),(199,Id),(206,pU),(247,Jo)]
theorem ke:EnvAll Tryz.prog se:=⟨sO,ym,Gc,E7,E1,HR,kv,HD,trivial⟩
def asT:Ctx:=CX se []
def ah3(x y:Bool×List Int)(_k:KT):OLR:=match !(x.1==y.1)with|true=>(match x.1 with|true=>some [RV.d ayb (-1)]|false=>some [RV.d ayb 1])|false=>(match x.1 with|true=>(match decide (bj y.2∧bj x.2)with|true=>some [RV.d ayb (cJ (val y.2) (val x.2))]|false=>none)|false=>(match decide (bj x.2∧bj y.2)with|true=>some [RV.d ayb (cJ (val x.2) (val y.2))]|false=>none))
theorem aoa(x y:Bool×List Int):RS asT 148 [.d y2Y x,.d y2Y y] (ah3 x y):=rsX
def asa:Ctx:=CX se []
def ahq(x y:Bool×List Int)(_k:KT):OLR:=match x.1==y.1 with|true=>(match decide (bj x.2∧bj y.2)with|true=>(match decide (bj (dig (max x.2.length y.2.length+1) (val x.2+val y.2)))with|true=>some [RV.d y2Y (aj (cC x.1 (val (dig (max x.2.length y.2.length+1) (val x.2+val y.2)))))]|false=>none)|false=>none)|false=>(match decide (bj x.2∧bj y.2)with|true=>(match decide ((cJ (val x.2) (val y.2))<0)with|true=>(match decide (nP y.2 x.2)with|true=>(match decide (bj (dig y.2.length (val y.2-val x.2)))with|true=>some [RV.d y2Y (aj (cC y.1 (val (dig y.2.length (val y.2-val x.2)))))]|false=>none)|false=>none)|false=>(match decide (nP x.2 y.2)with|true=>(match decide (bj (dig x.2.length (val x.2-val y.2)))with|true=>some [RV.d y2Y (aj (cC x.1 (val (dig x.2.length (val x.2-val y.2)))))]|false=>none)|false=>none))|false=>none)
theorem app(x y:Bool×List Int):RS asa 195 [.d y2Y x,.d y2Y y] (ahq x y):=rsX
def apB:Ctx:=CX se []
def ahy(x y:Bool×List Int)(_k:KT):OLR:=match decide (bj x.2∧bj y.2)with|true=>(match decide (bj (dig (x.2.length+y.2.length) (val x.2*val y.2)))with|true=>some [RV.d y2Y (aj (cC (!(x.1==y.1)) (val (dig (x.2.length+y.2.length) (val x.2*val y.2)))))]|false=>none)|false=>none
theorem apj(x y:Bool×List Int):RS apB 149 [.d y2Y x,.d y2Y y] (ahy x y):=rsX
def asA:Ctx:=CX se []
def afn(x:Bool×List Int)(_k:KT):OLR:=match decide (x.2.length*4≤140737488355328∧x.2.length≤140737488355328)with|true=>(match decide (bj x.2)with|true=>some [RV.d y2Y (aj (cC (!x.1) (val x.2)))]|false=>none)|false=>none
theorem aot(x:Bool×List Int):RS asA 196 [.d y2Y x] (afn x):=rsX
def anJ:Ctx:=CX se []
def ah5(x:Bool×List Int)(_k:KT):OLR:=match x.1 with|true=>some [RV.d ayb (-1)]|false=>(match decide ((x.2.length:Int)>0)with|true=>some [RV.d ayb 1]|false=>some [RV.d ayb 0])
theorem aoR(x:Bool×List Int):RS anJ 198 [.d y2Y x] (ah5 x):=rsX
theorem abV(x:BI)(h:okI x):Con Tryz.prog 198 [.d y2Y x] [.d ayb (cJ (ag x) 0)]:=by
 refine aO ke (aoR _ ⟨0,?_⟩)
 obtain⟨h0,h1,h2⟩:=cS h
 unfold ah5
 rw[cg]
 unfold cC
 cases hx:x.1
 ·simp only[cond_false]
  rcases avt 0 (val x.2)with hc|hc
  ·have:x.2≠[]:=fun e=>by rw[h2]at e;omega
   have:=avF.2 this
   rw[auO (by omega),c8 hc]
  ·have e:x.2=[]:=h2.2 (by omega)
   rw[e]
   rfl
 ·simp only[cond_true]
  rw[df (by have:=h1 hx;omega)]
theorem Nx{a b:Int}(_ha:0≤a)(_hb:0≤b):cJ (-a) (-b)=cJ b a:=by
 rcases awT a b with h|h|h
 ·rw[c8 (by omega),c8 h]
 ·rw[h,dU,dU]
 ·rw[df (by omega),df h]
theorem K0(x y:BI)(h:okI x∧okI y):Con Tryz.prog 148 [.d y2Y x,.d y2Y y] [.d ayb (cJ (ag x) (ag y))]:=by
 refine aO ke (aoa _ _ ⟨0,?_⟩)
 obtain⟨hx,hy⟩:=h
 obtain⟨x0,x1,x2⟩:=cS hx
 obtain⟨y0,y1,y2⟩:=cS hy
 have lx:=fV hx
 have ly:=fV hy
 unfold ah3
 rw[cg,cg,auO (show bj x.2∧bj y.2 from⟨lx,ly⟩),auO (show bj y.2∧bj x.2 from⟨ly,lx⟩)]
 unfold cC
 cases ex:x.1<;>cases ey:y.1<;>simp only[cond_true,cond_false]
 ·rfl
 ·have:=y1 ey
  rw[c8 (a:=val x.2) (b:= -val y.2) (by omega)]
  rfl
 ·have:=x1 ex
  rw[df (a:= -val x.2) (b:=val y.2) (by omega)]
  rfl
 ·rw[Nx x0 y0]
  rfl
theorem SG{a b:List Int}(ha:Lim a)(hb:Lim b):val (dig (max a.length b.length+1) (val a+val b))=val a+val b:=by
 have h1:=cA ha
 have h2:=cA hb
 have h3:=bg ha
 have h4:=bg hb
 have h5:=dt (Nat.le_max_left a.length b.length)
 have h6:=dt (Nat.le_max_right a.length b.length)
 have:=ct (max a.length b.length)
 exact ie _ _ (by omega) (by rw[cD];omega)
theorem B6{a b:List Int}(ha:Lim a)(hb:Lim b)(hle:val b≤val a):val (dig a.length (val a-val b))=val a-val b:=by
 have h1:=cA ha
 have h4:=bg hb
 exact ie _ _ (by omega) (by omega)
theorem Ph{a b:List Int}(ha:Lim a)(hb:Lim b):val (dig (a.length+b.length) (val a*val b))=val a*val b:=by
 have h1:=cA ha
 have h2:=cA hb
 have h3:=bg ha
 have h4:=bg hb
 refine ie _ _ (avX h3 h4) ?_
 rw[fI]
 have e1:=avb (avA h1) h4
 have e2:=Int.mul_lt_mul_of_pos_left h2 (ct a.length)
 omega
theorem ael(x y:BI)(h:okI x∧okI y):Con Tryz.prog 195 [.d y2Y x,.d y2Y y] [.d y2Y (aj (ag x+ag y))]:=by
 refine aO ke (app _ _ ⟨0,?_⟩)
 obtain⟨hx,hy⟩:=h
 obtain⟨x0,x1,x2⟩:=cS hx
 obtain⟨y0,y1,y2⟩:=cS hy
 have lx:=fV hx
 have ly:=fV hy
 have sx:=hx.2.2
 have sy:=hy.2.2
 unfold ahq
 rw[cg,cg,auO (show bj x.2∧bj y.2 from⟨lx,ly⟩),auO (show bj (dig (max x.2.length y.2.length+1) (val x.2+val y.2)) from jn (by omega) _),SG lx.1 ly.1,auO (show bj (dig x.2.length (val x.2-val y.2)) from jn (by omega) _),auO (show bj (dig y.2.length (val y.2-val x.2)) from jn (by omega) _)]
 cases hs:x.1==y.1
 ·dsimp only
  rcases avt (val x.2) (val y.2)with hc|hc
  ·rw[df hc,auO (show(-1:Int)<0 by decide),auO (show nP y.2 x.2 from⟨ly,lx,by omega⟩),B6 ly.1 lx.1 (by omega)]
   dsimp only
   unfold cC
   cases ex:x.1<;>cases ey:y.1<;>simp_all<;>congr 2<;>omega
  ·have hcm:decide (cJ (val x.2) (val y.2)<0)=false:=by
    rcases avt (val y.2) (val x.2)with h|h
    ·rw[c8 h];rfl
    ·rw[show val x.2=val y.2 by omega,dU];rfl
   rw[hcm,auO (show nP x.2 y.2 from⟨lx,ly,hc⟩),B6 lx.1 ly.1 hc]
   dsimp only
   unfold cC
   cases ex:x.1<;>cases ey:y.1<;>simp_all<;>congr 2<;>omega
 ·dsimp only
  have e:=avQ.1 hs
  rw[←e]
  unfold cC
  cases x.1
  ·rfl
  ·simp only[cond_true]
   rw[show-(val x.2+val y.2)= -val x.2+ -val y.2 by omega]
theorem KU(x:BI)(h:okI x):Con Tryz.prog 196 [.d y2Y x] [.d y2Y (aj (-ag x))]:=by
 refine aO ke (aot _ ⟨0,?_⟩)
 have sx:=h.2.2
 unfold afn
 rw[cg,auO (show x.2.length*4≤140737488355328∧x.2.length≤140737488355328 by omega),auO (fV h)]
 unfold cC
 cases x.1<;>simp
theorem Ng(x y:BI)(h:okI x∧okI y):Con Tryz.prog 149 [.d y2Y x,.d y2Y y] [.d y2Y (aj (ag x*ag y))]:=by
 refine aO ke (apj _ _ ⟨0,?_⟩)
 obtain⟨hx,hy⟩:=h
 have lx:=fV hx
 have ly:=fV hy
 have sx:=hx.2.2
 have sy:=hy.2.2
 unfold ahy
 rw[cg,cg,auO (show bj x.2∧bj y.2 from⟨lx,ly⟩),auO (show bj (dig (x.2.length+y.2.length) (val x.2*val y.2)) from jn (by omega) _),Ph lx.1 ly.1]
 unfold cC
 cases x.1<;>cases y.1<;>simp[Int.neg_mul,axY]
def pC:aM:=spN false false [y2Y,y2Y] (fun x=>decide (okI x.1∧okI x.2.1)) (fun x=>[RV.d y2Y (aj (ag x.1+ag x.2.1))])
theorem lc:SpK 195 pC:=spX fun x h=>ael x.1 x.2.1 (auN h)
def JZ:Env:=(195,pC)::se
theorem By:EnvAll Tryz.prog JZ:=⟨lc,ke⟩
def as5:Ctx:=CX JZ []
def ahl(x y:Bool×List Int)(_k:KT):OLR:=match !y.1 with|true=>(match decide (okI x∧okI (decide ((y.2.length:Int)>0),y.2))with|true=>some [RV.d y2Y (aj (ag x+ag (decide ((y.2.length:Int)>0),y.2)))]|false=>none)|false=>(match decide (okI x∧okI (false,y.2))with|true=>some [RV.d y2Y (aj (ag x+ag (false,y.2)))]|false=>none)
theorem ao1(x y:Bool×List Int):RS as5 272 [.d y2Y x,.d y2Y y] (ahl x y):=rsX
theorem Vg{y:BI}(h:okI y):okI (!y.1&&decide ((y.2.length:Int)>0),y.2)∧ag (!y.1&&decide ((y.2.length:Int)>0),y.2)= -ag y:=by
 obtain⟨y0,y1,y2⟩:=cS h
 refine⟨⟨h.1,fun e=>?_,h.2.2⟩,?_⟩
 ·simp only[auW,decide_eq_true_eq]at e
  intro e'
  have e2:=e.2
  have e'':y.2=[]:=e'
  rw[e'']at e2
  simp at e2
 ·rw[cg,cg]
  unfold cC
  dsimp only
  cases ey:y.1
  ·simp only[Bool.not_false,auS,cond_false]
   rcases avt 0 (val y.2)with hc|hc
   ·have:y.2≠[]:=fun e=>by rw[y2]at e;omega
    have:=avF.2 this
    rw[auO (by omega)]
    rfl
   ·have e:y.2=[]:=y2.2 (by omega)
    rw[e]
    rfl
  ·simp
theorem adK(x y:BI)(h:okI x∧okI y):Con Tryz.prog 272 [.d y2Y x,.d y2Y y] [.d y2Y (aj (ag x-ag y))]:=by
 refine aO By (ao1 _ _ ⟨0,?_⟩)
 obtain⟨hx,hy⟩:=h
 obtain⟨f1,f2⟩:=Vg hy
 rw[Int.sub_eq_add_neg,←f2]
 unfold ahl
 cases ey:y.1
 ·rw[ey]at f1
  simp only[Bool.not_false,auS]at f1 ⊢
  rw[auO ⟨hx,f1⟩]
 ·rw[ey]at f1
  simp only[Bool.not_true,ax4]at f1 ⊢
  rw[auO ⟨hx,f1⟩]
def Ub:aM:=spN false false [y2Y,y2Y] (fun x=>decide (okI x.1∧okI x.2.1)) (fun x=>[RV.d y2Y (aj (ag x.1-ag x.2.1))])
theorem VR:SpK 272 Ub:=spX fun x h=>adK x.1 x.2.1 (auN h)
def Y2:Env:=(272,Ub)::JZ
theorem Ob:EnvAll Tryz.prog Y2:=⟨VR,By⟩
def aog:Ctx:=CX Y2 []
def ahb(x y:Bool×List Int)(_k:KT):OLR:=let y1:=bj (dvQ x.2 y.2);let y2:=bj (dvR x.2 y.2);let y3:=aj (cC x.1 (val (dvR x.2 y.2)));let y4:=aj (cC (!(x.1==y.1)) (val (dvQ x.2 y.2)));let y5:OLR:=match decide (((y3.2).length:Int)>0)with|true=>(match !((y3.1)==y.1)with|true=>(match decide (bU (1:Int))with|true=>(match decide (okI y4∧okI (aj (1:Int)))with|true=>(match decide (okI y3∧okI y)with|true=>dup (.b .l .l) (some [RV.d y2Y (aj (ag y4-ag (aj (1:Int)))),RV.d y2Y (aj (ag y3+ag y)),RV.d ayb 0])|false=>none)|false=>none)|false=>none)|false=>dup (.b .l .l) (some [RV.d y2Y y4,RV.d y2Y y3,RV.d ayb 0]))|false=>dup (.b .l .l) (some [RV.d y2Y y4,RV.d y2Y y3,RV.d ayb 0]);let y6:OLR:=match decide y2 with|true=>y5|false=>none;match(y.2.length:Int)==0 with|true=>some [RV.d y2Y (false,[]),RV.d y2Y (false,[]),RV.d ayb 6]|false=>(match decide (p6 x.2 y.2)with|true=>dl (match decide y1 with|true=>dl (match decide y2 with|true=>dup (.b .l .l) y5|false=>none) (dup (.b (.b .l .l) (.b .l .l)) y6)|false=>none) (dup (.b .l .l) (dl (match decide y1 with|true=>dup (.b .l .l) y6|false=>none) (match decide y1 with|true=>y6|false=>none)))|false=>none)
theorem aox(x y:Bool×List Int):RS aog 248 [.d y2Y x,.d y2Y y] (ahb x y):=rsX
def fy(x y:BI):Prop:=okI x∧okI y∧0<ag y
instance (x y:BI):Decidable (fy x y):=by unfold fy;infer_instance
theorem MR{a b:Int}(_ha:0≤a)(hb:0<b):(a%b=0→ -a/b= -(a/b)∧ -a%b=0)∧(0<a%b→ -a/b= -(a/b)-1∧ -a%b= -(a%b)+b):=by
 have h1:=av4 a (show b≠0 by omega)
 have h2:=avC a hb
 have h3:=avK a b
 constructor
 ·intro h
  have e: -a=b* -(a/b):=by rw[axY];omega
  constructor
  ·rw[e,aw8 _ (by omega)]
  ·rw[e,Int.mul_emod_right]
 ·intro h
  have e: -a=(b-a%b)+b*(-(a/b)-1):=by rw[Int.mul_sub,axY,axf];omega
  constructor
  ·rw[e,awL _ _ (by omega),awd (by omega) (by omega)];omega
  ·rw[e,awV,aw7 (by omega) (by omega)];omega
theorem qQ:okI (aj 1):=by decide
theorem Eh(n:Bool){v:Int}:szI (cC n v)=szI v:=by unfold cC;cases n<;>simp[iX]
theorem Kq(x y:BI)(h:fy x y):Con Tryz.prog 248 [.d y2Y x,.d y2Y y] [.d y2Y (aj (ag x/ag y)),.d y2Y (aj (ag x%ag y)),.d ayb 0]:=by
 refine aO Ob (aox _ _ ⟨0,?_⟩)
 obtain⟨hx,hy,hp⟩:=h
 obtain⟨x0,x1,x2⟩:=cS hx
 obtain⟨y0,y1,y2⟩:=cS hy
 have sx:=hx.2.2
 have sy:=hy.2.2
 have ey:y.1=false:=by
  cases e:y.1
  ·rfl
  ·rw[cg,e]at hp
   simp only[cC,cond_true]at hp
   omega
 have dy:ag y=val y.2:=by rw[cg,ey];rfl
 rw[dy]at hp
 have hdv:p6 x.2 y.2:=⟨⟨hx.1.1,by omega⟩,⟨hy.1.1,by omega⟩,hp⟩
 obtain⟨lq,lr,sq,sr,vq,vr⟩:=agM hdv
 have hne:y.2≠[]:=fun e=>by rw[y2]at e;omega
 have hylen:=avF.2 hne
 have r0:=av4 (val x.2) (show val y.2≠0 by omega)
 have r1:=avC (val x.2) hp
 have q0:0≤val x.2/val y.2:=av2 x0 y0
 have q1:val x.2/val y.2≤val x.2:=awR _ x0
 have vx:=cA hx.1.1
 have vy:=cA hy.1.1
 have szq:szI (val x.2/val y.2)≤1000000:=fu (by have:=ct 1000000;omega) (by have:=dt sx;omega)
 have szr:szI (val x.2%val y.2)≤1000000:=fu (by have:=ct 1000000;omega) (by have:=dt sy;omega)
 unfold ahb
 simp only[aN]
 rw[show((y.2.length:Int)==0)=false by simp;omega,auO hdv,auO (show bj (dvQ x.2 y.2) from⟨lq,by omega⟩),auO (show bj (dvR x.2 y.2) from⟨lr,by omega⟩),auO (show bU 1 by decide),vq,vr,
  auO (show okI (aj (cC (!(x.1==y.1)) (val x.2/val y.2)))∧okI (aj (1:Int)) from⟨bK (by rw[Eh];exact szq),qQ⟩),auO (show okI (aj (cC x.1 (val x.2%val y.2)))∧okI y from⟨bK (by rw[Eh];exact szr),hy⟩)]
 simp only[dec_enc,dy,au]
 have hE1:(aj (cC x.1 (val x.2%val y.2))).1=(x.1&&decide (0<val x.2%val y.2)):=by rw[mK x.1 r0]
 have hE2:(aj (cC x.1 (val x.2%val y.2))).2=ah (val x.2%val y.2).toNat:=by rw[mK x.1 r0]
 rw[hE1,hE2,cg x,ey]
 have hlen:(((ah (val x.2%val y.2).toNat).length:Int)>0)↔0<val x.2%val y.2:=by
  constructor
  ·intro hl
   rcases avt 0 (val x.2%val y.2)with h|h
   ·exact h
   ·rw[show(val x.2%val y.2).toNat=0 by omega,fv]at hl
    simp at hl
  ·intro hl
   have:ah (val x.2%val y.2).toNat≠[]:=fun e=>by rw[gT]at e;omega
   have:=avF.2 this
   omega
 obtain⟨n1,n2⟩:=MR (a:=val x.2) (b:=val y.2) x0 hp
 rcases avt 0 (val x.2%val y.2)with hr|hr
 ·rw[auO (hlen.2 hr),auO hr]
  cases x.1
  ·rfl
  ·obtain⟨e1,e2⟩:=n2 hr
   simp only[cC,cond_true,Bool.not_false,auS,show((true==false):Bool)=false from rfl]
   rw[e1,e2]
 ·rw[auQ (fun h'=>by have:=hlen.1 h';omega)]
  dsimp only
  have e0:val x.2%val y.2=0:=by omega
  cases x.1
  ·simp only[cC,cond_false,show((false==false):Bool)=true from rfl,Bool.not_true]
  ·obtain⟨e1,e2⟩:=n1 e0
   simp only[cC,cond_true,show((true==false):Bool)=false from rfl,Bool.not_false]
   rw[e1,e2,e0]
   rfl
def kZ(x:BI):Bool:=decide (x.2.length≤2)
def Ax(x:BI):Int:=bif kZ x then val x.2 else 0
def apI:Ctx:=CX [] []
def agD(x:Bool×List Int)(_k:KT):OLR:=match(x.2.length:Int)==0 with|true=>some [RV.d (.int .u64) 0,RV.d .bool true]|false=>(match(x.2.length:Int)==1 with|true=>(match bi x.2 0 with|some x1=>some [RV.d (.int .u64) (u64.wrap x1),RV.d .bool true]|none=>none)|false=>(match(x.2.length:Int)==2 with|true=>(match bi x.2 1 with|some x2=>(match bi x.2 0 with|some x3=>some [RV.d (.int .u64) (u64.wrap ((u64.wrap ((u64.wrap x2)*1000000000))+(u64.wrap x3))),RV.d .bool true]|none=>none)|none=>none)|false=>some [RV.d (.int .u64) 0,RV.d .bool false]))
theorem aqF(x:Bool×List Int):RS apI 245 [.d y2Y x] (agD x):=rsX
theorem ac7(x:BI)(h:okI x):Con Tryz.prog 245 [.d y2Y x] [.d (.int .u64) (Ax x),.d .bool (kZ x)]:=by
 refine aO (E:=[]) trivial (aqF _ ⟨0,?_⟩)
 obtain⟨neg,l⟩:=x
 have hl:=h.1.1
 unfold agD Ax kZ
 match l,hl with
 |[],_=>rfl
 |[a],hl=>
  have:=hl.head
  simp only[avk,A6,avH]
  rw[b8 (x:=a) (by omega) (by omega)]
  simp[val]
 |[a,b],hl=>
  have h1:=hl.head
  have h2:=hl.tail.head
  have e1:bi [a,b] 1=some b:=rfl
  have e0:bi [a,b] 0=some a:=rfl
  simp only[e1,e0,avc,axQ]
  rw[b8 (x:=a) (by omega) (by omega),b8 (x:=b) (by omega) (by omega),b8 (x:=b*1000000000) (by omega) (by omega),b8 (x:=b*1000000000+a) (by omega) (by omega)]
  rw[show val [a,b]=b*1000000000+a by simp only[val];omega]
  rfl
 |a::b::c::l,hl=>
  have e:decide ((a::b::c::l).length≤2)=false:=auQ (by simp)
  rw[e,show(((a::b::c::l).length:Int)==0)=false by simp;omega,show(((a::b::c::l).length:Int)==1)=false by simp;omega,show(((a::b::c::l).length:Int)==2)=false by simp;omega]
  rfl
def Vw:aM:=spN false false [y2Y] (fun x=>decide (okI x.1)) (fun x=>[RV.d (.int .u64) (Ax x.1),RV.d .bool (kZ x.1)])
theorem UZ:SpK 245 Vw:=spX fun x h=>ac7 x.1 (auN h)
def Q3:Env:=[(200,yn),(246,CZ),(247,Jo),(245,Vw)]
theorem OH:EnvAll Tryz.prog Q3:=⟨sO,ym,HD,UZ,trivial⟩
def akw:NT:=[((202,6),{keep:=[4,5,6],hl:=5}),((202,24),{keep:=[4,7,9],hl:=3})]
def ic:Ctx:=CX Q3 akw
def me(x y:Bool×List Int)(b3_0:Bool)(b3_1:List Int)(b4_0:Bool)(b4_1:List Int):Cfg:=⟨202,[.blk 0,.seq 40],[(4,.box 2 0),(5,.box 3 0),(6,.box 4 0)],[.box 33 [SB x.1,.d aya x.2],.box 33 [SB y.1,.d aya y.2],.box 33 [SB false,.nil],.box 33 [SB b3_0,.d aya b3_1],.box 33 [SB b4_0,.d aya b4_1]],0,[]⟩
def gC(x y:Bool×List Int)(b3_0:Bool)(b3_1:List Int)(b4_0:Bool)(b4_1:List Int):Cfg:=⟨202,[.blk 0,.seq 40],[(4,.box 2 0),(5,.box 4 0),(6,.box 3 0)],[.box 33 [SB x.1,.d aya x.2],.box 33 [SB y.1,.d aya y.2],.box 33 [SB false,.nil],.box 33 [SB b3_0,.d aya b3_1],.box 33 [SB b4_0,.d aya b4_1]],0,[]⟩
def jk(x y:Bool×List Int)(s7 s9:Int):Cfg:=⟨202,[.blk 2,.seq 33,.seq 37,.blk 1,.lp 6,.blk 0,.seq 40],[(4,.box 2 0),(7,.d (.int .u64) s7),(9,.d (.int .u64) s9)],[.box 33 [SB x.1,.d aya x.2],.box 33 [SB y.1,.d aya y.2],.box 33 [SB false,.nil]],0,[]⟩
def ahX(x y:Bool×List Int)(k:KT):OLR:=let y1:=aj (cC false (val x.2));let y2:=aj (cC false (val y.2));let y3:=me x y (y1.1) (y1.2) (y2.1) (y2.2);let y4:=gC x y (y2.1) (y2.2) (y1.1) (y1.2);let y5:OLR:=match decide (bj y.2)with|true=>k 6 y3|false=>none;let y6:OLR:=match decide (bj y.2)with|true=>k 6 y4|false=>none;dl (match decide (bj x.2)with|true=>dl (match decide (bj y.2)with|true=>dl (k 6 y3) (k 6 y4)|false=>none) (dl (dup (.b .l .l) y5) (dup (.b .l .l) y6))|false=>none) (dl (dl (match decide (bj x.2)with|true=>dup (.b .l .l) y5|false=>none) (match decide (bj x.2)with|true=>y5|false=>none)) (dl (match decide (bj x.2)with|true=>dup (.b .l .l) y6|false=>none) (match decide (bj x.2)with|true=>y6|false=>none)))
theorem arM(x y:Bool×List Int):RS ic 202 [.d y2Y x,.d y2Y y] (ahX x y):=rsX
def Xd(x y:Bool×List Int)(b3_0:Bool)(b3_1:List Int)(b4_0:Bool)(b4_1:List Int)(k:KT):OLR:=match decide ((b4_1.length:Int)>0)with|true=>(match decide (okI (b3_0,b3_1))with|true=>(match decide (okI (b4_0,b4_1))with|true=>(match kZ (b3_0,b3_1)with|true=>(match kZ (b4_0,b4_1)with|true=>k 24 (jk x y (Ax (b3_0,b3_1)) (Ax (b4_0,b4_1)))|false=>(match decide (p6 b3_1 b4_1)with|true=>(match decide (bj (dvR b3_1 b4_1))with|true=>k 6 (me x y b4_0 b4_1 ((aj (cC false (val (dvR b3_1 b4_1)))).1) ((aj (cC false (val (dvR b3_1 b4_1)))).2))|false=>none)|false=>none))|false=>(match decide (p6 b3_1 b4_1)with|true=>(match decide (bj (dvR b3_1 b4_1))with|true=>k 6 (me x y b4_0 b4_1 ((aj (cC false (val (dvR b3_1 b4_1)))).1) ((aj (cC false (val (dvR b3_1 b4_1)))).2))|false=>none)|false=>none))|false=>none)|false=>none)|false=>(match decide (b3_1.length*4≤140737488355328∧b3_1.length≤140737488355328)with|true=>(match decide (bj b3_1)with|true=>some [RV.d y2Y (aj (cC false (val b3_1)))]|false=>none)|false=>none)
theorem Ye(x y:Bool×List Int)(b3_0:Bool)(b3_1:List Int)(b4_0:Bool)(b4_1:List Int):RL ic 6 (me x y b3_0 b3_1 b4_0 b4_1) (Xd x y b3_0 b3_1 b4_0 b4_1):=rlX
def JJ(x y:Bool×List Int)(b3_0:Bool)(b3_1:List Int)(b4_0:Bool)(b4_1:List Int)(k:KT):OLR:=match decide ((b3_1.length:Int)>0)with|true=>(match decide (okI (b4_0,b4_1))with|true=>(match decide (okI (b3_0,b3_1))with|true=>(match kZ (b4_0,b4_1)with|true=>(match kZ (b3_0,b3_1)with|true=>k 24 (jk x y (Ax (b4_0,b4_1)) (Ax (b3_0,b3_1)))|false=>(match decide (p6 b4_1 b3_1)with|true=>(match decide (bj (dvR b4_1 b3_1))with|true=>k 6 (gC x y ((aj (cC false (val (dvR b4_1 b3_1)))).1) ((aj (cC false (val (dvR b4_1 b3_1)))).2) b3_0 b3_1)|false=>none)|false=>none))|false=>(match decide (p6 b4_1 b3_1)with|true=>(match decide (bj (dvR b4_1 b3_1))with|true=>k 6 (gC x y ((aj (cC false (val (dvR b4_1 b3_1)))).1) ((aj (cC false (val (dvR b4_1 b3_1)))).2) b3_0 b3_1)|false=>none)|false=>none))|false=>none)|false=>none)|false=>(match decide (b4_1.length*4≤140737488355328∧b4_1.length≤140737488355328)with|true=>(match decide (bj b4_1)with|true=>some [RV.d y2Y (aj (cC false (val b4_1)))]|false=>none)|false=>none)
theorem ID(x y:Bool×List Int)(b3_0:Bool)(b3_1:List Int)(b4_0:Bool)(b4_1:List Int):RL ic 6 (gC x y b3_0 b3_1 b4_0 b4_1) (JJ x y b3_0 b3_1 b4_0 b4_1):=rlX
def vI(x y:Bool×List Int)(s7 s9:Int)(k:KT):OLR:=match decide (s9>0)with|true=>(match decide (s9=(0:Int))with|true=>none|false=>k 24 (jk x y s9 (Int.tmod s7 s9)))|false=>(match decide (gP s7)with|true=>(match decide (bj (dig 3 s7))with|true=>some [RV.d y2Y (aj (cC false (val (dig 3 s7))))]|false=>none)|false=>none)
theorem Bo(x y:Bool×List Int)(s7 s9:Int):RL ic 24 (jk x y s7 s9) (vI x y s7 s9):=rlX
theorem TZ(x y:BI)(B:Nat)(hB:(B:Int)<18446744073709551616):∀(v u:Nat),u≤B→v≤B→ic.RunsE 24 (jk x y (u:Int) (v:Int)) [.d y2Y (aj ((Nat.gcd u v:Nat):Int))]:=by
 intro v
 induction v using Nat.strongRecOn with
 |ind v ih=>
  intro u hu hv
  rcases avB v with h0|h0
  ·refine Bo _ _ _ _ ⟨0,fun n _=>?_⟩
   have hp:gP (u:Int):=⟨by omega,by omega⟩
   unfold vI
   rw[auQ (show ¬(v:Int)>0 by omega),auO hp,auO (jn (n:=3) (by decide) (u:Int)),Ao hp,show Nat.gcd u v=u by rw[h0];exact Nat.gcd_zero_right u]
   rfl
  ·obtain⟨n0,hn⟩:=ih (u%v) (axI _ h0) v hv (ava (Nat.le_of_lt (axI _ h0)) hv)
   refine Bo _ _ _ _ ⟨n0,fun n hn'=>?_⟩
   unfold vI
   rw[auO (by omega),auQ (by omega),jA (by omega)]
   dsimp only
   rw[show((u:Int)%(v:Int))=((u%v:Nat):Int) by simp,awZ u v,Nat.gcd_rec v u,awZ]
   exact hn n hn'
theorem AZ(v:Int):cC false v=v:=rfl
theorem jf(u:Nat):aj (u:Int)=(false,ah u):=by unfold aj;rw[auQ (by omega),awf]
theorem Bn{u:Nat}(h:(ah u).length≤2):u≤(pw 2).toNat:=by
 have h1:=cA (cB u)
 rw[bZ]at h1
 have h2:=dt h
 omega
theorem al3:(((pw 2).toNat:Nat):Int)<18446744073709551616:=by
 have h3:pw 2=1000000000000000000:=by decide
 rw[h3]
 decide
theorem GX{k:Nat→Cfg→OLR}{u v:Nat}(hu:szI u≤1000000)(hv:szI v≤1000000){r:List RV}{H:Int→Int→Cfg}{D:Int→Cfg}
  (h1:v=0→r=[.d y2Y (aj (u:Int))]) (h2:v≠0→kZ (aj (u:Int))=true→kZ (aj (v:Int))=true→k 24 (H (u:Int) (v:Int))=some r) (h3:v≠0→k 6 (D ((u%v:Nat):Int))=some r) (D':List Int→Cfg) (hD:D' (dvR (ah u) (ah v))=D (val (dvR (ah u) (ah v)))):
  (match decide (((ah v).length:Int)>0)with
   |true=>(match decide (okI (aj (u:Int)))with
    |true=>(match decide (okI (aj (v:Int)))with
     |true=>(match kZ (aj (u:Int))with
      |true=>(match kZ (aj (v:Int))with
       |true=>k 24 (H (Ax (aj (u:Int))) (Ax (aj (v:Int))))
       |false=>(match decide (p6 (ah u) (ah v))with
        |true=>(match decide (bj (dvR (ah u) (ah v)))with
         |true=>k 6 (D' (dvR (ah u) (ah v)))
         |false=>none)
        |false=>none))
      |false=>(match decide (p6 (ah u) (ah v))with
        |true=>(match decide (bj (dvR (ah u) (ah v)))with
         |true=>k 6 (D' (dvR (ah u) (ah v)))
         |false=>none)
        |false=>none))
     |false=>none)
    |false=>none)
   |false=>(match decide ((ah u).length*4≤140737488355328∧(ah u).length≤140737488355328)with
    |true=>(match decide (bj (ah u))with
     |true=>some [.d y2Y (aj (cC false (val (ah u))))]
     |false=>none)
    |false=>none))=some r:=by
 have lu:(ah u).length≤1000000:=by have:=hu;unfold szI at this;rwa [awf]at this
 have lv:(ah v).length≤1000000:=by have:=hv;unfold szI at this;rwa [awf]at this
 rcases avB v with h0|h0
 ·subst h0
  rw[h1 rfl,show decide (((ah 0).length:Int)>0)=false from rfl,auO (show(ah u).length*4≤140737488355328∧(ah u).length≤140737488355328 by omega),auO (show bj (ah u) from⟨cB u,by omega⟩),bZ]
  rfl
 ·have hne:ah v≠[]:=fun e=>by rw[gT]at e;omega
  have hl:=avF.2 hne
  have hvv:=bZ v
  have hvu:=bZ u
  have hdv:p6 (ah u) (ah v):=⟨⟨cB u,by omega⟩,⟨cB v,by omega⟩,by omega⟩
  obtain⟨_,lr,_,sr,_,vr⟩:=agM hdv
  have hD2:k 6 (D' (dvR (ah u) (ah v)))=some r:=by
   rw[hD,vr,hvv,hvu]
   exact h3 (by omega)
  rw[auO (by omega),auO (bK hu),auO (bK hv),auO hdv,auO (show bj (dvR (ah u) (ah v)) from⟨lr,by omega⟩)]
  dsimp only
  cases hb1:kZ (aj (u:Int))
  ·exact hD2
  ·cases hb2:kZ (aj (v:Int))
   ·exact hD2
   ·dsimp only
    have:=h2 (by omega) hb1 hb2
    unfold Ax
    rw[hb1,hb2]
    simp only[cond_true,jf]
    rw[hvv,hvu]
    exact this
theorem Rv(x y:BI):∀(v u:Nat),szI u≤1000000→szI v≤1000000→
  ic.RunsE 6 (me x y false (ah u) false (ah v)) [.d y2Y (aj ((Nat.gcd u v:Nat):Int))]∧ic.RunsE 6 (gC x y false (ah v) false (ah u)) [.d y2Y (aj ((Nat.gcd u v:Nat):Int))]:=by
 intro v
 induction v using Nat.strongRecOn with
 |ind v ih=>
  intro u hu hv
  have hw:kZ (aj (u:Int))=true→kZ (aj (v:Int))=true→ic.RunsE 24 (jk x y (u:Int) (v:Int)) [.d y2Y (aj ((Nat.gcd u v:Nat):Int))]:=fun h1 h2=>by
   unfold kZ at h1 h2
   rw[jf]at h1 h2
   exact TZ x y _ al3 v u (Bn (auN h1)) (Bn (auN h2))
  have hd:v≠0→ic.RunsE 6 (me x y false (ah v) false (ah (u%v))) [.d y2Y (aj ((Nat.gcd u v:Nat):Int))]∧ic.RunsE 6 (gC x y false (ah (u%v)) false (ah v)) [.d y2Y (aj ((Nat.gcd u v:Nat):Int))]:=fun h0=>by
   have hm:=axI u (Nat.pos_of_ne_zero h0)
   have:=ih (u%v) hm v hv (ava (dG (by omega)) hv)
   rw[awZ u v,Nat.gcd_rec v u,awZ (u%v) v]
   exact this
  have hcommon:∃n0,∀n,n0≤n→(kZ (aj (u:Int))=true→kZ (aj (v:Int))=true→ic.k n 24 (jk x y (u:Int) (v:Int))=some [.d y2Y (aj ((Nat.gcd u v:Nat):Int))])∧(v≠0→ic.k n 6 (me x y false (ah v) false (ah (u%v)))=some [.d y2Y (aj ((Nat.gcd u v:Nat):Int))]∧ic.k n 6 (gC x y false (ah (u%v)) false (ah v))=some [.d y2Y (aj ((Nat.gcd u v:Nat):Int))]):=by
   have g1:∃n1,∀n,n1≤n→(kZ (aj (u:Int))=true→kZ (aj (v:Int))=true→ic.k n 24 (jk x y (u:Int) (v:Int))=some [.d y2Y (aj ((Nat.gcd u v:Nat):Int))]):=by
    by_cases hb:kZ (aj (u:Int))=true∧kZ (aj (v:Int))=true
    ·obtain⟨n,h⟩:=hw hb.1 hb.2
     exact⟨n,fun m hm _ _=>h m hm⟩
    ·exact⟨0,fun n _ h1 h2=>absurd ⟨h1,h2⟩ hb⟩
   have g2:∃n1,∀n,n1≤n→(v≠0→ic.k n 6 (me x y false (ah v) false (ah (u%v)))=some [.d y2Y (aj ((Nat.gcd u v:Nat):Int))]∧ic.k n 6 (gC x y false (ah (u%v)) false (ah v))=some [.d y2Y (aj ((Nat.gcd u v:Nat):Int))]):=by
    by_cases hb:v=0
    ·exact⟨0,fun n _ h=>absurd hb h⟩
    ·obtain⟨⟨n1,h1⟩,⟨n2,h2⟩⟩:=hd hb
     exact⟨max n1 n2,fun n hn _=>⟨h1 n (by omega),h2 n (by omega)⟩⟩
   obtain⟨n1,h1⟩:=g1
   obtain⟨n2,h2⟩:=g2
   exact⟨max n1 n2,fun n hn=>⟨h1 n (by omega),h2 n (by omega)⟩⟩
  obtain⟨n0,hc⟩:=hcommon
  have hz:v=0→([.d y2Y (aj ((Nat.gcd u v:Nat):Int))]:List RV)=[.d y2Y (aj (u:Int))]:=fun e=>by subst e;rw[Nat.gcd_zero_right]
  constructor
  ·refine Ye _ _ _ _ _ _ ⟨n0,fun n hn=>?_⟩
   have:=GX (k:=ic.k n) hu hv (H:=fun a b=>jk x y a b) (D:=fun z=>me x y false (ah v) (aj z).1 (aj z).2) hz (fun _ h1 h2=>(hc n hn).1 h1 h2) (fun h0=>by rw[jf];exact((hc n hn).2 h0).1) (fun l=>me x y false (ah v) (aj (cC false (val l))).1 (aj (cC false (val l))).2) rfl
   rw[jf,jf]at this
   exact this
  ·refine ID _ _ _ _ _ _ ⟨n0,fun n hn=>?_⟩
   have:=GX (k:=ic.k n) hu hv (H:=fun a b=>jk x y a b) (D:=fun z=>gC x y (aj z).1 (aj z).2 false (ah v)) hz (fun _ h1 h2=>(hc n hn).1 h1 h2) (fun h0=>by rw[jf];exact((hc n hn).2 h0).2) (fun l=>gC x y (aj (cC false (val l))).1 (aj (cC false (val l))).2 false (ah v)) rfl
   rw[jf,jf]at this
   exact this
theorem ac2(x y:BI)(h:okI x∧okI y):Con Tryz.prog 202 [.d y2Y x,.d y2Y y] [.d y2Y (aj ((Int.gcd (ag x) (ag y):Nat):Int))]:=by
 refine aO OH (show ic.Res _ _ _ from ?_)
 obtain⟨hx,hy⟩:=h
 obtain⟨x0,_,_⟩:=cS hx
 obtain⟨y0,_,_⟩:=cS hy
 have ex:((ag x).natAbs:Int)=val x.2:=by rw[cg];unfold cC;cases x.1<;>simp<;>omega
 have ey:((ag y).natAbs:Int)=val y.2:=by rw[cg];unfold cC;cases y.1<;>simp<;>omega
 have szx:szI ((ag x).natAbs:Int)≤1000000:=ava (dG (by omega)) (iO hx)
 have szy:szI ((ag y).natAbs:Int)≤1000000:=ava (dG (by omega)) (iO hy)
 obtain⟨⟨n1,h1⟩,⟨n2,h2⟩⟩:=Rv x y (ag y).natAbs (ag x).natAbs szx szy
 refine arM _ _ ⟨max n1 n2,?_⟩
 have h1:=h1 (max n1 n2) (by omega)
 have h2:=h2 (max n1 n2) (by omega)
 unfold ahX
 simp only[aN]
 rw[auO (fV hx),auO (fV hy),AZ,AZ,←ex,←ey,jf,jf]
 dsimp only
 rw[h1,h2]
 simp only[au]
 rfl
abbrev BR:=BI×BI
def ai(q:Rat):BR:=(aj q.num,aj (q.den:Int))
def ae(x:BR):Rat:=mkRat (ag x.1) (ag x.2).toNat
theorem az(q:Rat):ae (ai q)=q:=by
 unfold ae ai
 dsimp only
 rw[dec_enc,dec_enc,awH,Rat.mkRat_self]
def okR(x:BR):Prop:=okI x.1∧okI x.2∧0<ag x.2∧Int.gcd (ag x.1) (ag x.2)=1∧x.1.2.length≤480000∧x.2.2.length≤480000
instance (x:BR):Decidable (okR x):=by unfold okR;infer_instance
theorem da{x:BR}(h:okR x):(ae x).num=ag x.1∧((ae x).den:Int)=ag x.2:=by
 obtain⟨h1,h2,h3,h4,_⟩:=h
 unfold ae
 rw[axR,axS]
 have hg:(ag x.2).toNat.gcd (ag x.1).natAbs=1:=by
  rw[awZ,show(ag x.2).toNat=(ag x.2).natAbs by omega]
  exact h4
 rw[hg,avf (by omega),avf (by omega)]
 constructor
 ·simp
 ·rw[Nat.div_one];omega
theorem Xm{x:BR}(h:okR x):x=ai (ae x):=by
 obtain⟨e1,e2⟩:=da h
 unfold ai
 rw[e1,e2,←ik h.1,←ik h.2.1]
def bdR(k:Nat)(q:Rat):Prop:=szI q.num≤k∧szI (q.den:Int)≤k
theorem rm{q:Rat}{k:Nat}(h:bdR k q)(hk:k≤480000):okR (ai q):=by
 obtain⟨h1,h2⟩:=h
 have hd:=q.den_pos
 refine⟨bK (by omega),bK (by omega),?_,?_,by show szI q.num≤480000;omega,by show szI (q.den:Int)≤480000;omega⟩
 ·show 0<ag (aj (q.den:Int))
  rw[dec_enc];omega
 ·show Int.gcd (ag (aj q.num)) (ag (aj (q.den:Int)))=1
  rw[dec_enc,dec_enc]
  exact q.reduced
theorem Ez{x:BR}(h:okR x):bdR 480000 (ae x):=by
 obtain⟨e1,e2⟩:=da h
 obtain⟨h1,h2,_,_,h5,h6⟩:=h
 unfold bdR szI
 rw[e1,e2]
 rw[ik h1]at h5
 rw[ik h2]at h6
 exact⟨h5,h6⟩
theorem cN{j k:Nat}{q:Rat}(h:bdR j q)(hk:j≤k):bdR k q:=⟨ava h.1 hk,ava h.2 hk⟩
theorem L4(a:Int)(g:Nat):(a/(g:Int)).natAbs≤a.natAbs∨¬(g:Int)∣a:=by
 by_cases h:(g:Int)∣a
 ·left
  obtain⟨k,rfl⟩:=h
  rcases avB g with h0|h0
  ·subst h0;simp
  ·rw[aw8 _ (by omega),axE]
   exact Nat.le_mul_of_pos_left _ (by omega)
 ·exact .inr h
theorem uT{n:Int}{d k:Nat}(hd:d≠0)(h1:szI n≤k)(h2:szI (d:Int)≤k):bdR k (mkRat n d):=by
 unfold bdR
 rw[axR,axS,avf hd,avf hd]
 constructor
 ·refine ava (dG ?_) h1
  refine(L4 n (d.gcd n.natAbs)).resolve_right (fun h=>h ?_)
  have:=Nat.gcd_dvd_right d n.natAbs
  exact Int.ofNat_dvd_left.2 this
 ·exact ava (dG (by rw[awf,awf];exact Nat.div_le_self _ _)) h2
theorem wQ{k:Nat}{a:Rat}(h:bdR k a):bdR k (-a):=by
 refine⟨?_,h.2⟩
 rw[Rat.neg_num,iX]
 exact h.1
theorem KR{j k:Nat}{a b:Rat}(ha:bdR j a)(hb:bdR k b):bdR (j+k+1) (a+b):=by
 rw[Rat.add_def']
 have d1:=a.den_pos
 have d2:=b.den_pos
 refine uT (axt (by omega) (by omega)) (wH (c9 ha.1 hb.2) ?_) ?_
 ·rw[Nat.add_comm];exact c9 hb.1 ha.2
 ·rw[awh];exact ava (c9 ha.2 hb.2) (by omega)
theorem adp{j k:Nat}{a b:Rat}(ha:bdR j a)(hb:bdR k b):bdR (j+k+1) (a-b):=by
 rw[axo];exact KR ha (wQ hb)
theorem MK{j k:Nat}{a b:Rat}(ha:bdR j a)(hb:bdR k b):bdR (j+k) (a*b):=by
 rw[Rat.mul_def']
 have d1:=a.den_pos
 have d2:=b.den_pos
 refine uT (axt (by omega) (by omega)) (c9 ha.1 hb.1) ?_
 rw[awh]
 exact c9 ha.2 hb.2
theorem aeH{k:Nat}{a:Rat}(h:bdR k a)(h0:a≠0):bdR k a⁻¹:=by
 have hn:a.num≠0:=fun e=>h0 (Rat.num_eq_zero.1 e)
 rw[Rat.inv_def]
 rcases awN hn with h1|h1
 ·rw[←Rat.neg_divInt_neg,show-a.num=(((-a.num).toNat:Nat):Int) by omega,axj]
  refine uT (by omega) (by rw[iX];exact h.2) ?_
  rw[show(((-a.num).toNat:Nat):Int)= -a.num by omega,iX]
  exact h.1
 ·rw[show a.num=((a.num.toNat:Nat):Int) by omega,axj]
  refine uT (by omega) h.2 ?_
  rw[show((a.num.toNat:Nat):Int)=a.num by omega]
  exact h.1
theorem abA{j k:Nat}{a b:Rat}(ha:bdR j a)(hb:bdR k b)(h0:b≠0):bdR (j+k) (a/b):=by
 rw[axZ];exact MK ha (aeH hb h0)
def fe(x y:BI):BR:=ai (Rat.divInt (ag x) (ag y))
def iv(x y:BI):Prop:=okI x∧okI y∧ag y≠0
instance (x y:BI):Decidable (iv x y):=by unfold iv;infer_instance
theorem nA{n d:Int}(hd:0<d):ai (Rat.divInt n d)=(aj (n/(Int.gcd n d:Int)),aj (d/(Int.gcd n d:Int))):=by
 obtain⟨D,rfl⟩:=av7 (avA hd)
 unfold ai
 rw[axj,axR,axS,avf (by omega),avf (by omega)]
 have e:Int.gcd n (D:Int)=D.gcd n.natAbs:=by rw[awZ];rfl
 rw[e,Int.natCast_ediv]
def vN:aM:=spN true false [y2Y] (fun x=>decide (okI x.1)) (fun x=>[RV.d ayb (cJ (ag x.1) 0)])
theorem ph:SpK 198 vN:=spX fun x h=>abV x.1 (auN h)
def sd:aM:=spN true false [y2Y,y2Y] (fun x=>decide (okI x.1∧okI x.2.1)) (fun x=>[RV.d ayb (cJ (ag x.1) (ag x.2.1))])
theorem mC:SpK 148 sd:=spX fun x h=>K0 x.1 x.2.1 (auN h)
def vg:aM:=spN false false [y2Y] (fun x=>decide (okI x.1)) (fun x=>[RV.d y2Y (aj (-ag x.1))])
theorem pK:SpK 196 vg:=spX fun x h=>KU x.1 (auN h)
def uP:aM:=spN false false [y2Y,y2Y] (fun x=>decide (okI x.1∧okI x.2.1)) (fun x=>[RV.d y2Y (aj (ag x.1*ag x.2.1))])
theorem qc:SpK 149 uP:=spX fun x h=>Ng x.1 x.2.1 (auN h)
def CF:aM:=spN false false [y2Y,y2Y] (fun x=>decide (fy x.1 x.2.1)) (fun x=>[RV.d y2Y (aj (ag x.1/ag x.2.1)),RV.d y2Y (aj (ag x.1%ag x.2.1)),RV.d ayb 0])
theorem yg:SpK 248 CF:=spX fun x h=>Kq x.1 x.2.1 (auN h)
def JA:aM:=spN false false [y2Y,y2Y] (fun x=>decide (okI x.1∧okI x.2.1)) (fun x=>[RV.d y2Y (aj ((Int.gcd (ag x.1) (ag x.2.1):Nat):Int))])
theorem G4:SpK 202 JA:=spX fun x h=>ac2 x.1 x.2.1 (auN h)
def IW:Env:=[(206,pU),(198,vN),(148,sd),(195,pC),(196,vg),(149,uP),(248,CF),(202,JA)]
theorem Bs:EnvAll Tryz.prog IW:=⟨kv,ph,mC,lc,pK,qc,yg,G4,trivial⟩
def aqZ:Ctx:=CX IW []
def agU(_k:KT):OLR:=match decide (bU (1:Int))with|true=>some [RV.d y2Y (aj (1:Int))]|false=>none
theorem ane:RS aqZ 203 [] (agU):=rsX
def apL:Ctx:=CX IW []
def agX(x y:Bool×List Int)(_k:KT):OLR:=match decide (fy x y)with|true=>some [RV.d y2Y (aj (ag x/ag y))]|false=>none
theorem anH(x y:Bool×List Int):RS apL 204 [.d y2Y x,.d y2Y y] (agX x y):=rsX
theorem acH:Con Tryz.prog 203 [] [.d y2Y (aj 1)]:=by
 refine aO Bs (ane ⟨0,?_⟩)
 unfold agU
 rw[auO (show bU 1 by decide)]
theorem abX(x y:BI)(h:fy x y):Con Tryz.prog 204 [.d y2Y x,.d y2Y y] [.d y2Y (aj (ag x/ag y))]:=by
 refine aO Bs (anH _ _ ⟨0,?_⟩)
 unfold agX
 rw[auO h]
def yb:aM:=spN false false [] (fun _=>true) (fun _=>[RV.d y2Y (aj 1)])
theorem uz:SpK 203 yb:=spX fun _ _=>acH
def QX:aM:=spN false false [y2Y,y2Y] (fun x=>decide (fy x.1 x.2.1)) (fun x=>[RV.d y2Y (aj (ag x.1/ag x.2.1))])
theorem Rm:SpK 204 QX:=spX fun x h=>abX x.1 x.2.1 (auN h)
def ST:Env:=[(206,pU),(198,vN),(148,sd),(195,pC),(196,vg),(149,uP),(248,CF),(202,JA),(203,yb),(204,QX)]
theorem P2:EnvAll Tryz.prog ST:=⟨kv,ph,mC,lc,pK,qc,yg,G4,uz,Rm,trivial⟩
def as7:Ctx:=CX ST []
def ae6(x y:Bool×List Int)(_k:KT):OLR:=match decide (okI y)with|true=>(match decide ((cJ (ag y) 0)<0)with|true=>(match decide (okI x)with|true=>(match decide (okI y)with|true=>(match decide (okI (aj (-ag x))∧okI (aj (-ag y)))with|true=>(match decide (okI (aj ((Int.gcd (ag (aj (-ag x))) (ag (aj (-ag y))):Nat):Int))∧okI (aj 1))with|true=>(match(cJ (ag (aj ((Int.gcd (ag (aj (-ag x))) (ag (aj (-ag y))):Nat):Int))) (ag (aj 1))) !=0 with|true=>(match decide (fy (aj (-ag x)) (aj ((Int.gcd (ag (aj (-ag x))) (ag (aj (-ag y))):Nat):Int)))with|true=>(match decide (fy (aj (-ag y)) (aj ((Int.gcd (ag (aj (-ag x))) (ag (aj (-ag y))):Nat):Int)))with|true=>some [RV.d (.st (.pair y2Y y2Y)) ((aj (ag (aj (-ag x))/ag (aj ((Int.gcd (ag (aj (-ag x))) (ag (aj (-ag y))):Nat):Int)))),(aj (ag (aj (-ag y))/ag (aj ((Int.gcd (ag (aj (-ag x))) (ag (aj (-ag y))):Nat):Int)))))]|false=>none)|false=>none)|false=>some [RV.d (.st (.pair y2Y y2Y)) ((aj (-ag x)),(aj (-ag y)))])|false=>none)|false=>none)|false=>none)|false=>none)|false=>(match decide (okI x∧okI y)with|true=>(match decide (okI (aj ((Int.gcd (ag x) (ag y):Nat):Int))∧okI (aj 1))with|true=>(match(cJ (ag (aj ((Int.gcd (ag x) (ag y):Nat):Int))) (ag (aj 1))) !=0 with|true=>(match decide (fy x (aj ((Int.gcd (ag x) (ag y):Nat):Int)))with|true=>(match decide (fy y (aj ((Int.gcd (ag x) (ag y):Nat):Int)))with|true=>some [RV.d (.st (.pair y2Y y2Y)) ((aj (ag x/ag (aj ((Int.gcd (ag x) (ag y):Nat):Int)))),(aj (ag y/ag (aj ((Int.gcd (ag x) (ag y):Nat):Int)))))]|false=>none)|false=>none)|false=>some [RV.d (.st (.pair y2Y y2Y)) (x,y)])|false=>none)|false=>none))|false=>none
theorem anm(x y:Bool×List Int):RS as7 150 [.d y2Y x,.d y2Y y] (ae6 x y):=rsX
theorem Zg{a b:Int}(hb:b≠0){k:Nat}(h:szI b≤k):szI ((Int.gcd a b:Nat):Int)≤k:=by
 refine ava (dG ?_) h
 rw[awf]
 exact Nat.le_of_dvd (by omega) (Nat.gcd_dvd_right a.natAbs b.natAbs)
theorem abK(x y:BI)(h:iv x y):Con Tryz.prog 150 [.d y2Y x,.d y2Y y] [.d (.st (.pair y2Y y2Y)) (fe x y)]:=by
 refine aO P2 (anm _ _ ⟨0,?_⟩)
 obtain⟨hx,hy,hne⟩:=h
 have sx:=iO hx
 have sy:=iO hy
 have hgp:0<Int.gcd (ag x) (ag y):=Nat.pos_of_ne_zero fun e=>hne (Int.gcd_eq_zero_iff.1 e).2
 have hgs:=Zg (a:=ag x) hne sy
 unfold ae6 fe
 rw[auO hy]
 dsimp only
 rcases awN hne with hn|hn
 ·rw[df hn,auO (show(-1:Int)<0 by decide),auO hx]
  have o1:okI (aj (-ag x)):=bK (by rw[iX];exact sx)
  have o2:okI (aj (-ag y)):=bK (by rw[iX];exact sy)
  simp only[dec_enc,Int.gcd_neg,Int.neg_gcd]
  have og:okI (aj ((Int.gcd (ag x) (ag y):Nat):Int)):=bK hgs
  rw[auO (show okI (aj (-ag x))∧okI (aj (-ag y)) from⟨o1,o2⟩),auO (show okI (aj ((Int.gcd (ag x) (ag y):Nat):Int))∧okI (aj 1) from⟨og,qQ⟩)]
  rw[←Rat.neg_divInt_neg,nA (by omega),Int.gcd_neg,Int.neg_gcd]
  dsimp only
  by_cases h1:Int.gcd (ag x) (ag y)=1
  ·rw[h1]
   simp[dU]
  ·have hc:(cJ ((Int.gcd (ag x) (ag y):Nat):Int) 1 !=0)=true:=by
    rw[c8 (by omega)];rfl
   rw[hc,auO (show fy (aj (-ag x)) (aj ((Int.gcd (ag x) (ag y):Nat):Int)) from⟨o1,og,by rw[dec_enc];omega⟩),auO (show fy (aj (-ag y)) (aj ((Int.gcd (ag x) (ag y):Nat):Int)) from⟨o2,og,by rw[dec_enc];omega⟩)]
 ·rw[c8 hn,auQ (show ¬(1:Int)<0 by decide)]
  simp only[dec_enc]
  have og:okI (aj ((Int.gcd (ag x) (ag y):Nat):Int)):=bK hgs
  rw[auO (show okI x∧okI y from⟨hx,hy⟩),auO (show okI (aj ((Int.gcd (ag x) (ag y):Nat):Int))∧okI (aj 1) from⟨og,qQ⟩),nA hn]
  dsimp only
  by_cases h1:Int.gcd (ag x) (ag y)=1
  ·rw[h1]
   simp only[Int.natCast_one,dU,Int.ediv_one,←ik hx,←ik hy]
   rfl
  ·have hc:(cJ ((Int.gcd (ag x) (ag y):Nat):Int) 1 !=0)=true:=by
    rw[c8 (by omega)];rfl
   rw[hc,auO (show fy x (aj ((Int.gcd (ag x) (ag y):Nat):Int)) from⟨hx,og,by rw[dec_enc];omega⟩),auO (show fy y (aj ((Int.gcd (ag x) (ag y):Nat):Int)) from⟨hy,og,by rw[dec_enc];omega⟩)]
def aR(a b:Rat):Int:=bif decide (a<b)then-1 else bif decide (b<a)then 1 else 0
theorem dM{a b:Rat}(h:a<b):aR a b= -1:=by unfold aR;rw[auO h];rfl
theorem dA{a b:Rat}(h:b<a):aR a b=1:=by unfold aR;rw[auQ (by grind),auO h];rfl
theorem dY(a:Rat):aR a a=0:=by unfold aR;rw[auQ (by grind)];rfl
theorem yr(a b:Rat):cJ (a.num*(b.den:Int)) (b.num*(a.den:Int))=aR a b:=by
 unfold cJ aR
 rw[show decide (a.num*(b.den:Int)<b.num*(a.den:Int))=decide (a<b) from awl.2 (Rat.lt_iff a b).symm,show decide (b.num*(a.den:Int)<a.num*(b.den:Int))=decide (b<a) from awl.2 (Rat.lt_iff b a).symm]
theorem v8(a:Rat):cJ a.num 0=aR a 0:=by
 rw[←yr]
 simp
def EM:aM:=spN false false [y2Y,y2Y] (fun x=>decide (iv x.1 x.2.1)) (fun x=>[RV.d (.st (.pair y2Y y2Y)) (fe x.1 x.2.1)])
theorem zK:SpK 150 EM:=spX fun x h=>abK x.1 x.2.1 (auN h)
def alI:NT:=[((146,3),{keep:=[0,1,8],hl:=0}),((146,5),{keep:=[0,1,5,10],hl:=0})]
def arD:Ctx:=CX [] alI
def afH(x y:Int)(_k:KT):OLR:=match x !=x with|true=>(match y !=y with|true=>some [RV.d ayb 0]|false=>some [RV.d ayb (-1)])|false=>(match y !=y with|true=>some [RV.d ayb 1]|false=>(match decide (x<y)with|true=>some [RV.d ayb (-1)]|false=>(match decide (x>y)with|true=>some [RV.d ayb 1]|false=>some [RV.d ayb 0])))
theorem aqX(x y:Int):RS arD 146 [SI x,SI y] (afH x y):=rsX
theorem ad8(x y:Int):Con Tryz.prog 146 [.d ayb x,.d ayb y] [.d ayb (cJ x y)]:=by
 refine aO (E:=[]) trivial (aqX _ _ ⟨0,?_⟩)
 unfold afH
 rw[show(x !=x)=false by simp,show(y !=y)=false by simp]
 dsimp only
 rcases awT x y with h|h|h
 ·rw[df h,auO h]
 ·subst h;rw[dU,auQ (show ¬x<x by omega)]
 ·rw[c8 h,auQ (show ¬x<y by omega),auO (show x>y from h)]
def D5:aM:=spN true false [ayb,ayb] (fun _=>true) (fun x=>[RV.d ayb (cJ x.1 x.2.1)])
theorem yT:SpK 146 D5:=spX fun x _=>ad8 x.1 x.2.1
def IJ:Env:=[(206,pU),(198,vN),(148,sd),(195,pC),(196,vg),(149,uP),(203,yb),(150,EM),(146,D5)]
theorem AW:EnvAll Tryz.prog IJ:=⟨kv,ph,mC,lc,pK,qc,uz,zK,yT,trivial⟩
def aq2:Ctx:=CX IJ []
def asB(x:Bool×List Int)(_k:KT):OLR:=some [RV.d (.st (.pair y2Y y2Y)) (x,(aj 1))]
theorem ar3(x:Bool×List Int):RS aq2 205 [.d y2Y x] (asB x):=rsX
theorem adq(x:BI):Con Tryz.prog 205 [.d y2Y x] [.d (.st (.pair y2Y y2Y)) (x,aj 1)]:=
 aO AW (ar3 _ ⟨0,rfl⟩)
def Ju:aM:=spN false false [y2Y] (fun _=>true) (fun x=>[RV.d (.st (.pair y2Y y2Y)) (x.1,aj 1)])
theorem H8:SpK 205 Ju:=spX fun x _=>adq x.1
def aqp:Ctx:=CX IJ []
def ahi(a:(Bool×List Int)×Bool×List Int)(_k:KT):OLR:=match decide (okI a.1)with|true=>some [RV.d ayb (cJ (ag a.1) 0)]|false=>none
theorem ark(a:(Bool×List Int)×Bool×List Int):RS aqp 147 [.d (.st (.pair y2Y y2Y)) a] (ahi a):=rsX
theorem Kl(a:BR)(h:okR a):Con Tryz.prog 147 [.d (.st (.pair y2Y y2Y)) a] [.d ayb (aR (ae a) 0)]:=by
 refine aO AW (ark _ ⟨0,?_⟩)
 unfold ahi
 rw[auO h.1,←v8,(da h).1]
def Jg:aM:=spN true false [(.st (.pair y2Y y2Y))] (fun x=>decide (okR x.1)) (fun x=>[RV.d ayb (aR (ae x.1) 0)])
theorem Hk:SpK 147 Jg:=spX fun x h=>Kl x.1 (auN h)
def nC:Env:=[(206,pU),(198,vN),(148,sd),(195,pC),(196,vg),(149,uP),(203,yb),(150,EM),(146,D5),(205,Ju),(147,Jg)]
theorem iR:EnvAll Tryz.prog nC:=⟨kv,ph,mC,lc,pK,qc,uz,zK,yT,H8,Hk,trivial⟩
def aqg:Ctx:=CX nC []
def aif(n:Int)(_k:KT):OLR:=match decide (bU n)with|true=>some [RV.d (.st (.pair y2Y y2Y)) ((aj n),(aj 1))]|false=>none
theorem aoX(n:Int):RS aqg 151 [SI n] (aif n):=rsX
def aso:Ctx:=CX nC []
def agY(a b:(Bool×List Int)×Bool×List Int)(_k:KT):OLR:=match decide (okR a)with|true=>(match decide (okR b)with|true=>(match(cJ (aR (ae a) 0) (aR (ae b) 0)) !=0 with|true=>some [RV.d ayb (cJ (aR (ae a) 0) (aR (ae b) 0))]|false=>(match decide (okI a.1∧okI b.2)with|true=>(match decide (okI b.1∧okI a.2)with|true=>(match decide (okI (aj (ag a.1*ag b.2))∧okI (aj (ag b.1*ag a.2)))with|true=>some [RV.d ayb (cJ (ag (aj (ag a.1*ag b.2))) (ag (aj (ag b.1*ag a.2))))]|false=>none)|false=>none)|false=>none))|false=>none)|false=>none
theorem arc(a b:(Bool×List Int)×Bool×List Int):RS aso 75 [.d (.st (.pair y2Y y2Y)) a,.d (.st (.pair y2Y y2Y)) b] (agY a b):=rsX
def aqq:Ctx:=CX nC []
def ags(a b:(Bool×List Int)×Bool×List Int)(_k:KT):OLR:=match decide (okI a.2∧okI b.2)with|true=>(match(cJ (ag a.2) (ag b.2))==0 with|true=>(match decide (okI a.1∧okI b.1)with|true=>(match decide (iv (aj (ag a.1+ag b.1)) a.2)with|true=>some [RV.d (.st (.pair y2Y y2Y)) (((fe (aj (ag a.1+ag b.1)) a.2).1),((fe (aj (ag a.1+ag b.1)) a.2).2))]|false=>none)|false=>none)|false=>(match decide (okI a.1∧okI b.2)with|true=>(match decide (okI b.1∧okI a.2)with|true=>(match decide (okI (aj (ag a.1*ag b.2))∧okI (aj (ag b.1*ag a.2)))with|true=>(match decide (okI a.2∧okI b.2)with|true=>(match decide (iv (aj (ag (aj (ag a.1*ag b.2))+ag (aj (ag b.1*ag a.2)))) (aj (ag a.2*ag b.2)))with|true=>some [RV.d (.st (.pair y2Y y2Y)) (((fe (aj (ag (aj (ag a.1*ag b.2))+ag (aj (ag b.1*ag a.2)))) (aj (ag a.2*ag b.2))).1),((fe (aj (ag (aj (ag a.1*ag b.2))+ag (aj (ag b.1*ag a.2)))) (aj (ag a.2*ag b.2))).2))]|false=>none)|false=>none)|false=>none)|false=>none)|false=>none))|false=>none
theorem aqs(a b:(Bool×List Int)×Bool×List Int):RS aqq 144 [.d (.st (.pair y2Y y2Y)) a,.d (.st (.pair y2Y y2Y)) b] (ags a b):=rsX
def aq4:Ctx:=CX nC []
def ahd(a:(Bool×List Int)×Bool×List Int)(_k:KT):OLR:=match decide (okI a.1)with|true=>some [RV.d (.st (.pair y2Y y2Y)) ((aj (-ag a.1)),a.2)]|false=>none
theorem anj(a:(Bool×List Int)×Bool×List Int):RS aq4 145 [.d (.st (.pair y2Y y2Y)) a] (ahd a):=rsX
def asF:Ctx:=CX nC []
def afz(a b:(Bool×List Int)×Bool×List Int)(_k:KT):OLR:=match decide (okI a.1∧okI b.1)with|true=>(match decide (okI a.2∧okI b.2)with|true=>(match decide (iv (aj (ag a.1*ag b.1)) (aj (ag a.2*ag b.2)))with|true=>some [RV.d (.st (.pair y2Y y2Y)) (((fe (aj (ag a.1*ag b.1)) (aj (ag a.2*ag b.2))).1),((fe (aj (ag a.1*ag b.1)) (aj (ag a.2*ag b.2))).2))]|false=>none)|false=>none)|false=>none
theorem apU(a b:(Bool×List Int)×Bool×List Int):RS asF 76 [.d (.st (.pair y2Y y2Y)) a,.d (.st (.pair y2Y y2Y)) b] (afz a b):=rsX
def aq3:Ctx:=CX nC []
def aho(a b:(Bool×List Int)×Bool×List Int)(_k:KT):OLR:=match decide (okR b)with|true=>(match(aR (ae b) 0)==0 with|true=>some [RV.d (.st (.pair y2Y y2Y)) ((false,[]),(false,[])),RV.d ayb 6]|false=>(match decide (okI a.1∧okI b.2)with|true=>(match decide (okI a.2∧okI b.1)with|true=>(match decide (iv (aj (ag a.1*ag b.2)) (aj (ag a.2*ag b.1)))with|true=>some [RV.d (.st (.pair y2Y y2Y)) (((fe (aj (ag a.1*ag b.2)) (aj (ag a.2*ag b.1))).1),((fe (aj (ag a.1*ag b.2)) (aj (ag a.2*ag b.1))).2)),RV.d ayb 0]|false=>none)|false=>none)|false=>none))|false=>none
theorem an4(a b:(Bool×List Int)×Bool×List Int):RS aq3 194 [.d (.st (.pair y2Y y2Y)) a,.d (.st (.pair y2Y y2Y)) b] (aho a b):=rsX
theorem aeg(n:Int)(h:bU n):Con Tryz.prog 151 [.d ayb n] [.d (.st (.pair y2Y y2Y)) (ai (n:Rat))]:=by
 refine aO iR (aoX _ ⟨0,?_⟩)
 unfold aif ai
 rw[auO h,Rat.num_intCast,Rat.den_intCast]
 rfl
theorem ge{a:BR}(h:okR a):szI (ag a.1)≤480000∧szI (ag a.2)≤480000:=by
 have h1:=Ez h
 obtain⟨e1,e2⟩:=da h
 unfold bdR at h1
 rw[e1,e2]at h1
 exact h1
theorem Qi(a b:Rat):(cJ (aR a 0) (aR b 0)≠0→cJ (aR a 0) (aR b 0)=aR a b):=by
 rcases(by grind:a<0∨a=0∨0<a)with h1|h1|h1<;>rcases(by grind:b<0∨b=0∨0<b)with h2|h2|h2
 ·rw[dM h1,dM h2];intro h;exact absurd (dU _) h
 ·rw[dM h1,h2,dY,dM h1];intro;rfl
 ·rw[dM h1,dA h2,dM (by grind)];intro;rfl
 ·rw[h1,dY,dM h2,dA h2];intro;rfl
 ·rw[h1,h2,dY];intro h;exact absurd (dU _) h
 ·rw[h1,dY,dA h2,dM h2];intro;rfl
 ·rw[dA h1,dM h2,dA (by grind)];intro;rfl
 ·rw[dA h1,h2,dY,dA h1];intro;rfl
 ·rw[dA h1,dA h2];intro h;exact absurd (dU _) h
theorem aaZ(a b:BR)(h:okR a∧okR b):Con Tryz.prog 75 [.d (.st (.pair y2Y y2Y)) a,.d (.st (.pair y2Y y2Y)) b] [.d ayb (aR (ae a) (ae b))]:=by
 refine aO iR (arc _ _ ⟨0,?_⟩)
 obtain⟨ha,hb⟩:=h
 obtain⟨a1,a2⟩:=da ha
 obtain⟨b1,b2⟩:=da hb
 obtain⟨sa1,sa2⟩:=ge ha
 obtain⟨sb1,sb2⟩:=ge hb
 have h1:=c9 sa1 sb2
 have h2:=c9 sb1 sa2
 unfold agY
 rw[auO ha,auO hb]
 dsimp only
 have hs:=Qi (ae a) (ae b)
 by_cases hc:cJ (aR (ae a) 0) (aR (ae b) 0)=0
 ·rw[hc,auO (show okI a.1∧okI b.2 from⟨ha.1,hb.2.1⟩),auO (show okI b.1∧okI a.2 from⟨hb.1,ha.2.1⟩),auO (show okI (aj (ag a.1*ag b.2))∧okI (aj (ag b.1*ag a.2)) from⟨bK (by omega),bK (by omega)⟩),dec_enc,dec_enc,←a1,←a2,←b1,←b2,yr]
  rfl
 ·rw[show(cJ (aR (ae a) 0) (aR (ae b) 0) !=0)=true by simpa using hc,hs hc]
theorem LS(a:BR)(h:okR a):Con Tryz.prog 145 [.d (.st (.pair y2Y y2Y)) a] [.d (.st (.pair y2Y y2Y)) (ai (-ae a))]:=by
 refine aO iR (anj _ ⟨0,?_⟩)
 obtain⟨a1,a2⟩:=da h
 unfold ahd
 have e:ai (-ae a)=(aj (-ag a.1),a.2):=by
  unfold ai
  rw[Rat.neg_num,a1,show((-ae a).den:Int)=((ae a).den:Int) from rfl,a2,←ik h.2.1]
 rw[auO h.1,e]
theorem KN(a b:BR)(h:okR a∧okR b):Con Tryz.prog 144 [.d (.st (.pair y2Y y2Y)) a,.d (.st (.pair y2Y y2Y)) b] [.d (.st (.pair y2Y y2Y)) (ai (ae a+ae b))]:=by
 refine aO iR (aqs _ _ ⟨0,?_⟩)
 obtain⟨ha,hb⟩:=h
 obtain⟨a1,a2⟩:=da ha
 obtain⟨b1,b2⟩:=da hb
 obtain⟨sa1,sa2⟩:=ge ha
 obtain⟨sb1,sb2⟩:=ge hb
 have pa:=ha.2.2.1
 have pb:=hb.2.2.1
 have h1:=c9 sa1 sb2
 have h2:=c9 sb1 sa2
 have h3:=c9 sa2 sb2
 have h4:=wH h1 h2
 have h5:=wH sa1 sb1
 have hda:ae a=Rat.divInt (ag a.1) (ag a.2):=by rw[←a1,←a2,av3]
 have hdb:ae b=Rat.divInt (ag b.1) (ag b.2):=by rw[←b1,←b2,av3]
 unfold ags
 rw[auO (show okI a.2∧okI b.2 from⟨ha.2.1,hb.2.1⟩)]
 dsimp only
 by_cases hc:ag a.2=ag b.2
 ·rw[hc,dU,auO (show okI a.1∧okI b.1 from⟨ha.1,hb.1⟩)]
  rw[auO (show iv (aj (ag a.1+ag b.1)) a.2 from⟨bK (by omega),ha.2.1,by omega⟩)]
  have e:fe (aj (ag a.1+ag b.1)) a.2=ai (ae a+ae b):=by
   unfold fe
   rw[dec_enc,hda,hdb,←hc,Rat.divInt_eq_div,Rat.divInt_eq_div,Rat.divInt_eq_div,Rat.intCast_add]
   congr 1
   grind
  rw[e]
  rfl
 ·have hcm:(cJ (ag a.2) (ag b.2)==0)=false:=by
   rcases awN hc with h|h
   ·rw[df h];rfl
   ·rw[c8 h];rfl
  rw[hcm,auO (show okI a.1∧okI b.2 from⟨ha.1,hb.2.1⟩),auO (show okI b.1∧okI a.2 from⟨hb.1,ha.2.1⟩),auO (show okI (aj (ag a.1*ag b.2))∧okI (aj (ag b.1*ag a.2)) from⟨bK (by omega),bK (by omega)⟩)]
  simp only[dec_enc]
  rw[auO (show iv (aj (ag a.1*ag b.2+ag b.1*ag a.2)) (aj (ag a.2*ag b.2)) from⟨bK (by omega),bK (by omega),by rw[dec_enc];exact axu (by omega) (by omega)⟩)]
  have e:fe (aj (ag a.1*ag b.2+ag b.1*ag a.2)) (aj (ag a.2*ag b.2))=ai (ae a+ae b):=by
   unfold fe
   rw[dec_enc,dec_enc,hda,hdb,Rat.divInt_add_divInt _ _ (by omega) (by omega)]
  rw[e]
theorem abL(a b:BR)(h:okR a∧okR b):Con Tryz.prog 76 [.d (.st (.pair y2Y y2Y)) a,.d (.st (.pair y2Y y2Y)) b] [.d (.st (.pair y2Y y2Y)) (ai (ae a*ae b))]:=by
 refine aO iR (apU _ _ ⟨0,?_⟩)
 obtain⟨ha,hb⟩:=h
 obtain⟨a1,a2⟩:=da ha
 obtain⟨b1,b2⟩:=da hb
 obtain⟨sa1,sa2⟩:=ge ha
 obtain⟨sb1,sb2⟩:=ge hb
 have pa:=ha.2.2.1
 have pb:=hb.2.2.1
 have h1:=c9 sa1 sb1
 have h3:=c9 sa2 sb2
 have hda:ae a=Rat.divInt (ag a.1) (ag a.2):=by rw[←a1,←a2,av3]
 have hdb:ae b=Rat.divInt (ag b.1) (ag b.2):=by rw[←b1,←b2,av3]
 unfold afz
 rw[auO (show okI a.1∧okI b.1 from⟨ha.1,hb.1⟩),auO (show okI a.2∧okI b.2 from⟨ha.2.1,hb.2.1⟩),auO (show iv (aj (ag a.1*ag b.1)) (aj (ag a.2*ag b.2)) from⟨bK (by omega),bK (by omega),by rw[dec_enc];exact axu (by omega) (by omega)⟩)]
 have e:fe (aj (ag a.1*ag b.1)) (aj (ag a.2*ag b.2))=ai (ae a*ae b):=by
  unfold fe
  rw[dec_enc,dec_enc,hda,hdb,axv]
 rw[e]
def gb(a b:BR):Prop:=okR a∧okR b∧ag b.1≠0
instance (a b:BR):Decidable (gb a b):=by unfold gb;infer_instance
theorem ab4(a b:BR)(h:gb a b):Con Tryz.prog 194 [.d (.st (.pair y2Y y2Y)) a,.d (.st (.pair y2Y y2Y)) b] [.d (.st (.pair y2Y y2Y)) (ai (ae a/ae b)),.d ayb 0]:=by
 refine aO iR (an4 _ _ ⟨0,?_⟩)
 obtain⟨ha,hb,hne⟩:=h
 obtain⟨a1,a2⟩:=da ha
 obtain⟨b1,b2⟩:=da hb
 obtain⟨sa1,sa2⟩:=ge ha
 obtain⟨sb1,sb2⟩:=ge hb
 have pa:=ha.2.2.1
 have h1:=c9 sa1 sb2
 have h3:=c9 sa2 sb1
 have hda:ae a=Rat.divInt (ag a.1) (ag a.2):=by rw[←a1,←a2,av3]
 have hdb:ae b=Rat.divInt (ag b.1) (ag b.2):=by rw[←b1,←b2,av3]
 have hnz:(aR (ae b) 0==0)=false:=by
  rw[←v8,b1]
  rcases awN hne with h|h
  ·rw[df h];rfl
  ·rw[c8 h];rfl
 unfold aho
 rw[auO hb,hnz,auO (show okI a.1∧okI b.2 from⟨ha.1,hb.2.1⟩),auO (show okI a.2∧okI b.1 from⟨ha.2.1,hb.1⟩),auO (show iv (aj (ag a.1*ag b.2)) (aj (ag a.2*ag b.1)) from⟨bK (by omega),bK (by omega),by rw[dec_enc];exact axu (by omega) hne⟩)]
 have e:fe (aj (ag a.1*ag b.2)) (aj (ag a.2*ag b.1))=ai (ae a/ae b):=by
  unfold fe
  rw[dec_enc,dec_enc,hda,hdb,axZ,Rat.inv_divInt,axv]
 rw[e]
def TH:aM:=spN false false [(.st (.pair y2Y y2Y)),(.st (.pair y2Y y2Y))] (fun x=>decide (okR x.1∧okR x.2.1)) (fun x=>[RV.d (.st (.pair y2Y y2Y)) (ai (ae x.1+ae x.2.1))])
theorem YK:SpK 144 TH:=spX fun x h=>KN x.1 x.2.1 (auN h)
def Q2:aM:=spN false false [(.st (.pair y2Y y2Y))] (fun x=>decide (okR x.1)) (fun x=>[RV.d (.st (.pair y2Y y2Y)) (ai (-ae x.1))])
theorem QJ:SpK 145 Q2:=spX fun x h=>LS x.1 (auN h)
def Kx:Env:=[(206,pU),(198,vN),(148,sd),(195,pC),(196,vg),(149,uP),(203,yb),(150,EM),(146,D5),(205,Ju),(147,Jg),(144,TH),(145,Q2)]
theorem J5:EnvAll Tryz.prog Kx:=⟨kv,ph,mC,lc,pK,qc,uz,zK,yT,H8,Hk,YK,QJ,trivial⟩
def aoK:Ctx:=CX Kx []
def ag4(a b:(Bool×List Int)×Bool×List Int)(_k:KT):OLR:=match decide (okR b)with|true=>(match decide (okR a∧okR (ai (-ae b)))with|true=>some [RV.d (.st (.pair y2Y y2Y)) (((ai (ae a+ae (ai (-ae b)))).1),((ai (ae a+ae (ai (-ae b)))).2))]|false=>none)|false=>none
theorem aqJ(a b:(Bool×List Int)×Bool×List Int):RS aoK 74 [.d (.st (.pair y2Y y2Y)) a,.d (.st (.pair y2Y y2Y)) b] (ag4 a b):=rsX
theorem aaw(a b:BR)(h:okR a∧okR b):Con Tryz.prog 74 [.d (.st (.pair y2Y y2Y)) a,.d (.st (.pair y2Y y2Y)) b] [.d (.st (.pair y2Y y2Y)) (ai (ae a-ae b))]:=by
 refine aO J5 (aqJ _ _ ⟨0,?_⟩)
 obtain⟨ha,hb⟩:=h
 unfold ag4
 rw[auO hb,az,axo,auO (show okR a∧okR (ai (-ae b)) from⟨ha,rm (wQ (Ez hb)) (auY _)⟩)]
end Go.Proofs.YtgddhgcjmddjfaaGreat
end
