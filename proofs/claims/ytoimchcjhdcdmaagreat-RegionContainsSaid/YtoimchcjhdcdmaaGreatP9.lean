/- integer: divide, restore, the guess, the loop. -/
import Derived.Test.YtoimchcjhdcdmaaGreatP8
noncomputable section
namespace Go.Proofs.YtoimchcjhdcdmaaGreat
open Go.RowKit Go.IntKind
open Bool renaming true->T',false->F'
open Option renaming some->S',none->N'
open Decidable renaming decide->Dd'
theorem aos:type_of% @beq_iff_eq:=@beq_iff_eq
theorem aoy:type_of% @List.length_pos_iff:=@List.length_pos_iff
theorem ao2:type_of% @Int.eq_ofNat_of_zero_le:=@Int.eq_ofNat_of_zero_le
theorem apI:type_of% @Int.ediv_le_self:=@Int.ediv_le_self
theorem apS:type_of% @Bool.decide_and:=@Bool.decide_and
theorem apY:type_of% @Nat.gcd_comm:=@Nat.gcd_comm
theorem apZ:type_of% @Int.natAbs_natCast:=@Int.natAbs_natCast
theorem ap0:type_of% @Int.lt_or_lt_of_ne:=@Int.lt_or_lt_of_ne
theorem aqo:type_of% @Rat.sub_eq_add_neg:=@Rat.sub_eq_add_neg
theorem aqS:type_of% @Rat.num_mkRat:=@Rat.num_mkRat
theorem aqT:type_of% @Rat.den_mkRat:=@Rat.den_mkRat
theorem aqX:type_of% @Int.mul_neg:=@Int.mul_neg
section
section
variable (b:List Int) (x2:Int) (v:List Int) (m:Nat) (hN:(ae (val b).toNat).length=m+2) (hv:ae (val (dig ((ae (val b).toNat).length+([u32.wrap (u64.wrap (Int.tdiv 1000000000 (u64.wrap ((u64.wrap x2)+1))))]).length) (val (ae (val b).toNat)*val ([u32.wrap (u64.wrap (Int.tdiv 1000000000 (u64.wrap ((u64.wrap x2)+1))))])))).toNat=v) (lv:Lim v) (hvl:v.length=m+2)
include hN hv lv hvl
theorem Nv(k:Nat)(r0 r5:List Int)(f:Int)(hk:k+(m+2)+1<=r0.length)(hsz:r0.length<=4000000000)(R:List RV)
  (hend:∀r c,Lim r->r.length=r0.length->r.take k=r0.take k->r.drop (k+(m+2)+1)=r0.drop (k+(m+2)+1)->0<=c->c<=1->val r=val r0+pw k*val v-pw (k+(m+2)+1)*c->∃q,em b x2 (k:Int) r5 f c ((m+2+1:Nat):Int) r (f0.k q)=S' R):
  ∀(j i:Nat) (c:Int) (r:List Int),i+j=m+2+1->0<=c->c<=1->Lim r->r.length=r0.length->r.take k=r0.take k->r.drop (k+(m+2)+1)=r0.drop (k+(m+2)+1)->
   val r=val r0+pw k*val (v.take i)-pw (k+i)*c->f0.Runs 5 (dE b x2 (k:Int) r5 f c (i:Int) r) R:=by
 have e1:i64.wrap ((k:Int)+((m+2:Nat):Int))=((k+(m+2):Nat):Int):=by rw[aM (by omega) (by omega)];simp
 have e2:i64.wrap (((k+(m+2):Nat):Int)+1)=((k+(m+2)+1:Nat):Int):=aT (by omega);have e3:k+(m+2)+1-k=m+2+1:=by omega
 intro j;induction j with
 |zero=>
  intro i c r hi c0 c1 lr hl ht hd hval;obtain rfl:i=m+2+1:=by omega
  rw[aoI (by omega)]at hval;refine fE _ _ _ _ _ _ _ _ ?_;exact hend r c lr hl ht hd c0 c1 hval
 |succ j ih=>
  intro i c r hi c0 c1 lr hl ht hd hval;have hir:k+i<r.length:=by omega
  have xr:=lr.get hir;have hwi:Dd' ((0:Int)<=(i:Int)/\(i:Int)<((m+2+1:Nat):Int))=true:=anO (by omega);have hlt:Dd' ((i:Int)<((m+2+1:Nat):Int))=true:=anO (by omega);have hw:=hv
  have step:∀(c' y d:Int),0<=c'->c'<=1->0<=y->y<1000000000->y=r[k+i]+c+d-1000000000*c'->val (v.take (i+1))=val (v.take i)+pw i*d->
    f0.Runs 5 (dE b x2 (k:Int) r5 f c' ((i+1:Nat):Int) (r.set (k+i) y)) R:=by
   intro c' y d k0 k1 y0 y1 hy hp;refine ih (i+1) c' (r.set (k+i) y) (by omega) k0 k1 (lr.set _ ⟨y0,y1⟩) (by simpa using hl) (by rw[wg];exact ht) (by rw[wb _ (by omega)];exact hd) ?_;rw[fe hir,hval,hy,hp,show k+(i+1)=k+i+1 by omega,bW,fo];grind
  by_cases hiv:i<m+2
  ·have hiv':i<v.length:=by omega
   have xv:=lv.get hiv';have hpv:=bh hiv';by_cases hc2:r[k+i]+c+v[i]>=1000000000
   ·obtain⟨q,hq⟩:=step 1 (r[k+i]+c+v[i]-1000000000) v[i] (by omega) (by omega) (by omega) (by omega) (by omega) hpv;refine fE _ _ _ _ _ _ _ _ ⟨q,?_⟩;unfold em;rw[hw,hN,e1,e2,aE,aE,e3,hlt,hwi,hvl,aO hiv,ak v i,anN hiv',aE,anN hir];dsimp only;rw[cZ (x:=r[k+i]+c) (by omega) (by omega),cZ (x:=r[k+i]+c+v[i]) (by omega) (by omega),anO hc2,cZ (x:=r[k+i]+c+v[i]-1000000000) (by omega) (by omega),aT (k:=i) (by omega)];exact hq
   ·obtain⟨q,hq⟩:=step 0 (r[k+i]+c+v[i]) v[i] (by omega) (by omega) (by omega) (by omega) (by omega) hpv;refine fE _ _ _ _ _ _ _ _ ⟨q,?_⟩;unfold em;rw[hw,hN,e1,e2,aE,aE,e3,hlt,hwi,hvl,aO hiv,ak v i,anN hiv',aE,anN hir];dsimp only;rw[cZ (x:=r[k+i]+c) (by omega) (by omega),cZ (x:=r[k+i]+c+v[i]) (by omega) (by omega),anQ hc2,aT (k:=i) (by omega)];exact hq
  ·have hpz:val (v.take (i+1))=val (v.take i)+pw i*0:=by rw[kC (by omega)];simp
   by_cases hc2:r[k+i]+c>=1000000000
   ·obtain⟨q,hq⟩:=step 1 (r[k+i]+c-1000000000) 0 (by omega) (by omega) (by omega) (by omega) (by omega) hpz;refine fE _ _ _ _ _ _ _ _ ⟨q,?_⟩;unfold em;rw[hw,hN,e1,e2,aE,aE,e3,hlt,hwi,hvl,a8 (show m+2<=i by omega),aE,anN hir];dsimp only;rw[cZ (x:=r[k+i]+c) (by omega) (by omega),anO hc2,cZ (x:=r[k+i]+c-1000000000) (by omega) (by omega),aT (k:=i) (by omega)];exact hq
   ·obtain⟨q,hq⟩:=step 0 (r[k+i]+c) 0 (by omega) (by omega) (by omega) (by omega) (by omega) hpz;refine fE _ _ _ _ _ _ _ _ ⟨q,?_⟩;unfold em;rw[hw,hN,e1,e2,aE,aE,e3,hlt,hwi,hvl,a8 (show m+2<=i by omega),aE,anN hir];dsimp only;rw[cZ (x:=r[k+i]+c) (by omega) (by omega),anQ hc2,aT (k:=i) (by omega)];exact hq
theorem Ia(k:Nat)(r1 r5:List Int)(hk:k+m+3<=r1.length)(hsz:r1.length<=4000000000)(R:List RV)(K:Kn (win k (m+2) r1) (val v) r1[k+m+2] r1[k+m+1] r1[k+m] v[m+1] v[m])
  (hafter:∀g,0<=g->g<1000000000->win k (m+2) r1<(g+1)*val v->g*val v<win k (m+2) r1+val v->f0.Runs 8 (cW b x2 (k:Int) r5 g g 0 0 0 r1) R):
  ∀(fuel:Nat) (g rest:Int),g<=(fuel:Int)->0<=g->g<=2000000000->0<=rest->rest<1000000000->g*v[m+1]+rest=r1[k+m+2]*1000000000+r1[k+m+1]->win k (m+2) r1<(g+1)*val v->f0.Runs 49 (nV b x2 (k:Int) r1 r5 g rest) R:=by
 have _lv:=lv;have e1:i64.wrap ((k:Int)+((m+2:Nat):Int))=((k+m+2:Nat):Int):=by rw[aM (by omega) (by omega)];simp;omega
 have e2:i64.wrap (((k+m+2:Nat):Int)+1)=((k+m+3:Nat):Int):=by rw[aM (by omega) (by omega)];simp;omega
 have e3:i64.wrap (((m+2:Nat):Int)-1)=((m+1:Nat):Int):=by rw[aM (by omega) (by omega)];omega
 have e4:i64.wrap (((m+2:Nat):Int)-2)=((m:Nat):Int):=by rw[aM (by omega) (by omega)];omega
 have e5:i64.wrap (((k+m+2:Nat):Int)-2)=((k+m:Nat):Int):=by rw[aM (by omega) (by omega)];omega
 have hsl:decide ((0:Int)<=(k:Int)/\(k:Int)<=((k+m+3:Nat):Int)/\((k+m+3:Nat):Int)<=(r1.length:Int))=true:=anO (by omega);have hV:=K.pos;have htop:=K.top;have ku2:=K.u2;have ku1:=K.u1;have ku0:=K.u0;have kv1:=K.v1;have kv0:=K.v0;intro fuel;induction fuel with
 |zero=>
  intro g rest hf g0 gB r0 r1' he hlt;obtain rfl:g=0:=by omega
  obtain⟨q,hq⟩:=hafter 0 (by omega) (by omega) hlt (by have:=hlt;have:=K.small (g:=0) (rest:=rest) (by omega) (by omega) he (by omega);omega);refine qw _ _ _ _ _ _ _ ⟨q,?_⟩;unfold nJ;rw[anQ (by omega),hv,hN,e1,e2,e4,e5,ak v m,anN (by omega),ak r1 (k+m),aE,anN (show k+m<r1.length by omega)];dsimp only;rw[bI (x:=v[m]) (by omega) (by omega),Int.zero_mul,bI (x:=0) (by omega) (by omega),bI (x:=rest*1000000000) (by omega) (by omega),bI (x:=r1[k+m]) (by omega) (by omega),bI (x:=rest*1000000000+r1[k+m]) (by omega) (by omega),anQ (by omega),hsl];exact hq
 |succ fuel ih=>
  intro g rest hf g0 gB rr0 rr1 he hlt
  have down:win k (m+2) r1<g*val v->∃q,(match Dd' (u64.wrap (rest+u64.wrap v[m+1])>=1000000000)with|T'=>f0.k q 8 (cW b x2 (k:Int) r5 (u64.wrap (g-1)) (u64.wrap (g-1)) 0 0 0 r1)|F'=>f0.k q 49 (nV b x2 (k:Int) r1 r5 (u64.wrap (g-1)) (u64.wrap (rest+u64.wrap v[m+1]))))=S' R:=by
   intro hw
   have gp:1<=g:=by
    rcases aoj 0 g with h|h
    ·exact h
    ·exfalso;have hg:g=0:=by omega
     subst hg;rw[Int.zero_mul]at hw;obtain⟨⟨P,wl,vl,p0,a1,a2,b1,b2,hw',hV'⟩,_⟩:=K;have:=aoL (aow p0) (show 0<=r1[k+m]+1000000000*r1[k+m+1]+1000000000*1000000000*r1[k+m+2] by omega);omega
   have he':(g-1)*v[m+1]+(rest+v[m+1])=r1[k+m+2]*1000000000+r1[k+m+1]:=by rw[<-he];grind
   have hw':win k (m+2) r1<(g-1+1)*val v:=by rw[show g-1+1=g by omega];exact hw
   rw[bI (x:=v[m+1]) (by omega) (by omega),bI (x:=rest+v[m+1]) (by omega) (by omega),bI (x:=g-1) (by omega) (by omega)];by_cases hb:rest+v[m+1]>=1000000000
   ·have gl:g-1<1000000000:=by
     rcases aoj (g-1) 1000000000 with h|h
     ·exact h
     ·exfalso;have e1:=an1 h (show 0<=v[m+1] by omega);have e2:=an1 htop (show(0:Int)<=1000000000 by decide);omega
    have e1:(g-1)*v[m]<=1000000000*1000000000:=ap5 (by omega) (by omega) (by omega) (by decide);obtain⟨q,hq⟩:=hafter (g-1) (by omega) gl hw' (K.small (by omega) (by omega) he' (by omega));exact⟨q,by rw[anO hb];exact hq⟩
   ·obtain⟨q,hq⟩:=ih (g-1) (rest+v[m+1]) (by omega) (by omega) (by omega) (by omega) (by omega) he' hw';exact⟨q,by rw[anQ hb];exact hq⟩
  by_cases hgB:g>=1000000000
  ·obtain⟨q,hq⟩:=down (by
    have h1:=K.lt;have:=an1 hgB (aow hV);rw[apD]at h1;omega)
   refine qw _ _ _ _ _ _ _ ⟨q,?_⟩;unfold nJ;rw[anO hgB,hv,hN,e1,e2,e3,ak v (m+1),anN (show m+1<v.length by omega),hsl];exact hq
  ·have hgv:g*v[m]<=1000000000*1000000000:=ap5 (by omega) (by omega) (by omega) (by decide);have hgv0:0<=g*v[m]:=aoL g0 (by omega);by_cases hc:g*v[m]>rest*1000000000+r1[k+m]
   ·obtain⟨q,hq⟩:=down (K.great g0 he hc);refine qw _ _ _ _ _ _ _ ⟨q,?_⟩;unfold nJ;rw[anQ hgB,hv,hN,e1,e2,e3,e4,e5,ak v m,anN (show m<v.length by omega),ak v (m+1),anN (show m+1<v.length by omega),ak r1 (k+m),aE,anN (show k+m<r1.length by omega),hsl];dsimp only;rw[bI (x:=v[m]) (by omega) (by omega),bI (x:=g*v[m]) (by omega) (by omega),bI (x:=rest*1000000000) (by omega) (by omega),bI (x:=r1[k+m]) (by omega) (by omega),bI (x:=rest*1000000000+r1[k+m]) (by omega) (by omega),anO hc];exact hq
   ·obtain⟨q,hq⟩:=hafter g g0 (by omega) hlt (K.small g0 (by omega) he (by omega));refine qw _ _ _ _ _ _ _ ⟨q,?_⟩;unfold nJ;rw[anQ hgB,hv,hN,e1,e2,e4,e5,ak v m,anN (show m<v.length by omega),ak r1 (k+m),aE,anN (show k+m<r1.length by omega),hsl];dsimp only;rw[bI (x:=v[m]) (by omega) (by omega),bI (x:=g*v[m]) (by omega) (by omega),bI (x:=rest*1000000000) (by omega) (by omega),bI (x:=r1[k+m]) (by omega) (by omega),bI (x:=rest*1000000000+r1[k+m]) (by omega) (by omega),anQ hc];exact hq
end
end
section
section
variable (b:List Int) (x2:Int) (v:List Int) (m:Nat) (hN:(ae (val b).toNat).length=m+2) (hv:ae (val (dig ((ae (val b).toNat).length+([u32.wrap (u64.wrap (Int.tdiv 1000000000 (u64.wrap ((u64.wrap x2)+1))))]).length) (val (ae (val b).toNat)*val ([u32.wrap (u64.wrap (Int.tdiv 1000000000 (u64.wrap ((u64.wrap x2)+1))))])))).toNat=v) (lv:Lim v) (hvl:v.length=m+2)
include hN hv lv hvl
set_option maxHeartbeats 2000000 in
theorem Qs(sc:Int)(hsc:u32.wrap (u64.wrap (Int.tdiv 1000000000 (u64.wrap ((u64.wrap x2)+1))))=sc)(hs1:1<=sc)(hs2:sc<=500000000)(htop:500000000<=v[m+1])(A:Int):
  ∀(M:Nat) (r5 r1:List Int),Lim r5->Lim r1->r1.length=r5.length+(m+2)->r1.length<=1000000000->M<=r5.length->val v*val r5+val r1=A->(∀j (hj:j<r5.length),j<M->r5[j]=0)->val r1<val v*pw M->
   ∃qL rL,(Lim qL/\Lim rL/\qL.length=r5.length/\rL.length<=m+2/\val qL=A/val v/\val rL=A%val v/sc)/\f0.Runs 34 (qv b x2 ((M:Int)-1) r5 r1) [.d ard qL,.d ard rL]:=by
 have hVlt:=bU lv;rw[hvl]at hVlt
 have hV0:0<val v:=by
  rw[G3 hvl];have h1:=aP (lv.take m);have h2:=lv.get (show m<v.length by omega);have h3:=Int.mul_pos (cg m) (show 0<v[m]+1000000000*v[m+1] by omega);omega
 intro M;induction M with
 |zero=>
  intro r5 r1 l5 l1 hlen hsz hM hA hz hlt;rw[nZ,aqv]at hlt;have h0:=aP l1;have eQ:A/val v=val r5:=by rw[<-hA,aqO,apC _ _ (by omega),aoV h0 hlt];omega
  have eR:A%val v=val r1:=by rw[<-hA,aqO,apU];exact ap7 h0 hlt
  have ht:val (r1.take (m+2))=val r1:=by
   have hs:=fT r1 (m+2);rw[aor (by omega)]at hs;have h2:=aP (l1.drop (m+2));have h3:=aP (l1.take (m+2));rcases aoj 0 (val (r1.drop (m+2)))with hc|hc
   ·have:=anV (show 1<=val (r1.drop (m+2)) by omega) (aow (cg (m+2)));omega
   ·have e:val (r1.drop (m+2))=0:=by omega
    rw[e]at hs;omega
  have hlX:(ae (val r1).toNat).length<=m+2:=dl (by omega);have hX:=bG (val r1).toNat
  have hXv:val (ae (val r1).toNat)=val r1:=by omega
  have hd0:0<=val r1/sc:=aoO h0 (by omega);have hd1:val r1/sc<=val r1:=apI _ h0;have hXl:=bU (bV (val r1).toNat);refine⟨r5,dig (ae (val r1).toNat).length (val r1/sc),⟨l5,nO _ _,rfl,by rw[jh];exact hlX,eQ.symm,by rw[eR,iz _ _ hd0 (by omega)]⟩,Bh _ _ _ _ _ ⟨0,?_⟩⟩;unfold vT
  rw[anQ (by omega),hN,hsc,aE,show(0:Int).toNat=0 from rfl,aq2,apy,anO (show(0:Int)<=0/\(0:Int)<=((m+2:Nat):Int)/\((m+2:Nat):Int)<=(r1.length:Int) by omega),ht,hXv,
   anO (show aQ (r1.take (m+2)) from⟨l1.take _,by rw[aoo];omega⟩),anO (show EZ (ae (val r1).toNat) sc from⟨⟨bV _,by omega⟩,hs1,by omega⟩)]
 |succ k ih=>
  intro r5 r1 l5 l1 hlen hsz hM hA hz hlt;have hk3:k+(m+2)+1<=r1.length:=by omega
  have hP:=cg k;have hr0:=aP l1
  have hz1:val (r1.drop (k+(m+2)+1))=0:=by
   have hs:=fT r1 (k+(m+2)+1);rw[aor hk3]at hs;have h2:=aP (l1.drop (k+(m+2)+1));have h3:=aP (l1.take (k+(m+2)+1));rcases aoj 0 (val (r1.drop (k+(m+2)+1)))with hc|hc
   ·exfalso;have e1:=anV (show 1<=val (r1.drop (k+(m+2)+1)) by omega) (aow (cg (k+(m+2)+1)));have e2:=an1 (aow hVlt) (aow (cg (k+1)));rw[<-fo,show m+2+(k+1)=k+(m+2)+1 by omega]at e2;omega
   ·omega
  have hw1:=J0 hk3 hz1;have hwb:=UM l1 hk3
  have hwlt:win k (m+2) r1<val v*1000000000:=by
   rcases aoj (win k (m+2) r1) (val v*1000000000)with hc|hc
   ·exact hc
   ·exfalso;have e1:=anV hc (aow hP);have e2:=aP (l1.take k);have e3:val v*pw (k+1)=pw k*(val v*1000000000):=by rw[bW];grind
    omega
  have K:=aia lv hvl l1 (show k+m+3<=r1.length by omega) htop hwlt;have htk:=bU (l1.take k);rw[aoo,aor (by omega)]at htk;have htk0:=aP (l1.take k);have hk5:k<r5.length:=by omega
  have hr5:=hz k hk5 (by omega);have e1:i64.wrap ((k:Int)+((m+2:Nat):Int))=((k+(m+2):Nat):Int):=by rw[aM (by omega) (by omega)];simp
  have e2:i64.wrap (((k+(m+2):Nat):Int)+1)=((k+(m+2)+1:Nat):Int):=aT (by omega);have e3:k+(m+2)+1-k=m+2+1:=by omega
  have fin:∀(d:Int) (r:List Int),0<=d->d<1000000000->Lim r->r.length=r1.length->r.take k=r1.take k->r.drop (k+(m+2)+1)=r1.drop (k+(m+2)+1)->val r=val r1-pw k*(d*val v)->win k (m+2) r1-d*val v<val v->
    ∃qL rL,(Lim qL/\Lim rL/\qL.length=r5.length/\rL.length<=m+2/\val qL=A/val v/\val rL=A%val v/sc)/\f0.Runs 34 (qv b x2 ((k:Int)-1) (r5.set k d) r) [.d ard qL,.d ard rL]:=by
   intro d r d0 d1 lr hl ht hd hval hwd
   obtain⟨qL,rL,⟨a1,a2,a3,a4,a5,a6⟩,a7⟩:=ih (r5.set k d) r (l5.set k ⟨d0,d1⟩) lr (by simp;omega) (by omega) (by simp;omega) (by
     rw[fe hk5,hr5,hval,<-hA];grind) (λj hj hjk=>by rw[apa (by omega)];exact hz j (by simpa using hj) (by omega)) (by
     rw[hval,hw1];have e4:=anV (show win k (m+2) r1-d*val v<=val v-1 by omega) (aow hP);rw[Int.mul_sub,Int.mul_sub,aqv]at e4;rw[apD (val v)];omega)
   exact⟨qL,rL,⟨a1,a2,by simpa using a3,a4,a5,a6⟩,a7⟩
  have wof:∀(r:List Int) (x:Int),Lim r->r.length=r1.length->r.take k=r1.take k->r.drop (k+(m+2)+1)=r1.drop (k+(m+2)+1)->val r=val r1+pw k*x->win k (m+2) r=win k (m+2) r1+x/\0<=win k (m+2) r/\win k (m+2) r<pw (m+2+1):=by
   intro r x lr hl ht hd hval;have h1:=J0 (k:=k) (n:=m+2) (r:=r) (by omega) (by rw[hd];exact hz1);rw[ht]at h1;have h2:=UM (k:=k) (n:=m+2) lr (by omega);refine⟨?_,h2⟩;have:pw k*win k (m+2) r=pw k*(win k (m+2) r1+x):=by rw[aq8];omega
   exact Int.eq_of_mul_eq_mul_left (by omega) this
  have hpw:pw (k+(m+2)+1)=pw k*pw (m+2+1):=by rw[<-fo];congr 1
  have xt:=K.u2;have xt1:=K.u1;have xv:=K.v1;have hg0:0<=(r1[k+m+2]*1000000000+r1[k+m+1])/v[m+1]:=aoO (by omega) (by omega)
  have hg1:(r1[k+m+2]*1000000000+r1[k+m+1])/v[m+1]<2000000000:=api (by omega) (by
   have:=anV xv.1 (show(0:Int)<=2000000000 by decide);omega)
  have md:=aoA (r1[k+m+2]*1000000000+r1[k+m+1]) v[m+1];have m0:=aoZ (r1[k+m+2]*1000000000+r1[k+m+1]) (show v[m+1]≠0 by omega);have m1:=aoC (r1[k+m+2]*1000000000+r1[k+m+1]) (show 0<v[m+1] by omega)
  have key:∃qL rL,(Lim qL/\Lim rL/\qL.length=r5.length/\rL.length<=m+2/\val qL=A/val v/\val rL=A%val v/sc)/\f0.Runs 49 (nV b x2 (k:Int) r1 r5 ((r1[k+m+2]*1000000000+r1[k+m+1])/v[m+1]) ((r1[k+m+2]*1000000000+r1[k+m+1])%v[m+1])) [.d ard qL,.d ard rL]:=by
   have hex:∃g,0<=g/\g<1000000000/\g*val v<=win k (m+2) r1/\win k (m+2) r1<(g+1)*val v:=by
    have h1:=aoA (win k (m+2) r1) (val v);have h2:=aoZ (win k (m+2) r1) (show val v≠0 by omega);have h3:=aoC (win k (m+2) r1) hV0;refine⟨win k (m+2) r1/val v,aoO hwb.1 (by omega),api hV0 (by rw[apD];exact hwlt),?_,?_⟩
    ·rw[apD];omega
    ·rw[Int.add_mul,aqW,apD];omega
   obtain⟨d,d0,d1,d2,d3⟩:=hex;have dv0:0<=d*val v:=aoL d0 (by omega)
   have hrow:∃r,Lim r/\r.length=r1.length/\r.take k=r1.take k/\r.drop (k+(m+2)+1)=r1.drop (k+(m+2)+1)/\val r=val r1-pw k*(d*val v):=by
    refine⟨r1.take k++(dig (m+2+1) (win k (m+2) r1-d*val v)++r1.drop (k+(m+2)+1)),(l1.take k).append ((nO _ _).append (l1.drop _)),by simp[jh];omega,?_,?_,?_⟩
    ·rw[List.take_append_of_le_length (by simp;omega),aqH,Nat.min_self]
    ·rw[<-aof,List.drop_append_of_le_length (by simp[jh];omega),aou (by simp[jh];omega),apO]
    ·rw[dD,dD,hz1,iz _ _ (by omega) (by omega),aoo,aor (by omega),hw1];grind
   obtain⟨rr,q1,q2,q3,q4,q5⟩:=hrow;obtain⟨qL,rL,hf,hrun⟩:=fin d rr d0 d1 q1 q2 q3 q4 q5 (by rw[Int.add_mul,aqW]at d3;omega);refine⟨qL,rL,hf,Ia b x2 v m hN hv lv hvl k r1 r5 (by omega) (by omega) _ K ?_ 2000000000 _ _ (by omega) hg0 (by omega) m0 (by omega) (by rw[apD];omega) (K.first rfl)⟩;intro g g0 g1 hg2 hg3;have same:∀r,Lim r->r.length=r1.length->r.take k=r1.take k->r.drop (k+(m+2)+1)=r1.drop (k+(m+2)+1)->val r=val r1-pw k*(d*val v)->r=rr:=λr a1 a2 a3 a4 a5=>Du a1 q1 (by omega) (by omega);refine P5 b x2 v m hN hv lv hvl k r1 r5 g ⟨g0,g1⟩ hk3 (by omega) _ ?_ ?_ (m+2+1) 0 0 0 r1 (by omega) (by omega) (by omega) (λ_=>rfl) (by omega) (by omega) l1 rfl rfl rfl (by simp[val])
   ·intro r a1 a2 a3 a4 a5;obtain⟨w1,w2,w3⟩:=wof r (-(g*val v)) a1 a2 a3 a4 (by rw[a5,aqX];omega)
    have hgd:g=d:=by
     have h1:¬g<d:=λhc=>by
      have:=an1 (show g+1<=d by omega) (aow hV0);omega
     have h2:¬d<g:=λhc=>by
      have:=an1 (show d+1<=g by omega) (aow hV0);omega
     omega
    subst hgd;rw[same r a1 a2 a3 a4 a5];obtain⟨q,hq⟩:=hrun;refine⟨q,?_⟩;unfold dt;rw[hv,hN,e1,e2,aE,aE,e3,a8 (anT _),anQ (show ¬(0:Int)>0 by decide),ak r5 k,anN hk5,cZ (x:=g) (by omega) (by omega),aM (x:=(k:Int)-1) (by omega) (by omega)];exact hq
   ·intro r a1 a2 a3 a4 a5;obtain⟨w1,w2,w3⟩:=wof r (-(g*val v)+pw (m+2+1)) a1 a2 a3 a4 (by rw[a5,hpw,aq8,aqX];omega);have hwg:win k (m+2) r1<g*val v:=by omega
    have hgd:g=d+1:=by
     have h1:¬g<d+1:=λhc=>by
      have:=an1 (show g<=d by omega) (aow hV0);omega
     have h2:¬d+1<g:=λhc=>by
      have:=an1 (show d+2<=g by omega) (aow hV0);rw[Int.add_mul]at this d3;omega
     omega
    subst hgd
    have hres:f0.Runs 5 (dE b x2 (k:Int) r5 (d+1) 0 0 r) [.d ard qL,.d ard rL]:=by
     refine Nv b x2 v m hN hv lv hvl k r r5 (d+1) (by omega) (by omega) _ ?_ (m+2+1) 0 0 r (by omega) (by omega) (by omega) a1 rfl rfl rfl (by simp[val]);intro r' c b1 b2 b3 b4 c0 c1 b5;obtain⟨u1,u2,u3⟩:=wof r' (-((d+1)*val v)+pw (m+2+1)+val v-pw (m+2+1)*c) b1 (by omega) (b3.trans a3) (b4.trans a4) (by rw[b5,a5,hpw,Int.mul_sub,aq8,aq8,aqX];grind)
     have hc:c=1:=by
      rcases(show c=0\/c=1 by omega)with hc|hc
      ·exfalso;subst hc;rw[aqw,Int.sub_zero]at u1;rw[Int.add_mul,aqW]at u1;omega
      ·exact hc
     subst hc;rw[same r' b1 (by omega) (b3.trans a3) (b4.trans a4) (by rw[b5,a5];grind)];obtain⟨q,hq⟩:=hrun;refine⟨q,?_⟩;unfold em;rw[hN,e1,e2,aE,aE,e3,a8 (anT _),ak r5 k,anN hk5,show d+1-1=d by omega,bI (x:=d) (by omega) (by omega),cZ (x:=d) (by omega) (by omega),aM (x:=(k:Int)-1) (by omega) (by omega)];exact hq
    obtain⟨q,hq⟩:=hres;refine⟨q,?_⟩;unfold dt;rw[hv,hN,e1,e2,aE,aE,e3,a8 (anT _),anO (show(1:Int)>0 by decide),anO (show(0:Int)<=(k:Int)/\(k:Int)<=((k+(m+2)+1:Nat):Int)/\((k+(m+2)+1:Nat):Int)<=(r.length:Int) by omega)];exact hq
  obtain⟨qL,rL,hf,q,hq⟩:=key;refine⟨qL,rL,hf,Bh _ _ _ _ _ ⟨q,?_⟩⟩;have e4:i64.wrap (((k+(m+2):Nat):Int)-1)=((k+m+1:Nat):Int):=by rw[aM (by omega) (by omega)];omega
  have e5:i64.wrap (((m+2:Nat):Int)-1)=((m+1:Nat):Int):=by rw[aM (by omega) (by omega)];omega
  unfold vT;rw[show((k+1:Nat):Int)-1=(k:Int) by omega,anO (by omega),hv,hN,e1,e4,e5,ak r1 (k+(m+2)),aE,anN (show k+(m+2)<r1.length by omega),ak r1 (k+m+1),aE,anN (show k+m+1<r1.length by omega),ak v (m+1),anN (show m+1<v.length by omega)];dsimp only;rw[bI (x:=v[m+1]) (by omega) (by omega),anQ (show ¬v[m+1]=0 by omega)];dsimp only;have e6:r1[k+(m+2)]=r1[k+m+2]:=rfl;rw[e6,bI (x:=r1[k+m+2]) (by omega) (by omega),bI (x:=r1[k+m+1]) (by omega) (by omega),bI (x:=r1[k+m+2]*1000000000) (by omega) (by omega),bI (x:=r1[k+m+2]*1000000000+r1[k+m+1]) (by omega) (by omega),gJ (by omega),ju (by omega),bI (x:=(r1[k+m+2]*1000000000+r1[k+m+1])/v[m+1]) (by omega) (by omega)];exact hq
end
end
def pI(a b:List Int):Prop:=(Lim a/\a.length<=100000000)/\(Lim b/\b.length<=100000000)/\0<val b
instance (a b:List Int):Decidable (pI a b):=by unfold pI;infer_instance
structure al5 (a b q r:List Int):Prop where
 lq:Lim q
 lr:Lim r
 sq:q.length<=200000000
 sr:r.length<=200000000
 q:val q=val a/val b
 r:val r=val a%val b
theorem wR(x:Int):val [x]=x:=by simp[val]
theorem vO{l:List Int}(h:can l){m:Nat}(hl:l.length=m+1):1<=l[m]:=by
 have h2:=h.2;have h1:=h.1.get (show m<l.length by omega);grind
set_option maxHeartbeats 1000000 in
theorem Ig(a b:List Int)(h:pI a b):∃q r,al5 a b q r/\CQq7 268 [.d ard a,.d ard b] [.d ard q,.d ard r]:=by
 obtain⟨⟨la,sa⟩,⟨lb,sb⟩,hb⟩:=h;have ha:aQ a:=⟨la,by omega⟩
 have hb':aQ b:=⟨lb,by omega⟩
 have va:=bG (val a).toNat
 have vb:=bG (val b).toNat
 have na:=aP la;have va':val (ae (val a).toNat)=val a:=by omega
 have vb':val (ae (val b).toNat)=val b:=by omega
 have lna:=j9 la;have lnb:=j9 lb;have ca:=dX (val a).toNat
 have cb:=dX (val b).toNat
 have hla:aQ (ae (val a).toNat):=⟨ca.1,by omega⟩
 have hlb:aQ (ae (val b).toNat):=⟨cb.1,by omega⟩
 have go:∀{q r},f0.Res 268 [.d ard a,.d ard b] [.d ard q,.d ard r]->CQq7 268 [.d ard a,.d ard b] [.d ard q,.d ard r]:=λhr=>fK L8 hr;have hb0:ae (val b).toNat≠[]:=λe=>by rw[gQ]at e;omega
 by_cases h1:(ae (val b).toNat).length=1
 ·have t1:=vO cb (m:=0) h1;have t2:=cb.1.get (show 0<(ae (val b).toNat).length by omega)
  have e0:(ae (val b).toNat)[0]=val b:=by
   obtain⟨x,hx⟩:=List.length_eq_one_iff.1 h1;have:=vb';rw[hx,wR]at this;simp[hx,this]
  have hq0:0<=val a/val b:=aoO na (by omega);have hq1:val a/val b<=val a:=apI _ na;have hr0:=aoZ (val a) (show val b≠0 by omega);have hr1:=aoC (val a) hb;have hal:=bU ca.1;refine⟨dig (ae (val a).toNat).length (val a/val b),[val a%val b],⟨nO _ _,Lim.cons ⟨hr0,by omega⟩ Lim.nil,by rw[jh];omega,by simp,iz _ _ hq0 (by omega),wR _⟩,go (Ul _ _ ⟨0,?_⟩)⟩;unfold KL;rw[anO ha,anO hb',h1,AK,anN (show 0<(ae (val b).toNat).length by omega),e0];dsimp only;rw[anO (show EZ (ae (val a).toNat) (val b) from⟨hla,by omega,by omega⟩),va'];rfl
 have hlen:2<=(ae (val b).toNat).length:=by
  rcases aov (ae (val b).toNat).length 2 with h|h
  ·exfalso;have:(ae (val b).toNat).length≠0:=λe=>hb0 (ao9 e);omega
  ·exact h
 by_cases hlt:val a<val b
 ·refine⟨[],ae (val a).toNat,⟨Lim.nil,ca.1,by simp,by omega,?_,?_⟩,go (Ul _ _ ⟨0,?_⟩)⟩
  ·rw[aoV na hlt];rfl
  ·rw[ap7 na hlt];exact va'
  ·unfold KL;rw[anO ha,anO hb',show(((ae (val b).toNat).length:Int)==1)=F' by simp;omega,anO (show aQ (ae (val a).toNat)/\aQ (ae (val b).toNat) from⟨hla,hlb⟩),va',vb',c9 hlt,anO (show(ae (val a).toNat).length*4<=140737488355328/\(ae (val a).toNat).length<=140737488355328 by omega)];rfl
 ·obtain⟨m,hm⟩:∃m,(ae (val b).toNat).length=m+2:=⟨(ae (val b).toNat).length-2,by omega⟩
  have hxm:m+1<(ae (val b).toNat).length:=by omega
  have t1:=vO cb (m:=m+1) hm;have t2:=cb.1.get hxm;generalize hx2:(ae (val b).toNat)[m+1]=x2 at t1 t2;obtain⟨s1,s2,s3,s4⟩:=P3 t1 t2.2
  have esc:u32.wrap (u64.wrap (Int.tdiv 1000000000 (u64.wrap ((u64.wrap x2)+1))))=1000000000/(x2+1):=by
   rw[bI (x:=x2) (by omega) (by omega),bI (x:=x2+1) (by omega) (by omega),gJ (by omega),bI (x:=1000000000/(x2+1)) (by omega) (by omega),cZ (x:=1000000000/(x2+1)) (by omega) (by omega)]
  generalize hsc:1000000000/(x2+1)=sc at s1 s2 s3 s4 esc;have hsl:aQ [sc]:=⟨Lim.cons ⟨by omega,by omega⟩ Lim.nil,by simp⟩
  have hbl:=bU cb.1;rw[vb',hm]at hbl;have hP:=cg (m+1);have hbtop:=bh hxm;rw[aoI (by omega),vb',hx2]at hbtop;have hbt0:=aP (cb.1.take (m+1));have hbt1:=bU (cb.1.take (m+1));rw[aoo,aor (by omega)]at hbt1
  have hVhi:val b*sc<pw (m+2):=by
   have e1:val b*sc<(pw (m+1)*(x2+1))*sc:=Int.mul_lt_mul_of_pos_right (by rw[aq8,aqv];omega) (by omega);have e2:(pw (m+1)*(x2+1))*sc=pw (m+1)*((x2+1)*sc):=Int.mul_assoc _ _ _;have e3:pw (m+1)*((x2+1)*sc)<=pw (m+1)*1000000000:=anV s3 (aow hP);rw[bW];omega
  have hVlo:pw (m+1)*500000000<=val b*sc:=by
   have e1:pw (m+1)*x2*sc<=val b*sc:=an1 (by omega) (by omega);have e2:pw (m+1)*x2*sc=pw (m+1)*(x2*sc):=Int.mul_assoc _ _ _;have e3:pw (m+1)*500000000<=pw (m+1)*(x2*sc):=anV s4 (aow hP);omega
  have hV0:0<val b*sc:=Int.mul_pos hb (by omega);have edv:val (dig (m+2+1) (val b*sc))=val b*sc:=iz _ _ (by omega) (by rw[bW];omega);obtain⟨v,hv⟩:∃v,ae (val b*sc).toNat=v:=⟨_,rfl⟩
  have cv:=dX (val b*sc).toNat
  have vv:=bG (val b*sc).toNat
  rw[hv]at cv vv;have hvv:val v=val b*sc:=by omega
  have hvl:v.length=m+2:=by
   have h1:v.length<=m+2:=by rw[<-hv];exact dl (by omega)
   have h2:m+1<v.length:=by rw[<-hv];exact Er (by omega)
   omega
  have htop:500000000<=v[m+1]:=by
   rcases aoj v[m+1] 500000000 with hc|hc
   ·exfalso;have e1:=bh (l:=v) (n:=m+1) (by omega);rw[aoI (by omega),hvv]at e1;have e2:=bU (cv.1.take (m+1));rw[aoo,aor (by omega)]at e2;have e3:=anV (show v[m+1]<=499999999 by omega) (aow hP);omega
   ·exact hc
  have hal:=bU ca.1;rw[va']at hal;have hA0:0<=val a*sc:=aoL na (by omega)
  have hA1:val a*sc<pw ((ae (val a).toNat).length+1):=by
   have e1:val a*sc<=pw (ae (val a).toNat).length*sc:=an1 (by omega) (by omega);have e2:pw (ae (val a).toNat).length*sc<pw (ae (val a).toNat).length*1000000000:=Int.mul_lt_mul_of_pos_left (by omega) (cg _);rw[bW];omega
  have lab:m+2<=(ae (val a).toNat).length:=by
   rw[<-hm];rcases aov (ae (val a).toNat).length (ae (val b).toNat).length with hc|hc
   ·have:=xe hc;omega
   ·exact hc
  generalize hlA:(ae (val a).toNat).length=L at*
  have hdl:(dig (L+1) (val a*sc)++[0]).length=L+2:=by simp[jh]
  have hdv:val (dig (L+1) (val a*sc)++[0])=val a*sc:=by rw[dD,iz _ _ hA0 hA1];simp[val]
  have hmul:=hvv
  obtain⟨q,r,⟨f1,f2,f3,f4,f5,f6⟩,n,hrun⟩:=Qs b x2 v m hm (by rw[esc,hm,vb',wR];simp only[aoc];rw[edv];exact hv) cv.1 hvl sc esc s1 s2 htop (val a*sc) (L-m) (List.replicate (L-m) 0) (dig (L+1) (val a*sc)++[0])
   (Lim.rep _) ((nO _ _).append (Lim.cons (by decide) Lim.nil)) (by rw[hdl];simp;omega) (by rw[hdl];omega) (by simp) (by rw[gv,hdv];omega) (λj hj _=>by simp) (by
    rw[hdv,hvv];have e1:pw (m+1)*500000000*pw (L-m)<=val b*sc*pw (L-m):=an1 hVlo (aow (cg _))
    have e2:pw (m+1)*500000000*pw (L-m)=pw (L+1)*500000000:=by
     rw[show L+1=m+1+(L-m) by omega,fo (m+1) (L-m),Int.mul_right_comm]
    have:=cg (L+1);omega)
  have hq:val a*sc/(val b*sc)=val a/val b:=Int.mul_ediv_mul_of_pos_left _ _ (by omega)
  have hr:val a*sc%(val b*sc)/sc=val a%val b:=by
   rw[apD (val a),apD (val b),Int.mul_emod_mul_of_pos _ _ (by omega),apD];exact Int.mul_ediv_cancel _ (by omega)
  rw[hvv]at f5 f6;rw[hq]at f5;rw[hr]at f6;refine⟨q,r,⟨f1,f2,by rw[f3];simp;omega,by omega,f5,f6⟩,go (Ul _ _ ⟨n,?_⟩)⟩;unfold KL;have e1:i64.wrap (((m+2:Nat):Int)-1)=((m+1:Nat):Int):=by rw[aM (by omega) (by omega)];omega
  have e2:i64.wrap (((L+2:Nat):Int)-((m+2:Nat):Int))=((L-m:Nat):Int):=by rw[aM (by omega) (by omega)];omega
  have e3:i64.wrap (((L-m:Nat):Int)-1)=((L-m:Nat):Int)-1:=aM (by omega) (by omega)
  rw[anO ha,anO hb',hm,show(((m+2:Nat):Int)==1)=F' by simp;omega,anO (show aQ (ae (val a).toNat)/\aQ (ae (val b).toNat) from⟨hla,hlb⟩),va',vb',show Dd' (b8 (val a) (val b)<0)=F' by
   rcases aoj (val b) (val a)with hc|hc
   ·rw[cH hc];rfl
   ·rw[show val a=val b by omega,dV];rfl,e1,ak (ae (val b).toNat) (m+1),anN hxm,hx2]
  dsimp only;rw[esc,bI (x:=x2) (by omega) (by omega),bI (x:=x2+1) (by omega) (by omega),anQ (show ¬x2+1=0 by omega),anO (show aQ (ae (val a).toNat)/\aQ [sc] from⟨hla,hsl⟩),anO (show aQ (ae (val b).toNat)/\aQ [sc] from⟨hlb,hsl⟩),wR,hlA];rw[aoc,aoc,hdl,jh (L+1)];rw[anO (show(L+1+1)*4<=140737488355328/\L+1+1<=140737488355328 by omega),anO (show aQ (dig (m+2+1) (val b*sc)) from jF (by omega) _),e2,t9 (by omega),aE,e3];exact hrun
abbrev BI:=Bool×List Int
def okI(x:BI):Prop:=can x.2/\(x.1=T'->x.2≠[])/\x.2.length<=1000000
instance (x:BI):Decidable (okI x):=by unfold okI;infer_instance
theorem bO(x:BI):ab x=bZ x.1 (val x.2):=rfl
theorem iu{x:BI}(h:okI x):x=ah (ab x):=by
 obtain⟨h1,h2,h3⟩:=h;grind [bO,nf,o9,val,eD]
def szI(z:Int):Nat:=(ae z.natAbs).length
theorem aS{z:Int}(h:szI z<=1000000):okI (ah z):=by
 refine⟨dX _,λe=>?_,h⟩;grind [ah,gQ]
theorem fc{z:Int}{k:Nat}(h1: -pw k<z)(h2:z<pw k):szI z<=k:=dl (by omega)
theorem IT(z:Int): -pw (szI z)<z/\z<pw (szI z):=by
 have h:=bU (bV z.natAbs);grind [bG,szI]
theorem oH{z:Int}{k:Nat}(h:szI z<=k): -pw k<z/\z<pw k:=by
 have h1:=IT z;have h2:=du h;omega
theorem jc(z:Int):szI (-z)=szI z:=by simp[szI]
theorem w8{a b:Int}{k:Nat}(h1:szI a<=k)(h2:szI b<=k):szI (a+b)<=k+1:=by
 have e1:=oH h1;have e2:=oH h2;exact fc (by rw[bW];omega) (by rw[bW];omega)
theorem cK{a b:Int}{j k:Nat}(h1:szI a<=j)(h2:szI b<=k):szI (a*b)<=j+k:=by
 have e1:=oH h1;have e2:=oH h2
 have h:(a*b).natAbs<(pw (j+k)).toNat:=by
  rw[Int.natAbs_mul,fo];have:(pw j*pw k).toNat=(pw j).toNat*(pw k).toNat:=Int.toNat_mul (by omega) (by omega);rw[this];exact Nat.mul_lt_mul'' (by omega) (by omega)
 exact fc (by omega) (by omega)
theorem dA{a b:Int}(h:a.natAbs<=b.natAbs):szI a<=szI b:=by
 have:=IT b;exact fc (by omega) (by omega)
theorem iS{x:BI}(h:okI x):szI (ab x)<=1000000:=by
 have:=iu h;have h3:=h.2.2;rwa [this]at h3
theorem fu{x:BI}(h:okI x):aQ x.2:=⟨h.1.1,by have:=h.2.2;omega⟩
theorem cp{x:BI}(h:okI x):0<=val x.2/\(x.1=T'->0<val x.2)/\(x.2=[]↔val x.2=0):=by
 refine⟨aP h.1.1,λe=>eD h.1 (h.2.1 e),⟨λe=>by rw[e];rfl,λe=>?_⟩⟩;rcases List.eq_nil_or_concat x.2 with h'|⟨l,y,h'⟩
 ·omega
 ·have:=eD h.1 (by rw[h'];simp);omega
def pg:cE:=spN F' F' [arf] (λx=>Dd' (bH x.1)) (λx=>[RV.d y3Y (ah x.1)])
theorem kY:SpK 269 pg:=spX λx h=>Dl x.1 (anP h)
def dvQ(a b:List Int):List Int:=if h:pI a b then Classical.choose (Ig a b h)else []
def dvR(a b:List Int):List Int:=if h:pI a b then Classical.choose (aph (Ig a b h))else []
theorem YN{a b:List Int}(h:pI a b):al5 a b (dvQ a b) (dvR a b):=by grind [dvQ,dvR]
theorem Wb(a b:List Int)(h:pI a b):CQq7 268 [.d ard a,.d ard b] [.d ard (dvQ a b),.d ard (dvR a b)]:=by
 unfold dvQ dvR;rw[dif_pos h,dif_pos h];exact(aph (aph (Ig a b h))).2
def G9:cE:=spN F' F' [ard,ard] (λx=>Dd' (pI x.1 x.2.1)) (λx=>[RV.d ard (dvQ x.1 x.2.1),RV.d ard (dvR x.1 x.2.1)])
theorem FO:SpK 268 G9:=spX λx h=>Wb x.1 x.2.1 (anP h)
def sE:Env:=[(189,zj),(267,DP),(276,Ja),(277,HD),(190,Hg),(188,I4),(269,pg),(268,G9)]
theorem kH:EnvAll Tryz.prog sE:=⟨tj,za,Fo,FE,Fv,Fb,kY,FO,trivial⟩
def ai9:Ctx:=CX sE []
def Zx(x y:Bool×List Int)(_k:KT):OLR:=match !(x.1==y.1)with|T'=>(match x.1 with|T'=>S' [RV.d arf (-1)]|F'=>S' [RV.d arf 1])|F'=>(match x.1 with|T'=>(og (Dd' (aQ y.2/\aQ x.2)) (S' [RV.d arf (b8 (val y.2) (val x.2))]))|F'=>(og (Dd' (aQ x.2/\aQ y.2)) (S' [RV.d arf (b8 (val x.2) (val y.2))])))
theorem ai1(x y:Bool×List Int):RS ai9 108 [.d y3Y x,.d y3Y y] (Zx x y):=rsX
def amh:Ctx:=CX sE []
def abl(x y:Bool×List Int)(_k:KT):OLR:=match x.1==y.1 with|T'=>(og (Dd' (aQ x.2/\aQ y.2)) (og (Dd' (aQ (dig (max x.2.length y.2.length+1) (val x.2+val y.2)))) (S' [RV.d y3Y (ah (bZ x.1 (val (dig (max x.2.length y.2.length+1) (val x.2+val y.2)))))])))|F'=>(og (Dd' (aQ x.2/\aQ y.2)) (match Dd' ((b8 (val x.2) (val y.2))<0)with|T'=>(og (Dd' (oZ y.2 x.2)) (og (Dd' (aQ (dig y.2.length (val y.2-val x.2)))) (S' [RV.d y3Y (ah (bZ y.1 (val (dig y.2.length (val y.2-val x.2)))))])))|F'=>(og (Dd' (oZ x.2 y.2)) (og (Dd' (aQ (dig x.2.length (val x.2-val y.2)))) (S' [RV.d y3Y (ah (bZ x.1 (val (dig x.2.length (val x.2-val y.2)))))])))))
theorem ahL(x y:Bool×List Int):RS amh 202 [.d y3Y x,.d y3Y y] (abl x y):=rsX
def aho:Ctx:=CX sE []
def Yk(x y:Bool×List Int)(_k:KT):OLR:=og (Dd' (aQ x.2/\aQ y.2)) (og (Dd' (aQ (dig (x.2.length+y.2.length) (val x.2*val y.2)))) (S' [RV.d y3Y (ah (bZ (!(x.1==y.1)) (val (dig (x.2.length+y.2.length) (val x.2*val y.2)))))]))
theorem aiO(x y:Bool×List Int):RS aho 109 [.d y3Y x,.d y3Y y] (Yk x y):=rsX
def aiu:Ctx:=CX sE []
def aar(x:Bool×List Int)(_k:KT):OLR:=og (Dd' (x.2.length*4<=140737488355328/\x.2.length<=140737488355328)) (og (Dd' (aQ x.2)) (S' [RV.d y3Y (ah (bZ (!x.1) (val x.2)))]))
theorem aju(x:Bool×List Int):RS aiu 273 [.d y3Y x] (aar x):=rsX
def ajU:Ctx:=CX sE []
def XO(x:Bool×List Int)(_k:KT):OLR:=match x.1 with|T'=>S' [RV.d arf (-1)]|F'=>(match Dd' ((x.2.length:Int)>0)with|T'=>S' [RV.d arf 1]|F'=>S' [RV.d arf 0])
theorem ai7(x:Bool×List Int):RS ajU 178 [.d y3Y x] (XO x):=rsX
theorem C6(x:BI)(h:okI x):CQq7 178 [.d y3Y x] [.d arf (b8 (ab x) 0)]:=by
 refine fK kH (ai7 _ ⟨0,?_⟩);obtain⟨h0,h1,h2⟩:=cp h;unfold XO;rw[bO];unfold bZ;cases hx:x.1
 ·simp only[cond_false];rcases aoj 0 (val x.2)with hc|hc
  ·have:x.2≠[]:=λe=>by rw[h2]at e;omega
   have:=aoy.2 this;rw[anO (by omega),cH hc]
  ·have e:x.2=[]:=h2.2 (by omega);rw[e];rfl
 ·simp only[cond_true];rw[c9 (by have:=h1 hx;omega)]
theorem JP{a b:Int}(_ha:0<=a)(_hb:0<=b):b8 (-a) (-b)=b8 b a:=by grind [cH,dV,c9]
theorem Do(x y:BI)(h:okI x/\okI y):CQq7 108 [.d y3Y x,.d y3Y y] [.d arf (b8 (ab x) (ab y))]:=by
 refine fK kH (ai1 _ _ ⟨0,?_⟩);obtain⟨hx,hy⟩:=h;obtain⟨x0,x1,x2⟩:=cp hx;obtain⟨y0,y1,y2⟩:=cp hy;have lx:=fu hx;have ly:=fu hy;unfold Zx;rw[bO,bO,anO (show aQ x.2/\aQ y.2 from⟨lx,ly⟩),anO (show aQ y.2/\aQ x.2 from⟨ly,lx⟩)];unfold bZ;cases ex:x.1<;>cases ey:y.1<;>simp only[cond_true,cond_false]
 ·rfl
 ·have:=y1 ey;rw[cH (a:=val x.2) (b:= -val y.2) (by omega)];rfl
 ·have:=x1 ex;rw[c9 (a:= -val x.2) (b:=val y.2) (by omega)];rfl
 ·rw[JP x0 y0];rfl
theorem QT{a b:List Int}(ha:Lim a)(hb:Lim b):val (dig (max a.length b.length+1) (val a+val b))=val a+val b:=by
 have h1:=bU ha;have h2:=bU hb;have h3:=aP ha;have h4:=aP hb;have h5:=du (Nat.le_max_left a.length b.length);have h6:=du (Nat.le_max_right a.length b.length);grind [iz,bW]
theorem BZ{a b:List Int}(ha:Lim a)(hb:Lim b)(hle:val b<=val a):val (dig a.length (val a-val b))=val a-val b:=by
 have h1:=bU ha;have h4:=aP hb;grind [iz]
theorem Mn{a b:List Int}(ha:Lim a)(hb:Lim b):val (dig (a.length+b.length) (val a*val b))=val a*val b:=by
 have h1:=bU ha;have h2:=bU hb;have h3:=aP ha;have h4:=aP hb;refine iz _ _ (aoL h3 h4) ?_;rw[fo];have e1:=an1 (aow h1) h4;have e2:=Int.mul_lt_mul_of_pos_left h2 (cg a.length);omega
theorem K0(x y:BI)(h:okI x/\okI y):CQq7 202 [.d y3Y x,.d y3Y y] [.d y3Y (ah (ab x+ab y))]:=by
 refine fK kH (ahL _ _ ⟨0,?_⟩);obtain⟨hx,hy⟩:=h;obtain⟨x0,x1,x2⟩:=cp hx;obtain⟨y0,y1,y2⟩:=cp hy;have lx:=fu hx;have ly:=fu hy;have sx:=hx.2.2;have sy:=hy.2.2;unfold abl;rw[bO,bO,anO (show aQ x.2/\aQ y.2 from⟨lx,ly⟩),anO (show aQ (dig (max x.2.length y.2.length+1) (val x.2+val y.2)) from jF (by omega) _),QT lx.1 ly.1,anO (show aQ (dig x.2.length (val x.2-val y.2)) from jF (by omega) _),anO (show aQ (dig y.2.length (val y.2-val x.2)) from jF (by omega) _)];cases hs:x.1==y.1
 ·dsimp only;rcases aoj (val x.2) (val y.2)with hc|hc
  ·rw[c9 hc,anO (show(-1:Int)<0 by decide),anO (show oZ y.2 x.2 from⟨ly,lx,by omega⟩),BZ ly.1 lx.1 (by omega)];dsimp only;unfold bZ;cases ex:x.1<;>cases ey:y.1<;>simp_all<;>congr 2<;>omega
  ·have hcm:Dd' (b8 (val x.2) (val y.2)<0)=false:=by
    rcases aoj (val y.2) (val x.2)with h|h
    ·rw[cH h];rfl
    ·rw[show val x.2=val y.2 by omega,dV];rfl
   rw[hcm,anO (show oZ x.2 y.2 from⟨lx,ly,hc⟩),BZ lx.1 ly.1 hc];dsimp only;unfold bZ;cases ex:x.1<;>cases ey:y.1<;>simp_all<;>congr 2<;>omega
 ·dsimp only;have e:=aos.1 hs;rw[<-e];unfold bZ;cases x.1
  ·rfl
  ·simp only[cond_true];rw[show-(val x.2+val y.2)= -val x.2+ -val y.2 by omega]
theorem Dq(x:BI)(h:okI x):CQq7 273 [.d y3Y x] [.d y3Y (ah (-ab x))]:=by
 refine fK kH (aju _ ⟨0,?_⟩);have sx:=h.2.2;unfold aar;rw[bO,anO (show x.2.length*4<=140737488355328/\x.2.length<=140737488355328 by omega),anO (fu h)];unfold bZ;cases x.1<;>simp
theorem D0(x y:BI)(h:okI x/\okI y):CQq7 109 [.d y3Y x,.d y3Y y] [.d y3Y (ah (ab x*ab y))]:=by
 refine fK kH (aiO _ _ ⟨0,?_⟩);obtain⟨hx,hy⟩:=h;have lx:=fu hx;have ly:=fu hy;have sx:=hx.2.2;have sy:=hy.2.2;unfold Yk;rw[bO,bO,anO (show aQ x.2/\aQ y.2 from⟨lx,ly⟩),anO (show aQ (dig (x.2.length+y.2.length) (val x.2*val y.2)) from jF (by omega) _),Mn lx.1 ly.1];unfold bZ;cases x.1<;>cases y.1<;>simp[Int.neg_mul,aqX]
def qi:cE:=spN F' F' [y3Y,y3Y] (λx=>Dd' (okI x.1/\okI x.2.1)) (λx=>[RV.d y3Y (ah (ab x.1+ab x.2.1))])
theorem lB:SpK 202 qi:=spX λx h=>K0 x.1 x.2.1 (anP h)
def G7:Env:=(202,qi)::sE
theorem AY:EnvAll Tryz.prog G7:=⟨lB,kH⟩
def al0:Ctx:=CX G7 []
def aaf(x y:Bool×List Int)(_k:KT):OLR:=match !y.1 with|T'=>(og (Dd' (okI x/\okI (Dd' ((y.2.length:Int)>0),y.2))) (S' [RV.d y3Y (ah (ab x+ab (Dd' ((y.2.length:Int)>0),y.2)))]))|F'=>(og (Dd' (okI x/\okI (F',y.2))) (S' [RV.d y3Y (ah (ab x+ab (F',y.2)))]))
theorem ahZ(x y:Bool×List Int):RS al0 368 [.d y3Y x,.d y3Y y] (aaf x y):=rsX
theorem Rb{y:BI}(h:okI y):okI (!y.1&&Dd' ((y.2.length:Int)>0),y.2)/\ab (!y.1&&Dd' ((y.2.length:Int)>0),y.2)= -ab y:=by
 refine⟨⟨h.1,λe=>?_,h.2.2⟩,?_⟩
 ·grind
 grind [bO,bZ,val,aoy]
theorem Lw(x y:BI)(h:okI x/\okI y):CQq7 368 [.d y3Y x,.d y3Y y] [.d y3Y (ah (ab x-ab y))]:=by
 refine fK AY (ahZ _ _ ⟨0,?_⟩);obtain⟨hx,hy⟩:=h;obtain⟨f1,f2⟩:=Rb hy;rw[Int.sub_eq_add_neg,<-f2];unfold aaf;cases ey:y.1
 ·rw[ey]at f1;simp only[Bool.not_false,apo]at f1 ⊢;rw[anO ⟨hx,f1⟩]
 ·rw[ey]at f1;simp only[Bool.not_true,aqZ]at f1 ⊢;rw[anO ⟨hx,f1⟩]
def R5:cE:=spN F' F' [y3Y,y3Y] (λx=>Dd' (okI x.1/\okI x.2.1)) (λx=>[RV.d y3Y (ah (ab x.1-ab x.2.1))])
theorem Ol:SpK 368 R5:=spX λx h=>Lw x.1 x.2.1 (anP h)
def OI:Env:=(368,R5)::G7
theorem L5:EnvAll Tryz.prog OI:=⟨Ol,AY⟩
def ajO:Ctx:=CX OI []
def Zh(x y:Bool×List Int)(_k:KT):OLR:=let y1:=aQ (dvQ x.2 y.2);let y2:=aQ (dvR x.2 y.2);let y3:=ah (bZ x.1 (val (dvR x.2 y.2)));let y4:=ah (bZ (!(x.1==y.1)) (val (dvQ x.2 y.2)));let y5:OLR:=match Dd' (((y3.2).length:Int)>0)with|T'=>(match !((y3.1)==y.1)with|T'=>(og (Dd' (bH (1:Int))) (og (Dd' (okI y4/\okI (ah (1:Int)))) (og (Dd' (okI y3/\okI y)) (dup (.b .l .l) (S' [RV.d y3Y (ah (ab y4-ab (ah (1:Int)))),RV.d y3Y (ah (ab y3+ab y)),RV.d arf 0])))))|F'=>dup (.b .l .l) (S' [RV.d y3Y y4,RV.d y3Y y3,RV.d arf 0]))|F'=>dup (.b .l .l) (S' [RV.d y3Y y4,RV.d y3Y y3,RV.d arf 0]);let y6:OLR:=match decide y2 with|T'=>y5|F'=>N';match(y.2.length:Int)==0 with|T'=>S' [RV.d y3Y (F',[]),RV.d y3Y (F',[]),RV.d arf 6]|F'=>(og (Dd' (pI x.2 y.2)) (cX (og (decide y1) (cX (og (decide y2) (dup (.b .l .l) y5)) (dup (.b (.b .l .l) (.b .l .l)) y6))) (dup (.b .l .l) (cX (og (decide y1) (dup (.b .l .l) y6)) (og (decide y1) y6)))))
theorem ahl(x y:Bool×List Int):RS ajO 321 [.d y3Y x,.d y3Y y] (Zh x y):=rsX
def fj(x y:BI):Prop:=okI x/\okI y/\0<ab y
instance (x y:BI):Decidable (fj x y):=by unfold fj;infer_instance
theorem Lk{a b:Int}(_ha:0<=a)(hb:0<b):(a%b=0-> -a/b= -(a/b)/\ -a%b=0)/\(0<a%b-> -a/b= -(a/b)-1/\ -a%b= -(a%b)+b):=by
 have h1:=aoZ a (show b≠0 by omega);have h2:=aoC a hb;have h3:=aoA a b;constructor
 ·intro h;have e: -a=b* -(a/b):=by rw[aqX];omega
  constructor
  ·rw[e,ap8 _ (by omega)]
  ·rw[e,Int.mul_emod_right]
 ·intro h;have e: -a=(b-a%b)+b*(-(a/b)-1):=by rw[Int.mul_sub,aqX,aqv];omega
  constructor
  ·rw[e,apC _ _ (by omega),aoV (by omega) (by omega)];omega
  ·rw[e,apU,ap7 (by omega) (by omega)];omega
theorem lP:okI (ah 1):=by decide
theorem DA(n:Bool){v:Int}:szI (bZ n v)=szI v:=by unfold bZ;cases n<;>simp[jc]
theorem Ko(x y:BI)(h:fj x y):CQq7 321 [.d y3Y x,.d y3Y y] [.d y3Y (ah (ab x/ab y)),.d y3Y (ah (ab x%ab y)),.d arf 0]:=by
 refine fK L5 (ahl _ _ ⟨0,?_⟩);obtain⟨hx,hy,hp⟩:=h;obtain⟨x0,x1,x2⟩:=cp hx;obtain⟨y0,y1,y2⟩:=cp hy;have sx:=hx.2.2;have sy:=hy.2.2
 have ey:y.1=false:=by
  cases e:y.1
  ·rfl
  ·rw[bO,e]at hp;simp only[bZ,cond_true]at hp;omega
 have dy:ab y=val y.2:=by rw[bO,ey];rfl
 rw[dy]at hp;have hdv:pI x.2 y.2:=⟨⟨hx.1.1,by omega⟩,⟨hy.1.1,by omega⟩,hp⟩
 obtain⟨lq,lr,sq,sr,vq,vr⟩:=YN hdv;have hne:y.2≠[]:=λe=>by rw[y2]at e;omega
 have hylen:=aoy.2 hne;have r0:=aoZ (val x.2) (show val y.2≠0 by omega);have r1:=aoC (val x.2) hp;have q0:0<=val x.2/val y.2:=aoO x0 y0;have q1:val x.2/val y.2<=val x.2:=apI _ x0;have vx:=bU hx.1.1;have vy:=bU hy.1.1;have szq:szI (val x.2/val y.2)<=1000000:=fc (by have:=cg 1000000;omega) (by have:=du sx;omega);have szr:szI (val x.2%val y.2)<=1000000:=fc (by have:=cg 1000000;omega) (by have:=du sy;omega);unfold Zh;simp only[dg]
 rw[show((y.2.length:Int)==0)=F' by simp;omega,anO hdv,anO (show aQ (dvQ x.2 y.2) from⟨lq,by omega⟩),anO (show aQ (dvR x.2 y.2) from⟨lr,by omega⟩),anO (show bH 1 by decide),vq,vr,
  anO (show okI (ah (bZ (!(x.1==y.1)) (val x.2/val y.2)))/\okI (ah (1:Int)) from⟨aS (by rw[DA];exact szq),lP⟩),anO (show okI (ah (bZ x.1 (val x.2%val y.2)))/\okI y from⟨aS (by rw[DA];exact szr),hy⟩)]
 simp only[dec_enc,dy,cQ];have hE1:(ah (bZ x.1 (val x.2%val y.2))).1=(x.1&&Dd' (0<val x.2%val y.2)):=by rw[nf x.1 r0]
 have hE2:(ah (bZ x.1 (val x.2%val y.2))).2=ae (val x.2%val y.2).toNat:=by rw[nf x.1 r0]
 rw[hE1,hE2,bO x,ey]
 have hlen:(((ae (val x.2%val y.2).toNat).length:Int)>0)↔0<val x.2%val y.2:=by
  constructor
  ·intro hl;rcases aoj 0 (val x.2%val y.2)with h|h
   ·exact h
   ·rw[show(val x.2%val y.2).toNat=0 by omega,fH]at hl;simp at hl
  ·intro hl;have:ae (val x.2%val y.2).toNat≠[]:=λe=>by rw[gQ]at e;omega
   have:=aoy.2 this;omega
 obtain⟨n1,n2⟩:=Lk (a:=val x.2) (b:=val y.2) x0 hp;rcases aoj 0 (val x.2%val y.2)with hr|hr
 ·rw[anO (hlen.2 hr),anO hr];cases x.1
  ·rfl
  ·obtain⟨e1,e2⟩:=n2 hr;simp only[bZ,cond_true,Bool.not_false,apo,show((T'==F'):Bool)=F' from rfl];rw[e1,e2]
 ·rw[anQ (λh'=>by have:=hlen.1 h';omega)];dsimp only;have e0:val x.2%val y.2=0:=by omega
  cases x.1
  ·simp only[bZ,cond_false,show((F'==F'):Bool)=T' from rfl,Bool.not_true]
  ·obtain⟨e1,e2⟩:=n1 e0;simp only[bZ,cond_true,show((T'==F'):Bool)=F' from rfl,Bool.not_false];rw[e1,e2,e0];rfl
def lk(x:BI):Bool:=Dd' (x.2.length<=2)
def As(x:BI):Int:=bif lk x then val x.2 else 0
def agK:Ctx:=CX [] []
def aay(x:Bool×List Int)(_k:KT):OLR:=match(x.2.length:Int)==0 with|T'=>S' [RV.d (.int .u64) 0,RV.d .bool T']|F'=>(match(x.2.length:Int)==1 with|T'=>(match aH x.2 0 with|S' x1=>S' [RV.d (.int .u64) (u64.wrap x1),RV.d .bool T']|N'=>N')|F'=>(match(x.2.length:Int)==2 with|T'=>(match aH x.2 1 with|S' x2=>(match aH x.2 0 with|S' x3=>S' [RV.d (.int .u64) (u64.wrap ((u64.wrap ((u64.wrap x2)*1000000000))+(u64.wrap x3))),RV.d .bool T']|N'=>N')|N'=>N')|F'=>S' [RV.d (.int .u64) 0,RV.d .bool F']))
theorem ai6(x:Bool×List Int):RS agK 266 [.d y3Y x] (aay x):=rsX
theorem Va(x:BI)(h:okI x):CQq7 266 [.d y3Y x] [.d (.int .u64) (As x),.d .bool (lk x)]:=by
 refine fK (E:=[]) trivial (ai6 _ ⟨0,?_⟩);obtain⟨neg,l⟩:=x;have hl:=h.1.1;unfold aay As lk;match l,hl with
 |[],_=>rfl
 |[a],hl=>
  have:=hl.head;simp only[aoc,AK,aoN];rw[bI (x:=a) (by omega) (by omega)];simp[val]
 |[a,b],hl=>
  have h1:=hl.head;have h2:=hl.tail.head;have e1:aH [a,b] 1=S' b:=rfl;have e0:aH [a,b] 0=S' a:=rfl;simp only[e1,e0,an8,List.length_nil];rw[bI (x:=a) (by omega) (by omega),bI (x:=b) (by omega) (by omega),bI (x:=b*1000000000) (by omega) (by omega),bI (x:=b*1000000000+a) (by omega) (by omega)];rw[show val [a,b]=b*1000000000+a by simp only[val];omega];rfl
 |a::b::c::l,hl=>
  have e:Dd' ((a::b::c::l).length<=2)=false:=anQ (by simp);rw[e,show(((a::b::c::l).length:Int)==0)=F' by simp;omega,show(((a::b::c::l).length:Int)==1)=F' by simp;omega,show(((a::b::c::l).length:Int)==2)=F' by simp;omega];rfl
def PI:cE:=spN F' F' [y3Y] (λx=>Dd' (okI x.1)) (λx=>[RV.d (.int .u64) (As x.1),RV.d .bool (lk x.1)])
theorem QQ:SpK 266 PI:=spX λx h=>Va x.1 (anP h)
def Qb:Env:=[(189,zj),(267,DP),(268,G9),(266,PI)]
theorem MU:EnvAll Tryz.prog Qb:=⟨tj,za,FO,QQ,trivial⟩
def ac0:NT:=[((192,6),{keep:=[4,5,6],hl:=5}),((192,24),{keep:=[4,7,9],hl:=3})]
def iv:Ctx:=CX Qb ac0
def mi(x y:Bool×List Int)(b3_0:Bool)(b3_1:List Int)(b4_0:Bool)(b4_1:List Int):Cfg:=⟨192,[.blk 0,.seq 40],[(4,.box 2 0),(5,.box 3 0),(6,.box 4 0)],[.box 36 [SB x.1,.d ard x.2],.box 36 [SB y.1,.d ard y.2],.box 36 [SB F',.nil],.box 36 [SB b3_0,.d ard b3_1],.box 36 [SB b4_0,.d ard b4_1]],0,[]⟩
def ga(x y:Bool×List Int)(b3_0:Bool)(b3_1:List Int)(b4_0:Bool)(b4_1:List Int):Cfg:=⟨192,[.blk 0,.seq 40],[(4,.box 2 0),(5,.box 4 0),(6,.box 3 0)],[.box 36 [SB x.1,.d ard x.2],.box 36 [SB y.1,.d ard y.2],.box 36 [SB F',.nil],.box 36 [SB b3_0,.d ard b3_1],.box 36 [SB b4_0,.d ard b4_1]],0,[]⟩
def jd(x y:Bool×List Int)(s7 s9:Int):Cfg:=⟨192,[.blk 2,.seq 33,.seq 37,.blk 1,.lp 6,.blk 0,.seq 40],[(4,.box 2 0),(7,.d (.int .u64) s7),(9,.d (.int .u64) s9)],[.box 36 [SB x.1,.d ard x.2],.box 36 [SB y.1,.d ard y.2],.box 36 [SB F',.nil]],0,[]⟩
def Ze(x y:Bool×List Int)(k:KT):OLR:=let y1:=ah (bZ F' (val x.2));let y2:=ah (bZ F' (val y.2));let y3:=mi x y (y1.1) (y1.2) (y2.1) (y2.2);let y4:=ga x y (y2.1) (y2.2) (y1.1) (y1.2);let y5:OLR:=match Dd' (aQ y.2)with|T'=>k 6 y3|F'=>N';let y6:OLR:=match Dd' (aQ y.2)with|T'=>k 6 y4|F'=>N';cX (og (Dd' (aQ x.2)) (cX (og (Dd' (aQ y.2)) (cX (k 6 y3) (k 6 y4))) (cX (dup (.b .l .l) y5) (dup (.b .l .l) y6)))) (cX (cX (og (Dd' (aQ x.2)) (dup (.b .l .l) y5)) (og (Dd' (aQ x.2)) y5)) (cX (og (Dd' (aQ x.2)) (dup (.b .l .l) y6)) (og (Dd' (aQ x.2)) y6)))
theorem ajB(x y:Bool×List Int):RS iv 192 [.d y3Y x,.d y3Y y] (Ze x y):=rsX
def TD(x y:Bool×List Int)(b3_0:Bool)(b3_1:List Int)(b4_0:Bool)(b4_1:List Int)(k:KT):OLR:=match Dd' ((b4_1.length:Int)>0)with|T'=>(og (Dd' (okI (b3_0,b3_1))) (og (Dd' (okI (b4_0,b4_1))) (match lk (b3_0,b3_1)with|T'=>(match lk (b4_0,b4_1)with|T'=>k 24 (jd x y (As (b3_0,b3_1)) (As (b4_0,b4_1)))|F'=>(og (Dd' (pI b3_1 b4_1)) (og (Dd' (aQ (dvR b3_1 b4_1))) (k 6 (mi x y b4_0 b4_1 ((ah (bZ F' (val (dvR b3_1 b4_1)))).1) ((ah (bZ F' (val (dvR b3_1 b4_1)))).2))))))|F'=>(og (Dd' (pI b3_1 b4_1)) (og (Dd' (aQ (dvR b3_1 b4_1))) (k 6 (mi x y b4_0 b4_1 ((ah (bZ F' (val (dvR b3_1 b4_1)))).1) ((ah (bZ F' (val (dvR b3_1 b4_1)))).2))))))))|F'=>(og (Dd' (b3_1.length*4<=140737488355328/\b3_1.length<=140737488355328)) (og (Dd' (aQ b3_1)) (S' [RV.d y3Y (ah (bZ F' (val b3_1)))])))
theorem OF(x y:Bool×List Int)(b3_0:Bool)(b3_1:List Int)(b4_0:Bool)(b4_1:List Int):RL iv 6 (mi x y b3_0 b3_1 b4_0 b4_1) (TD x y b3_0 b3_1 b4_0 b4_1):=rlX
def HN(x y:Bool×List Int)(b3_0:Bool)(b3_1:List Int)(b4_0:Bool)(b4_1:List Int)(k:KT):OLR:=match Dd' ((b3_1.length:Int)>0)with|T'=>(og (Dd' (okI (b4_0,b4_1))) (og (Dd' (okI (b3_0,b3_1))) (match lk (b4_0,b4_1)with|T'=>(match lk (b3_0,b3_1)with|T'=>k 24 (jd x y (As (b4_0,b4_1)) (As (b3_0,b3_1)))|F'=>(og (Dd' (pI b4_1 b3_1)) (og (Dd' (aQ (dvR b4_1 b3_1))) (k 6 (ga x y ((ah (bZ F' (val (dvR b4_1 b3_1)))).1) ((ah (bZ F' (val (dvR b4_1 b3_1)))).2) b3_0 b3_1)))))|F'=>(og (Dd' (pI b4_1 b3_1)) (og (Dd' (aQ (dvR b4_1 b3_1))) (k 6 (ga x y ((ah (bZ F' (val (dvR b4_1 b3_1)))).1) ((ah (bZ F' (val (dvR b4_1 b3_1)))).2) b3_0 b3_1)))))))|F'=>(og (Dd' (b4_1.length*4<=140737488355328/\b4_1.length<=140737488355328)) (og (Dd' (aQ b4_1)) (S' [RV.d y3Y (ah (bZ F' (val b4_1)))])))
theorem Iu(x y:Bool×List Int)(b3_0:Bool)(b3_1:List Int)(b4_0:Bool)(b4_1:List Int):RL iv 6 (ga x y b3_0 b3_1 b4_0 b4_1) (HN x y b3_0 b3_1 b4_0 b4_1):=rlX
def vZ(x y:Bool×List Int)(s7 s9:Int)(k:KT):OLR:=match Dd' (s9>0)with|T'=>(match Dd' (s9=(0:Int))with|T'=>N'|F'=>k 24 (jd x y s9 (Int.tmod s7 s9)))|F'=>(og (Dd' (iH s7)) (og (Dd' (aQ (dig 3 s7))) (S' [RV.d y3Y (ah (bZ F' (val (dig 3 s7))))])))
theorem Bl(x y:Bool×List Int)(s7 s9:Int):RL iv 24 (jd x y s7 s9) (vZ x y s7 s9):=rlX
theorem NQ(x y:BI)(B:Nat)(hB:(B:Int)<18446744073709551616):∀(v u:Nat),u<=B->v<=B->iv.RunsE 24 (jd x y (u:Int) (v:Int)) [.d y3Y (ah ((Nat.gcd u v:Nat):Int))]:=by
 intro v;induction v using Nat.strongRecOn with
 |ind v ih=>
  intro u hu hv;rcases aoG v with h0|h0
  ·refine Bl _ _ _ _ ⟨0,λn _=>?_⟩;have hp:iH (u:Int):=⟨by omega,by omega⟩
   unfold vZ;rw[anQ (show ¬(v:Int)>0 by omega),anO hp,anO (jF (n:=3) (by decide) (u:Int)),zI hp,show Nat.gcd u v=u by rw[h0];exact Nat.gcd_zero_right u];rfl
  ·obtain⟨n0,hn⟩:=ih (u%v) (aqD _ h0) v hv (an0 (Nat.le_of_lt (aqD _ h0)) hv);refine Bl _ _ _ _ ⟨n0,λn hn'=>?_⟩;unfold vZ;rw[anO (by omega),anQ (by omega),ju (by omega)];dsimp only;rw[show((u:Int)%(v:Int))=((u%v:Nat):Int) by simp,apY u v,Nat.gcd_rec v u,apY];exact hn n hn'
theorem A4(v:Int):bZ F' v=v:=rfl
theorem je(u:Nat):ah (u:Int)=(F',ae u):=rfl
theorem AR{u:Nat}(h:(ae u).length<=2):u<=(pw 2).toNat:=by
 have h1:=bU (bV u);rw[bG]at h1;have h2:=du h;omega
theorem ads:(((pw 2).toNat:Nat):Int)<18446744073709551616:=by decide
theorem Fd{k:Nat->Cfg->OLR}{u v:Nat}(hu:szI u<=1000000)(hv:szI v<=1000000){r:List RV}{H:Int->Int->Cfg}{D:Int->Cfg}
  (h1:v=0->r=[.d y3Y (ah (u:Int))]) (h2:v≠0->lk (ah (u:Int))=T'->lk (ah (v:Int))=T'->k 24 (H (u:Int) (v:Int))=S' r) (h3:v≠0->k 6 (D ((u%v:Nat):Int))=S' r) (D':List Int->Cfg) (hD:D' (dvR (ae u) (ae v))=D (val (dvR (ae u) (ae v)))):
  (match Dd' (((ae v).length:Int)>0)with
   |true=>(match decide (okI (ah (u:Int)))with
    |true=>(match decide (okI (ah (v:Int)))with
     |true=>(match lk (ah (u:Int))with
      |true=>(match lk (ah (v:Int))with
       |true=>k 24 (H (As (ah (u:Int))) (As (ah (v:Int))))
       |false=>(match decide (pI (ae u) (ae v))with
        |true=>(match decide (aQ (dvR (ae u) (ae v)))with
         |true=>k 6 (D' (dvR (ae u) (ae v)))
         |false=>none)
        |false=>none))
      |false=>(match decide (pI (ae u) (ae v))with
        |true=>(match decide (aQ (dvR (ae u) (ae v)))with
         |true=>k 6 (D' (dvR (ae u) (ae v)))
         |false=>none)
        |false=>none))
     |false=>none)
    |false=>none)
   |false=>(match decide ((ae u).length*4<=140737488355328/\(ae u).length<=140737488355328)with
    |true=>(match decide (aQ (ae u))with
     |true=>some [.d y3Y (ah (bZ false (val (ae u))))]
     |false=>none)
    |false=>none))=some r:=by
 have lu:(ae u).length<=1000000:=by have:=hu;unfold szI at this;rwa [apZ]at this
 have lv:(ae v).length<=1000000:=by have:=hv;unfold szI at this;rwa [apZ]at this
 rcases aoG v with h0|h0
 ·subst h0;rw[h1 rfl,show Dd' (((ae 0).length:Int)>0)=F' from rfl,anO (show(ae u).length*4<=140737488355328/\(ae u).length<=140737488355328 by omega),anO (show aQ (ae u) from⟨bV u,by omega⟩),bG];rfl
 ·have hne:ae v≠[]:=λe=>by rw[gQ]at e;omega
  have hl:=aoy.2 hne;have hvv:=bG v;have hvu:=bG u;have hdv:pI (ae u) (ae v):=⟨⟨bV u,by omega⟩,⟨bV v,by omega⟩,by omega⟩
  obtain⟨_,lr,_,sr,_,vr⟩:=YN hdv
  have hD2:k 6 (D' (dvR (ae u) (ae v)))=S' r:=by
   rw[hD,vr,hvv,hvu];exact h3 (by omega)
  rw[anO (by omega),anO (aS hu),anO (aS hv),anO hdv,anO (show aQ (dvR (ae u) (ae v)) from⟨lr,by omega⟩)];dsimp only;cases hb1:lk (ah (u:Int))
  ·exact hD2
  ·cases hb2:lk (ah (v:Int))
   ·exact hD2
   ·dsimp only;have:=h2 (by omega) hb1 hb2;unfold As;rw[hb1,hb2];simp only[cond_true,je];rw[hvv,hvu];exact this
theorem RQ(x y:BI):∀(v u:Nat),szI u<=1000000->szI v<=1000000->
  iv.RunsE 6 (mi x y F' (ae u) F' (ae v)) [.d y3Y (ah ((Nat.gcd u v:Nat):Int))]/\iv.RunsE 6 (ga x y F' (ae v) F' (ae u)) [.d y3Y (ah ((Nat.gcd u v:Nat):Int))]:=by
 intro v;induction v using Nat.strongRecOn with
 |ind v ih=>
  intro u hu hv
  have hw:lk (ah (u:Int))=T'->lk (ah (v:Int))=T'->iv.RunsE 24 (jd x y (u:Int) (v:Int)) [.d y3Y (ah ((Nat.gcd u v:Nat):Int))]:=λh1 h2=>by
   unfold lk at h1 h2;rw[je]at h1 h2;exact NQ x y _ ads v u (AR (anP h1)) (AR (anP h2))
  have hd:v≠0->iv.RunsE 6 (mi x y F' (ae v) F' (ae (u%v))) [.d y3Y (ah ((Nat.gcd u v:Nat):Int))]/\iv.RunsE 6 (ga x y F' (ae (u%v)) F' (ae v)) [.d y3Y (ah ((Nat.gcd u v:Nat):Int))]:=λh0=>by
   have hm:=aqD u (aqm h0);have:=ih (u%v) hm v hv (an0 (dA (by omega)) hv);rw[apY u v,Nat.gcd_rec v u,apY (u%v) v];exact this
  have hcommon:∃n0,∀n,n0<=n->(lk (ah (u:Int))=T'->lk (ah (v:Int))=T'->iv.k n 24 (jd x y (u:Int) (v:Int))=S' [.d y3Y (ah ((Nat.gcd u v:Nat):Int))])/\(v≠0->iv.k n 6 (mi x y F' (ae v) F' (ae (u%v)))=S' [.d y3Y (ah ((Nat.gcd u v:Nat):Int))]/\iv.k n 6 (ga x y F' (ae (u%v)) F' (ae v))=S' [.d y3Y (ah ((Nat.gcd u v:Nat):Int))]):=by
   have g1:∃n1,∀n,n1<=n->(lk (ah (u:Int))=T'->lk (ah (v:Int))=T'->iv.k n 24 (jd x y (u:Int) (v:Int))=S' [.d y3Y (ah ((Nat.gcd u v:Nat):Int))]):=by
    by_cases hb:lk (ah (u:Int))=T'/\lk (ah (v:Int))=T'
    ·obtain⟨n,h⟩:=hw hb.1 hb.2;exact⟨n,λm hm _ _=>h m hm⟩
    ·exact⟨0,λn _ h1 h2=>absurd ⟨h1,h2⟩ hb⟩
   have g2:∃n1,∀n,n1<=n->(v≠0->iv.k n 6 (mi x y F' (ae v) F' (ae (u%v)))=S' [.d y3Y (ah ((Nat.gcd u v:Nat):Int))]/\iv.k n 6 (ga x y F' (ae (u%v)) F' (ae v))=S' [.d y3Y (ah ((Nat.gcd u v:Nat):Int))]):=by
    by_cases hb:v=0
    ·exact⟨0,λn _ h=>absurd hb h⟩
    ·obtain⟨⟨n1,h1⟩,⟨n2,h2⟩⟩:=hd hb;exact⟨max n1 n2,λn hn _=>⟨h1 n (by omega),h2 n (by omega)⟩⟩
   obtain⟨n1,h1⟩:=g1;obtain⟨n2,h2⟩:=g2;exact⟨max n1 n2,λn hn=>⟨h1 n (by omega),h2 n (by omega)⟩⟩
  obtain⟨n0,hc⟩:=hcommon;have hz:v=0->([.d y3Y (ah ((Nat.gcd u v:Nat):Int))]:List RV)=[.d y3Y (ah (u:Int))]:=λe=>by subst e;rw[Nat.gcd_zero_right]
  constructor
  ·refine OF _ _ _ _ _ _ ⟨n0,λn hn=>?_⟩;have:=Fd (k:=iv.k n) hu hv (H:=λa b=>jd x y a b) (D:=λz=>mi x y F' (ae v) (ah z).1 (ah z).2) hz (λ_ h1 h2=>(hc n hn).1 h1 h2) (λh0=>by rw[je];exact((hc n hn).2 h0).1) (λl=>mi x y F' (ae v) (ah (bZ F' (val l))).1 (ah (bZ F' (val l))).2) rfl;rw[je,je]at this;exact this
  ·refine Iu _ _ _ _ _ _ ⟨n0,λn hn=>?_⟩;have:=Fd (k:=iv.k n) hu hv (H:=λa b=>jd x y a b) (D:=λz=>ga x y (ah z).1 (ah z).2 F' (ae v)) hz (λ_ h1 h2=>(hc n hn).1 h1 h2) (λh0=>by rw[je];exact((hc n hn).2 h0).2) (λl=>ga x y (ah (bZ F' (val l))).1 (ah (bZ F' (val l))).2 F' (ae v)) rfl;rw[je,je]at this;exact this
theorem KB(x y:BI)(h:okI x/\okI y):CQq7 192 [.d y3Y x,.d y3Y y] [.d y3Y (ah ((Int.gcd (ab x) (ab y):Nat):Int))]:=by
 refine fK MU (show iv.Res _ _ _ from ?_);obtain⟨hx,hy⟩:=h;obtain⟨x0,_,_⟩:=cp hx;obtain⟨y0,_,_⟩:=cp hy;have ex:((ab x).natAbs:Int)=val x.2:=by rw[bO];unfold bZ;cases x.1<;>simp<;>omega
 have ey:((ab y).natAbs:Int)=val y.2:=by rw[bO];unfold bZ;cases y.1<;>simp<;>omega
 have szx:szI ((ab x).natAbs:Int)<=1000000:=an0 (dA (by omega)) (iS hx);have szy:szI ((ab y).natAbs:Int)<=1000000:=an0 (dA (by omega)) (iS hy);obtain⟨⟨n1,h1⟩,⟨n2,h2⟩⟩:=RQ x y (ab y).natAbs (ab x).natAbs szx szy;refine ajB _ _ ⟨max n1 n2,?_⟩;have h1:=h1 (max n1 n2) (by omega);have h2:=h2 (max n1 n2) (by omega);unfold Ze;simp only[dg];rw[anO (fu hx),anO (fu hy),A4,A4,<-ex,<-ey,je,je];dsimp only;rw[h1,h2];simp only[cQ];rfl
abbrev BR:=BI×BI
def av(q:Rat):BR:=(ah q.num,ah (q.den:Int))
def ag(x:BR):Rat:=mkRat (ab x.1) (ab x.2).toNat
theorem eP(q:Rat):ag (av q)=q:=by simp[ag,av,dec_enc]
def okR(x:BR):Prop:=okI x.1/\okI x.2/\0<ab x.2/\Int.gcd (ab x.1) (ab x.2)=1/\x.1.2.length<=480000/\x.2.2.length<=480000
instance (x:BR):Decidable (okR x):=by unfold okR;infer_instance
def o1(x:BR):Bool:=Dd' (okR x)
def o2(x y:BR):Bool:=Dd' (okR x/\okR y)
theorem amf(x:BR):o1 x=Dd' (okR x):=rfl
theorem ag9(x y:BR):o2 x y=(Dd' (okR x)&&Dd' (okR y)):=apS _ _
theorem cN{x:BR}(h:okR x):(ag x).num=ab x.1/\((ag x).den:Int)=ab x.2:=by
 obtain⟨h1,h2,h3,h4,_⟩:=h;unfold ag;rw[aqS,aqT]
 have hg:(ab x.2).toNat.gcd (ab x.1).natAbs=1:=by
  rwa [apY,show(ab x.2).toNat=(ab x.2).natAbs by omega]
 grind
theorem Oh{x:BR}(h:okR x):x=av (ag x):=by
 obtain⟨e1,e2⟩:=cN h;unfold av;rw[e1,e2,<-iu h.1,<-iu h.2.1]
def bdR(k:Nat)(q:Rat):Prop:=szI q.num<=k/\szI (q.den:Int)<=k
theorem qO{q:Rat}{k:Nat}(h:bdR k q)(hk:k<=480000):okR (av q):=by
 obtain⟨h1,h2⟩:=h;have hd:=q.den_pos;refine⟨aS (by omega),aS (by omega),?_,?_,by show szI q.num<=480000;omega,by show szI (q.den:Int)<=480000;omega⟩
 ·show 0<ab (ah (q.den:Int));grind [dec_enc]
 ·show Int.gcd (ab (ah q.num)) (ab (ah (q.den:Int)))=1;rw[dec_enc,dec_enc];exact q.reduced
theorem Cs{x:BR}(h:okR x):bdR 480000 (ag x):=by
 obtain⟨e1,e2⟩:=cN h;obtain⟨h1,h2,_,_,h5,h6⟩:=h;unfold bdR szI;rw[e1,e2];rw[iu h1]at h5;rw[iu h2]at h6;exact⟨h5,h6⟩
theorem ce{j k:Nat}{q:Rat}(h:bdR j q)(hk:j<=k):bdR k q:=⟨an0 h.1 hk,an0 h.2 hk⟩
theorem JW(a:Int)(g:Nat):(a/(g:Int)).natAbs<=a.natAbs\/¬(g:Int)∣a:=by
 by_cases h:(g:Int)∣a
 ·obtain⟨k,rfl⟩:=h;rcases aoG g with h0|h0
  ·grind
  ·rw[ap8 _ (by omega),Int.natAbs_mul];simp_all [Nat.le_mul_of_pos_left]
 grind
theorem vg{n:Int}{d k:Nat}(hd:d≠0)(h1:szI n<=k)(h2:szI (d:Int)<=k):bdR k (mkRat n d):=by
 unfold bdR;rw[aqS,aqT,aog hd,aog hd];constructor
 ·refine an0 (dA ?_) h1;grind [JW,Nat.gcd_dvd_right,Int.ofNat_dvd_left]
 ·exact an0 (dA (by rw[apZ,apZ];exact Nat.div_le_self _ _)) h2
theorem xk{k:Nat}{a:Rat}(h:bdR k a):bdR k (-a):=by
 refine⟨?_,h.2⟩;rw[Rat.neg_num,jc];exact h.1
theorem Lv{j k:Nat}{a b:Rat}(ha:bdR j a)(hb:bdR k b):bdR (j+k+1) (a+b):=by
 rw[Rat.add_def'];have d1:=a.den_pos;have d2:=b.den_pos;refine vg (Nat.mul_ne_zero (by omega) (by omega)) (w8 (cK ha.1 hb.2) ?_) ?_
 ·rw[Nat.add_comm];exact cK hb.1 ha.2
 ·rw[ao8];exact an0 (cK ha.2 hb.2) (by omega)
theorem Vv{j k:Nat}{a b:Rat}(ha:bdR j a)(hb:bdR k b):bdR (j+k+1) (a-b):=by grind [aqo,Lv,xk]
theorem Jv{j k:Nat}{a b:Rat}(ha:bdR j a)(hb:bdR k b):bdR (j+k) (a*b):=by
 rw[Rat.mul_def'];have d1:=a.den_pos;have d2:=b.den_pos;refine vg (Nat.mul_ne_zero (by omega) (by omega)) (cK ha.1 hb.1) ?_;exact cK ha.2 hb.2
theorem Xf{k:Nat}{a:Rat}(h:bdR k a)(h0:a≠0):bdR k a⁻¹:=by
 have hn:a.num≠0:=λe=>h0 (Rat.num_eq_zero.1 e);rw[Rat.inv_def];rcases ap0 hn with h1|h1
 ·rw[<-Rat.neg_divInt_neg,show-a.num=(((-a.num).toNat:Nat):Int) by omega,Rat.divInt_ofNat];refine vg (by omega) (by rw[jc];exact h.2) ?_;rw[show(((-a.num).toNat:Nat):Int)= -a.num by omega,jc];exact h.1
 ·rw[show a.num=((a.num.toNat:Nat):Int) by omega,Rat.divInt_ofNat];refine vg (by omega) h.2 ?_;rw[show((a.num.toNat:Nat):Int)=a.num by omega];exact h.1
theorem UU{j k:Nat}{a b:Rat}(ha:bdR j a)(hb:bdR k b)(h0:b≠0):bdR (j+k) (a/b):=by grind [Jv,Xf]
def eZ(x y:BI):BR:=av (Rat.divInt (ab x) (ab y))
def jH(x y:BI):Prop:=okI x/\okI y/\ab y≠0
instance (x y:BI):Decidable (jH x y):=by unfold jH;infer_instance
theorem oC{n d:Int}(hd:0<d):av (Rat.divInt n d)=(ah (n/(Int.gcd n d:Int)),ah (d/(Int.gcd n d:Int))):=by
 obtain⟨D,rfl⟩:=ao2 (aow hd);unfold av;rw[Rat.divInt_ofNat,aqS,aqT,aog (by omega),aog (by omega)];have e:Int.gcd n (D:Int)=D.gcd n.natAbs:=by rw[apY];rfl
 grind
def vU:cE:=spN T' F' [y3Y] (λx=>Dd' (okI x.1)) (λx=>[RV.d arf (b8 (ab x.1) 0)])
theorem pA:SpK 178 vU:=spX λx h=>C6 x.1 (anP h)
def sh:cE:=spN T' F' [y3Y,y3Y] (λx=>Dd' (okI x.1/\okI x.2.1)) (λx=>[RV.d arf (b8 (ab x.1) (ab x.2.1))])
theorem ng:SpK 108 sh:=spX λx h=>Do x.1 x.2.1 (anP h)
def vm:cE:=spN F' F' [y3Y] (λx=>Dd' (okI x.1)) (λx=>[RV.d y3Y (ah (-ab x.1))])
theorem pQ:SpK 273 vm:=spX λx h=>Dq x.1 (anP h)
def vw:cE:=spN F' F' [y3Y,y3Y] (λx=>Dd' (okI x.1/\okI x.2.1)) (λx=>[RV.d y3Y (ah (ab x.1*ab x.2.1))])
theorem pH:SpK 109 vw:=spX λx h=>D0 x.1 x.2.1 (anP h)
def DB:cE:=spN F' F' [y3Y,y3Y] (λx=>Dd' (fj x.1 x.2.1)) (λx=>[RV.d y3Y (ah (ab x.1/ab x.2.1)),RV.d y3Y (ah (ab x.1%ab x.2.1)),RV.d arf 0])
theorem yK:SpK 321 DB:=spX λx h=>Ko x.1 x.2.1 (anP h)
def HA:cE:=spN F' F' [y3Y,y3Y] (λx=>Dd' (okI x.1/\okI x.2.1)) (λx=>[RV.d y3Y (ah ((Int.gcd (ab x.1) (ab x.2.1):Nat):Int))])
theorem Gd:SpK 192 HA:=spX λx h=>KB x.1 x.2.1 (anP h)
def Im:Env:=[(269,pg),(178,vU),(108,sh),(202,qi),(273,vm),(109,vw),(321,DB),(192,HA)]
theorem Ay:EnvAll Tryz.prog Im:=⟨kY,pA,ng,lB,pQ,pH,yK,Gd,trivial⟩
def ajI:Ctx:=CX Im []
def aba(_k:KT):OLR:=og (Dd' (bH (1:Int))) (S' [RV.d y3Y (ah (1:Int))])
theorem akI:RS ajI 193 [] (aba):=rsX
def amg:Ctx:=CX Im []
def abQ(x y:Bool×List Int)(_k:KT):OLR:=og (Dd' (fj x y)) (S' [RV.d y3Y (ah (ab x/ab y))])
theorem ak9(x y:Bool×List Int):RS amg 275 [.d y3Y x,.d y3Y y] (abQ x y):=rsX
theorem Jw:CQq7 193 [] [.d y3Y (ah 1)]:=by
 refine fK Ay (akI ⟨0,?_⟩);unfold aba;rw[anO (show bH 1 by decide)]
theorem Vh(x y:BI)(h:fj x y):CQq7 275 [.d y3Y x,.d y3Y y] [.d y3Y (ah (ab x/ab y))]:=by
 refine fK Ay (ak9 _ _ ⟨0,?_⟩);unfold abQ;rw[anO h]
def yB:cE:=spN F' F' [] (λ_=>T') (λ_=>[RV.d y3Y (ah 1)])
theorem te:SpK 193 yB:=spX λ_ _=>Jw
def Od:cE:=spN F' F' [y3Y,y3Y] (λx=>Dd' (fj x.1 x.2.1)) (λx=>[RV.d y3Y (ah (ab x.1/ab x.2.1))])
theorem PS:SpK 275 Od:=spX λx h=>Vh x.1 x.2.1 (anP h)
def SS:Env:=[(269,pg),(178,vU),(108,sh),(202,qi),(273,vm),(109,vw),(321,DB),(192,HA),(193,yB),(275,Od)]
theorem Me:EnvAll Tryz.prog SS:=⟨kY,pA,ng,lB,pQ,pH,yK,Gd,te,PS,trivial⟩
def alk:Ctx:=CX SS []
def Zc(x y:Bool×List Int)(_k:KT):OLR:=match Dd' (okI y)with|T'=>(match Dd' ((b8 (ab y) 0)<0)with|T'=>(match Dd' (okI x)with|T'=>(match Dd' (okI y)with|T'=>(match Dd' (okI (ah (-ab x))/\okI (ah (-ab y)))with|T'=>(match Dd' (okI (ah ((Int.gcd (ab (ah (-ab x))) (ab (ah (-ab y))):Nat):Int))/\okI (ah 1))with|T'=>(match(b8 (ab (ah ((Int.gcd (ab (ah (-ab x))) (ab (ah (-ab y))):Nat):Int))) (ab (ah 1))) !=0 with|T'=>(match Dd' (fj (ah (-ab x)) (ah ((Int.gcd (ab (ah (-ab x))) (ab (ah (-ab y))):Nat):Int)))with|T'=>(match Dd' (fj (ah (-ab y)) (ah ((Int.gcd (ab (ah (-ab x))) (ab (ah (-ab y))):Nat):Int)))with|T'=>S' [RV.d (.st (.pair y3Y y3Y)) ((ah (ab (ah (-ab x))/ab (ah ((Int.gcd (ab (ah (-ab x))) (ab (ah (-ab y))):Nat):Int)))),(ah (ab (ah (-ab y))/ab (ah ((Int.gcd (ab (ah (-ab x))) (ab (ah (-ab y))):Nat):Int)))))]|F'=>N')|F'=>N')|F'=>S' [RV.d (.st (.pair y3Y y3Y)) ((ah (-ab x)),(ah (-ab y)))])|F'=>N')|F'=>N')|F'=>N')|F'=>N')|F'=>(match Dd' (okI x/\okI y)with|T'=>(match Dd' (okI (ah ((Int.gcd (ab x) (ab y):Nat):Int))/\okI (ah 1))with|T'=>(match(b8 (ab (ah ((Int.gcd (ab x) (ab y):Nat):Int))) (ab (ah 1))) !=0 with|T'=>(match Dd' (fj x (ah ((Int.gcd (ab x) (ab y):Nat):Int)))with|T'=>(match Dd' (fj y (ah ((Int.gcd (ab x) (ab y):Nat):Int)))with|T'=>S' [RV.d (.st (.pair y3Y y3Y)) ((ah (ab x/ab (ah ((Int.gcd (ab x) (ab y):Nat):Int)))),(ah (ab y/ab (ah ((Int.gcd (ab x) (ab y):Nat):Int)))))]|F'=>N')|F'=>N')|F'=>S' [RV.d (.st (.pair y3Y y3Y)) (x,y)])|F'=>N')|F'=>N'))|F'=>N'
theorem alv(x y:Bool×List Int):RS alk 201 [.d y3Y x,.d y3Y y] (Zc x y):=rsX
theorem SZ{a b:Int}(hb:b≠0){k:Nat}(h:szI b<=k):szI ((Int.gcd a b:Nat):Int)<=k:=by
 refine an0 (dA ?_) h;exact Nat.le_of_dvd (by omega) (Nat.gcd_dvd_right a.natAbs b.natAbs)
theorem JN(x y:BI)(h:jH x y):CQq7 201 [.d y3Y x,.d y3Y y] [.d (.st (.pair y3Y y3Y)) (eZ x y)]:=by
 refine fK Me (alv _ _ ⟨0,?_⟩);obtain⟨hx,hy,hne⟩:=h;have sx:=iS hx;have sy:=iS hy;have hgp:0<Int.gcd (ab x) (ab y):=aqm λe=>hne (Int.gcd_eq_zero_iff.1 e).2;have hgs:=SZ (a:=ab x) hne sy;unfold Zc eZ;rw[anO hy];dsimp only;rcases ap0 hne with hn|hn
 ·rw[c9 hn,anO (show(-1:Int)<0 by decide),anO hx];have o1:okI (ah (-ab x)):=aS (by rw[jc];exact sx);have o2:okI (ah (-ab y)):=aS (by rw[jc];exact sy);simp only[dec_enc,Int.gcd_neg,Int.neg_gcd];have og:okI (ah ((Int.gcd (ab x) (ab y):Nat):Int)):=aS hgs;rw[anO (show okI (ah (-ab x))/\okI (ah (-ab y)) from⟨o1,o2⟩),anO (show okI (ah ((Int.gcd (ab x) (ab y):Nat):Int))/\okI (ah 1) from⟨og,lP⟩)];rw[<-Rat.neg_divInt_neg,oC (by omega),Int.gcd_neg,Int.neg_gcd];dsimp only;by_cases h1:Int.gcd (ab x) (ab y)=1
  ·rw[h1];simp[dV]
  ·have hc:(b8 ((Int.gcd (ab x) (ab y):Nat):Int) 1 !=0)=true:=by
    rw[cH (by omega)];rfl
   rw[hc,anO (show fj (ah (-ab x)) (ah ((Int.gcd (ab x) (ab y):Nat):Int)) from⟨o1,og,by rw[dec_enc];omega⟩),anO (show fj (ah (-ab y)) (ah ((Int.gcd (ab x) (ab y):Nat):Int)) from⟨o2,og,by rw[dec_enc];omega⟩)]
 ·rw[cH hn,anQ (show ¬(1:Int)<0 by decide)];simp only[dec_enc];have og:okI (ah ((Int.gcd (ab x) (ab y):Nat):Int)):=aS hgs;rw[anO (show okI x/\okI y from⟨hx,hy⟩),anO (show okI (ah ((Int.gcd (ab x) (ab y):Nat):Int))/\okI (ah 1) from⟨og,lP⟩),oC hn];dsimp only;by_cases h1:Int.gcd (ab x) (ab y)=1
  ·rw[h1];simp only[Int.natCast_one,dV,Int.ediv_one,<-iu hx,<-iu hy];rfl
  ·have hc:(b8 ((Int.gcd (ab x) (ab y):Nat):Int) 1 !=0)=true:=by
    rw[cH (by omega)];rfl
   rw[hc,anO (show fj x (ah ((Int.gcd (ab x) (ab y):Nat):Int)) from⟨hx,og,by rw[dec_enc];omega⟩),anO (show fj y (ah ((Int.gcd (ab x) (ab y):Nat):Int)) from⟨hy,og,by rw[dec_enc];omega⟩)]
end Go.Proofs.YtoimchcjhdcdmaaGreat
end
