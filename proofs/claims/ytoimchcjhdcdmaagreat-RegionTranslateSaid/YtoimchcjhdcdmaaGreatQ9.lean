/- integer: divide, restore, the guess, the loop. -/
import Derived.Test.YtoimchcjhdcdmaaGreatQ8
noncomputable section
namespace Go.Proofs.YtoimchcjhdcdmaaGreat
open Go.RowKit Go.IntKind
open Bool renaming true->T',false->F'
open Option renaming some->S',none->N'
open Decidable renaming decide->Dd'
theorem apw:type_of% @beq_iff_eq:=@beq_iff_eq
theorem apA:type_of% @List.length_pos_iff:=@List.length_pos_iff
theorem ap7:type_of% @Int.eq_ofNat_of_zero_le:=@Int.eq_ofNat_of_zero_le
theorem aqL:type_of% @Int.ediv_le_self:=@Int.ediv_le_self
theorem aqW:type_of% @Bool.decide_and:=@Bool.decide_and
theorem aq2:type_of% @Nat.gcd_comm:=@Nat.gcd_comm
theorem aq3:type_of% @Int.natAbs_natCast:=@Int.natAbs_natCast
theorem aq4:type_of% @Int.lt_or_lt_of_ne:=@Int.lt_or_lt_of_ne
theorem arY:type_of% @Rat.num_mkRat:=@Rat.num_mkRat
theorem arZ:type_of% @Rat.den_mkRat:=@Rat.den_mkRat
theorem ar4:type_of% @Int.mul_neg:=@Int.mul_neg
section
section
variable (b:List Int) (x2:Int) (v:List Int) (m:Nat) (hN:(ae (val b).toNat).length=m+2) (hv:ae (val (dig ((ae (val b).toNat).length+([u32.wrap (u64.wrap (Int.tdiv 1000000000 (u64.wrap ((u64.wrap x2)+1))))]).length) (val (ae (val b).toNat)*val ([u32.wrap (u64.wrap (Int.tdiv 1000000000 (u64.wrap ((u64.wrap x2)+1))))])))).toNat=v) (lv:Lim v) (hvl:v.length=m+2)
include hN hv lv hvl
theorem Qa(k:Nat)(r0 r5:List Int)(f:Int)(hk:k+(m+2)+1<=r0.length)(hsz:r0.length<=4000000000)(R:List RV)
  (hend:∀r c,Lim r->r.length=r0.length->r.take k=r0.take k->r.drop (k+(m+2)+1)=r0.drop (k+(m+2)+1)->0<=c->c<=1->val r=val r0+pw k*val v-pw (k+(m+2)+1)*c->∃q,dY b x2 (k:Int) r5 f c ((m+2+1:Nat):Int) r (ga.k q)=S' R):
  ∀(j i:Nat) (c:Int) (r:List Int),i+j=m+2+1->0<=c->c<=1->Lim r->r.length=r0.length->r.take k=r0.take k->r.drop (k+(m+2)+1)=r0.drop (k+(m+2)+1)->
   val r=val r0+pw k*val (v.take i)-pw (k+i)*c->ga.Runs 5 (dE b x2 (k:Int) r5 f c (i:Int) r) R:=by
 have e1:i64.wrap ((k:Int)+((m+2:Nat):Int))=((k+(m+2):Nat):Int):=by rw[aM (by omega) (by omega)];simp
 have e2:i64.wrap (((k+(m+2):Nat):Int)+1)=((k+(m+2)+1:Nat):Int):=aS (by omega);have e3:k+(m+2)+1-k=m+2+1:=by omega
 intro j;induction j with
 |zero=>
  intro i c r hi c0 c1 lr hl ht hd hval;obtain rfl:i=m+2+1:=by omega
  rw[apy (by omega)]at hval;refine fE _ _ _ _ _ _ _ _ ?_;exact hend r c lr hl ht hd c0 c1 hval
 |succ j ih=>
  intro i c r hi c0 c1 lr hl ht hd hval;have hir:k+i<r.length:=by omega
  have xr:=lr.get hir;have hwi:Dd' ((0:Int)<=(i:Int)/\(i:Int)<((m+2+1:Nat):Int))=true:=aoP (by omega);have hlt:Dd' ((i:Int)<((m+2+1:Nat):Int))=true:=aoP (by omega);have hw:=hv
  have step:∀(c' y d:Int),0<=c'->c'<=1->0<=y->y<1000000000->y=r[k+i]+c+d-1000000000*c'->val (v.take (i+1))=val (v.take i)+pw i*d->
    ga.Runs 5 (dE b x2 (k:Int) r5 f c' ((i+1:Nat):Int) (r.set (k+i) y)) R:=by
   intro c' y d k0 k1 y0 y1 hy hp;refine ih (i+1) c' (r.set (k+i) y) (by omega) k0 k1 (lr.set _ ⟨y0,y1⟩) (by simpa using hl) (by rw[vZ];exact ht) (by rw[v8 _ (by omega)];exact hd) ?_;rw[eV hir,hval,hy,hp,show k+(i+1)=k+i+1 by omega,bW,fk];grind
  by_cases hiv:i<m+2
  ·have hiv':i<v.length:=by omega
   have xv:=lv.get hiv';have hpv:=bi hiv';by_cases hc2:r[k+i]+c+v[i]>=1000000000
   ·obtain⟨q,hq⟩:=step 1 (r[k+i]+c+v[i]-1000000000) v[i] (by omega) (by omega) (by omega) (by omega) (by omega) hpv;refine fE _ _ _ _ _ _ _ _ ⟨q,?_⟩;unfold dY;rw[hw,hN,e1,e2,aE,aE,e3,hlt,hwi,hvl,aO hiv,ak v i,aoO hiv',aE,aoO hir];dsimp only;rw[cX (x:=r[k+i]+c) (by omega) (by omega),cX (x:=r[k+i]+c+v[i]) (by omega) (by omega),aoP hc2,cX (x:=r[k+i]+c+v[i]-1000000000) (by omega) (by omega),aS (k:=i) (by omega)];exact hq
   ·obtain⟨q,hq⟩:=step 0 (r[k+i]+c+v[i]) v[i] (by omega) (by omega) (by omega) (by omega) (by omega) hpv;refine fE _ _ _ _ _ _ _ _ ⟨q,?_⟩;unfold dY;rw[hw,hN,e1,e2,aE,aE,e3,hlt,hwi,hvl,aO hiv,ak v i,aoO hiv',aE,aoO hir];dsimp only;rw[cX (x:=r[k+i]+c) (by omega) (by omega),cX (x:=r[k+i]+c+v[i]) (by omega) (by omega),aoR hc2,aS (k:=i) (by omega)];exact hq
  ·have hpz:val (v.take (i+1))=val (v.take i)+pw i*0:=by rw[j9 (by omega)];simp
   by_cases hc2:r[k+i]+c>=1000000000
   ·obtain⟨q,hq⟩:=step 1 (r[k+i]+c-1000000000) 0 (by omega) (by omega) (by omega) (by omega) (by omega) hpz;refine fE _ _ _ _ _ _ _ _ ⟨q,?_⟩;unfold dY;rw[hw,hN,e1,e2,aE,aE,e3,hlt,hwi,hvl,bg (show m+2<=i by omega),aE,aoO hir];dsimp only;rw[cX (x:=r[k+i]+c) (by omega) (by omega),aoP hc2,cX (x:=r[k+i]+c-1000000000) (by omega) (by omega),aS (k:=i) (by omega)];exact hq
   ·obtain⟨q,hq⟩:=step 0 (r[k+i]+c) 0 (by omega) (by omega) (by omega) (by omega) (by omega) hpz;refine fE _ _ _ _ _ _ _ _ ⟨q,?_⟩;unfold dY;rw[hw,hN,e1,e2,aE,aE,e3,hlt,hwi,hvl,bg (show m+2<=i by omega),aE,aoO hir];dsimp only;rw[cX (x:=r[k+i]+c) (by omega) (by omega),aoR hc2,aS (k:=i) (by omega)];exact hq
theorem Id(k:Nat)(r1 r5:List Int)(hk:k+m+3<=r1.length)(hsz:r1.length<=4000000000)(R:List RV)(K:Kn (win k (m+2) r1) (val v) r1[k+m+2] r1[k+m+1] r1[k+m] v[m+1] v[m])
  (hafter:∀g,0<=g->g<1000000000->win k (m+2) r1<(g+1)*val v->g*val v<win k (m+2) r1+val v->ga.Runs 8 (cV b x2 (k:Int) r5 g g 0 0 0 r1) R):
  ∀(fuel:Nat) (g rest:Int),g<=(fuel:Int)->0<=g->g<=2000000000->0<=rest->rest<1000000000->g*v[m+1]+rest=r1[k+m+2]*1000000000+r1[k+m+1]->win k (m+2) r1<(g+1)*val v->ga.Runs 49 (nY b x2 (k:Int) r1 r5 g rest) R:=by
 have _lv:=lv;have e1:i64.wrap ((k:Int)+((m+2:Nat):Int))=((k+m+2:Nat):Int):=by rw[aM (by omega) (by omega)];simp;omega
 have e2:i64.wrap (((k+m+2:Nat):Int)+1)=((k+m+3:Nat):Int):=by rw[aM (by omega) (by omega)];simp;omega
 have e3:i64.wrap (((m+2:Nat):Int)-1)=((m+1:Nat):Int):=by rw[aM (by omega) (by omega)];omega
 have e4:i64.wrap (((m+2:Nat):Int)-2)=((m:Nat):Int):=by rw[aM (by omega) (by omega)];omega
 have e5:i64.wrap (((k+m+2:Nat):Int)-2)=((k+m:Nat):Int):=by rw[aM (by omega) (by omega)];omega
 have hsl:decide ((0:Int)<=(k:Int)/\(k:Int)<=((k+m+3:Nat):Int)/\((k+m+3:Nat):Int)<=(r1.length:Int))=true:=aoP (by omega);have hV:=K.pos;have htop:=K.top;have ku2:=K.u2;have ku1:=K.u1;have ku0:=K.u0;have kv1:=K.v1;have kv0:=K.v0;intro fuel;induction fuel with
 |zero=>
  intro g rest hf g0 gB r0 r1' he hlt;obtain rfl:g=0:=by omega
  obtain⟨q,hq⟩:=hafter 0 (by omega) (by omega) hlt (by have:=hlt;have:=K.small (g:=0) (rest:=rest) (by omega) (by omega) he (by omega);omega);refine qE _ _ _ _ _ _ _ ⟨q,?_⟩;unfold mI;rw[aoR (by omega),hv,hN,e1,e2,e4,e5,ak v m,aoO (by omega),ak r1 (k+m),aE,aoO (show k+m<r1.length by omega)];dsimp only;rw[bH (x:=v[m]) (by omega) (by omega),Int.zero_mul,bH (x:=0) (by omega) (by omega),bH (x:=rest*1000000000) (by omega) (by omega),bH (x:=r1[k+m]) (by omega) (by omega),bH (x:=rest*1000000000+r1[k+m]) (by omega) (by omega),aoR (by omega),hsl];exact hq
 |succ fuel ih=>
  intro g rest hf g0 gB rr0 rr1 he hlt
  have down:win k (m+2) r1<g*val v->∃q,(match Dd' (u64.wrap (rest+u64.wrap v[m+1])>=1000000000)with|T'=>ga.k q 8 (cV b x2 (k:Int) r5 (u64.wrap (g-1)) (u64.wrap (g-1)) 0 0 0 r1)|F'=>ga.k q 49 (nY b x2 (k:Int) r1 r5 (u64.wrap (g-1)) (u64.wrap (rest+u64.wrap v[m+1]))))=S' R:=by
   intro hw
   have gp:1<=g:=by
    rcases apl 0 g with h|h
    ·exact h
    ·exfalso;have hg:g=0:=by omega
     subst hg;rw[Int.zero_mul]at hw;obtain⟨⟨P,wl,vl,p0,a1,a2,b1,b2,hw',hV'⟩,_⟩:=K;have:=apN (apv p0) (show 0<=r1[k+m]+1000000000*r1[k+m+1]+1000000000*1000000000*r1[k+m+2] by omega);omega
   have he':(g-1)*v[m+1]+(rest+v[m+1])=r1[k+m+2]*1000000000+r1[k+m+1]:=by rw[<-he];grind
   have hw':win k (m+2) r1<(g-1+1)*val v:=by rw[show g-1+1=g by omega];exact hw
   rw[bH (x:=v[m+1]) (by omega) (by omega),bH (x:=rest+v[m+1]) (by omega) (by omega),bH (x:=g-1) (by omega) (by omega)];by_cases hb:rest+v[m+1]>=1000000000
   ·have gl:g-1<1000000000:=by
     rcases apl (g-1) 1000000000 with h|h
     ·exact h
     ·exfalso;have e1:=ao2 h (show 0<=v[m+1] by omega);have e2:=ao2 htop (show(0:Int)<=1000000000 by decide);omega
    have e1:(g-1)*v[m]<=1000000000*1000000000:=aq8 (by omega) (by omega) (by omega) (by decide);obtain⟨q,hq⟩:=hafter (g-1) (by omega) gl hw' (K.small (by omega) (by omega) he' (by omega));exact⟨q,by rw[aoP hb];exact hq⟩
   ·obtain⟨q,hq⟩:=ih (g-1) (rest+v[m+1]) (by omega) (by omega) (by omega) (by omega) (by omega) he' hw';exact⟨q,by rw[aoR hb];exact hq⟩
  by_cases hgB:g>=1000000000
  ·obtain⟨q,hq⟩:=down (by
    have h1:=K.lt;have:=ao2 hgB (apv hV);rw[aqG]at h1;omega)
   refine qE _ _ _ _ _ _ _ ⟨q,?_⟩;unfold mI;rw[aoP hgB,hv,hN,e1,e2,e3,ak v (m+1),aoO (show m+1<v.length by omega),hsl];exact hq
  ·have hgv:g*v[m]<=1000000000*1000000000:=aq8 (by omega) (by omega) (by omega) (by decide);have hgv0:0<=g*v[m]:=apN g0 (by omega);by_cases hc:g*v[m]>rest*1000000000+r1[k+m]
   ·obtain⟨q,hq⟩:=down (K.great g0 he hc);refine qE _ _ _ _ _ _ _ ⟨q,?_⟩;unfold mI;rw[aoR hgB,hv,hN,e1,e2,e3,e4,e5,ak v m,aoO (show m<v.length by omega),ak v (m+1),aoO (show m+1<v.length by omega),ak r1 (k+m),aE,aoO (show k+m<r1.length by omega),hsl];dsimp only;rw[bH (x:=v[m]) (by omega) (by omega),bH (x:=g*v[m]) (by omega) (by omega),bH (x:=rest*1000000000) (by omega) (by omega),bH (x:=r1[k+m]) (by omega) (by omega),bH (x:=rest*1000000000+r1[k+m]) (by omega) (by omega),aoP hc];exact hq
   ·obtain⟨q,hq⟩:=hafter g g0 (by omega) hlt (K.small g0 (by omega) he (by omega));refine qE _ _ _ _ _ _ _ ⟨q,?_⟩;unfold mI;rw[aoR hgB,hv,hN,e1,e2,e4,e5,ak v m,aoO (show m<v.length by omega),ak r1 (k+m),aE,aoO (show k+m<r1.length by omega),hsl];dsimp only;rw[bH (x:=v[m]) (by omega) (by omega),bH (x:=g*v[m]) (by omega) (by omega),bH (x:=rest*1000000000) (by omega) (by omega),bH (x:=r1[k+m]) (by omega) (by omega),bH (x:=rest*1000000000+r1[k+m]) (by omega) (by omega),aoR hc];exact hq
end
end
section
section
variable (b:List Int) (x2:Int) (v:List Int) (m:Nat) (hN:(ae (val b).toNat).length=m+2) (hv:ae (val (dig ((ae (val b).toNat).length+([u32.wrap (u64.wrap (Int.tdiv 1000000000 (u64.wrap ((u64.wrap x2)+1))))]).length) (val (ae (val b).toNat)*val ([u32.wrap (u64.wrap (Int.tdiv 1000000000 (u64.wrap ((u64.wrap x2)+1))))])))).toNat=v) (lv:Lim v) (hvl:v.length=m+2)
include hN hv lv hvl
set_option maxHeartbeats 2000000 in
theorem SU(sc:Int)(hsc:u32.wrap (u64.wrap (Int.tdiv 1000000000 (u64.wrap ((u64.wrap x2)+1))))=sc)(hs1:1<=sc)(hs2:sc<=500000000)(htop:500000000<=v[m+1])(A:Int):
  ∀(M:Nat) (r5 r1:List Int),Lim r5->Lim r1->r1.length=r5.length+(m+2)->r1.length<=1000000000->M<=r5.length->val v*val r5+val r1=A->(∀j (hj:j<r5.length),j<M->r5[j]=0)->val r1<val v*pw M->
   ∃qL rL,(Lim qL/\Lim rL/\qL.length=r5.length/\rL.length<=m+2/\val qL=A/val v/\val rL=A%val v/sc)/\ga.Runs 34 (qG b x2 ((M:Int)-1) r5 r1) [.d asj qL,.d asj rL]:=by
 have hVlt:=bU lv;rw[hvl]at hVlt
 have hV0:0<val v:=by
  rw[Fl hvl];have h1:=aP (lv.take m);have h2:=lv.get (show m<v.length by omega);have h3:=Int.mul_pos (cf m) (show 0<v[m]+1000000000*v[m+1] by omega);omega
 intro M;induction M with
 |zero=>
  intro r5 r1 l5 l1 hlen hsz hM hA hz hlt;rw[nL,arx]at hlt;have h0:=aP l1;have eQ:A/val v=val r5:=by rw[<-hA,arU,aqF _ _ (by omega),apZ h0 hlt];omega
  have eR:A%val v=val r1:=by rw[<-hA,arU,aqY];exact arb h0 hlt
  have ht:val (r1.take (m+2))=val r1:=by
   have hs:=fO r1 (m+2);rw[aps (by omega)]at hs;have h2:=aP (l1.drop (m+2));have h3:=aP (l1.take (m+2));rcases apl 0 (val (r1.drop (m+2)))with hc|hc
   ·have:=aoW (show 1<=val (r1.drop (m+2)) by omega) (apv (cf (m+2)));omega
   ·have e:val (r1.drop (m+2))=0:=by omega
    rw[e]at hs;omega
  have hlX:(ae (val r1).toNat).length<=m+2:=dq (by omega);have hX:=bG (val r1).toNat
  have hXv:val (ae (val r1).toNat)=val r1:=by omega
  have hd0:0<=val r1/sc:=apQ h0 (by omega);have hd1:val r1/sc<=val r1:=aqL _ h0;have hXl:=bU (bV (val r1).toNat);refine⟨r5,dig (ae (val r1).toNat).length (val r1/sc),⟨l5,nQ _ _,rfl,by rw[je];exact hlX,eQ.symm,by rw[eR,ic _ _ hd0 (by omega)]⟩,BH _ _ _ _ _ ⟨0,?_⟩⟩;unfold vo
  rw[aoR (by omega),hN,hsc,aE,show(0:Int).toNat=0 from rfl,ar9,aqB,aoP (show(0:Int)<=0/\(0:Int)<=((m+2:Nat):Int)/\((m+2:Nat):Int)<=(r1.length:Int) by omega),ht,hXv,
   aoP (show aR (r1.take (m+2)) from⟨l1.take _,by rw[app];omega⟩),aoP (show Gf (ae (val r1).toNat) sc from⟨⟨bV _,by omega⟩,hs1,by omega⟩)]
 |succ k ih=>
  intro r5 r1 l5 l1 hlen hsz hM hA hz hlt;have hk3:k+(m+2)+1<=r1.length:=by omega
  have hP:=cf k;have hr0:=aP l1
  have hz1:val (r1.drop (k+(m+2)+1))=0:=by
   have hs:=fO r1 (k+(m+2)+1);rw[aps hk3]at hs;have h2:=aP (l1.drop (k+(m+2)+1));have h3:=aP (l1.take (k+(m+2)+1));rcases apl 0 (val (r1.drop (k+(m+2)+1)))with hc|hc
   ·exfalso;have e1:=aoW (show 1<=val (r1.drop (k+(m+2)+1)) by omega) (apv (cf (k+(m+2)+1)));have e2:=ao2 (apv hVlt) (apv (cf (k+1)));rw[<-fk,show m+2+(k+1)=k+(m+2)+1 by omega]at e2;omega
   ·omega
  have hw1:=Jv hk3 hz1;have hwb:=QS l1 hk3
  have hwlt:win k (m+2) r1<val v*1000000000:=by
   rcases apl (win k (m+2) r1) (val v*1000000000)with hc|hc
   ·exact hc
   ·exfalso;have e1:=aoW hc (apv hP);have e2:=aP (l1.take k);have e3:val v*pw (k+1)=pw k*(val v*1000000000):=by rw[bW];grind
    omega
  have K:=amz lv hvl l1 (show k+m+3<=r1.length by omega) htop hwlt;have htk:=bU (l1.take k);rw[app,aps (by omega)]at htk;have htk0:=aP (l1.take k);have hk5:k<r5.length:=by omega
  have hr5:=hz k hk5 (by omega);have e1:i64.wrap ((k:Int)+((m+2:Nat):Int))=((k+(m+2):Nat):Int):=by rw[aM (by omega) (by omega)];simp
  have e2:i64.wrap (((k+(m+2):Nat):Int)+1)=((k+(m+2)+1:Nat):Int):=aS (by omega);have e3:k+(m+2)+1-k=m+2+1:=by omega
  have fin:∀(d:Int) (r:List Int),0<=d->d<1000000000->Lim r->r.length=r1.length->r.take k=r1.take k->r.drop (k+(m+2)+1)=r1.drop (k+(m+2)+1)->val r=val r1-pw k*(d*val v)->win k (m+2) r1-d*val v<val v->
    ∃qL rL,(Lim qL/\Lim rL/\qL.length=r5.length/\rL.length<=m+2/\val qL=A/val v/\val rL=A%val v/sc)/\ga.Runs 34 (qG b x2 ((k:Int)-1) (r5.set k d) r) [.d asj qL,.d asj rL]:=by
   intro d r d0 d1 lr hl ht hd hval hwd
   obtain⟨qL,rL,⟨a1,a2,a3,a4,a5,a6⟩,a7⟩:=ih (r5.set k d) r (l5.set k ⟨d0,d1⟩) lr (by simp;omega) (by omega) (by simp;omega) (by
     rw[eV hk5,hr5,hval,<-hA];grind) (λj hj hjk=>by rw[aqg (by omega)];exact hz j (by simpa using hj) (by omega)) (by
     rw[hval,hw1];have e4:=aoW (show win k (m+2) r1-d*val v<=val v-1 by omega) (apv hP);rw[Int.mul_sub,Int.mul_sub,arx]at e4;rw[aqG (val v)];omega)
   exact⟨qL,rL,⟨a1,a2,by simpa using a3,a4,a5,a6⟩,a7⟩
  have wof:∀(r:List Int) (x:Int),Lim r->r.length=r1.length->r.take k=r1.take k->r.drop (k+(m+2)+1)=r1.drop (k+(m+2)+1)->val r=val r1+pw k*x->win k (m+2) r=win k (m+2) r1+x/\0<=win k (m+2) r/\win k (m+2) r<pw (m+2+1):=by
   intro r x lr hl ht hd hval;have h1:=Jv (k:=k) (n:=m+2) (r:=r) (by omega) (by rw[hd];exact hz1);rw[ht]at h1;have h2:=QS (k:=k) (n:=m+2) lr (by omega);refine⟨?_,h2⟩;have:pw k*win k (m+2) r=pw k*(win k (m+2) r1+x):=by rw[asf];omega
   exact Int.eq_of_mul_eq_mul_left (by omega) this
  have hpw:pw (k+(m+2)+1)=pw k*pw (m+2+1):=by rw[<-fk];congr 1
  have xt:=K.u2;have xt1:=K.u1;have xv:=K.v1;have hg0:0<=(r1[k+m+2]*1000000000+r1[k+m+1])/v[m+1]:=apQ (by omega) (by omega)
  have hg1:(r1[k+m+2]*1000000000+r1[k+m+1])/v[m+1]<2000000000:=aqo (by omega) (by
   have:=aoW xv.1 (show(0:Int)<=2000000000 by decide);omega)
  have md:=apC (r1[k+m+2]*1000000000+r1[k+m+1]) v[m+1];have m0:=ap4 (r1[k+m+2]*1000000000+r1[k+m+1]) (show v[m+1]≠0 by omega);have m1:=apE (r1[k+m+2]*1000000000+r1[k+m+1]) (show 0<v[m+1] by omega)
  have key:∃qL rL,(Lim qL/\Lim rL/\qL.length=r5.length/\rL.length<=m+2/\val qL=A/val v/\val rL=A%val v/sc)/\ga.Runs 49 (nY b x2 (k:Int) r1 r5 ((r1[k+m+2]*1000000000+r1[k+m+1])/v[m+1]) ((r1[k+m+2]*1000000000+r1[k+m+1])%v[m+1])) [.d asj qL,.d asj rL]:=by
   have hex:∃g,0<=g/\g<1000000000/\g*val v<=win k (m+2) r1/\win k (m+2) r1<(g+1)*val v:=by
    have h1:=apC (win k (m+2) r1) (val v);have h2:=ap4 (win k (m+2) r1) (show val v≠0 by omega);have h3:=apE (win k (m+2) r1) hV0;refine⟨win k (m+2) r1/val v,apQ hwb.1 (by omega),aqo hV0 (by rw[aqG];exact hwlt),?_,?_⟩
    ·rw[aqG];omega
    ·rw[Int.add_mul,ar3,aqG];omega
   obtain⟨d,d0,d1,d2,d3⟩:=hex;have dv0:0<=d*val v:=apN d0 (by omega)
   have hrow:∃r,Lim r/\r.length=r1.length/\r.take k=r1.take k/\r.drop (k+(m+2)+1)=r1.drop (k+(m+2)+1)/\val r=val r1-pw k*(d*val v):=by
    refine⟨r1.take k++(dig (m+2+1) (win k (m+2) r1-d*val v)++r1.drop (k+(m+2)+1)),(l1.take k).append ((nQ _ _).append (l1.drop _)),by simp[je];omega,?_,?_,?_⟩
    ·rw[List.take_append_of_le_length (by simp;omega),arJ,Nat.min_self]
    ·rw[<-apg,List.drop_append_of_le_length (by simp[je];omega),apx (by simp[je];omega),aqS]
    ·rw[dz,dz,hz1,ic _ _ (by omega) (by omega),app,aps (by omega),hw1];grind
   obtain⟨rr,q1,q2,q3,q4,q5⟩:=hrow;obtain⟨qL,rL,hf,hrun⟩:=fin d rr d0 d1 q1 q2 q3 q4 q5 (by rw[Int.add_mul,ar3]at d3;omega);refine⟨qL,rL,hf,Id b x2 v m hN hv lv hvl k r1 r5 (by omega) (by omega) _ K ?_ 2000000000 _ _ (by omega) hg0 (by omega) m0 (by omega) (by rw[aqG];omega) (K.first rfl)⟩;intro g g0 g1 hg2 hg3;have same:∀r,Lim r->r.length=r1.length->r.take k=r1.take k->r.drop (k+(m+2)+1)=r1.drop (k+(m+2)+1)->val r=val r1-pw k*(d*val v)->r=rr:=λr a1 a2 a3 a4 a5=>Ek a1 q1 (by omega) (by omega);refine SG b x2 v m hN hv lv hvl k r1 r5 g ⟨g0,g1⟩ hk3 (by omega) _ ?_ ?_ (m+2+1) 0 0 0 r1 (by omega) (by omega) (by omega) (λ_=>rfl) (by omega) (by omega) l1 rfl rfl rfl (by simp[val])
   ·intro r a1 a2 a3 a4 a5;obtain⟨w1,w2,w3⟩:=wof r (-(g*val v)) a1 a2 a3 a4 (by rw[a5,ar4];omega)
    have hgd:g=d:=by
     have h1:¬g<d:=λhc=>by
      have:=ao2 (show g+1<=d by omega) (apv hV0);omega
     have h2:¬d<g:=λhc=>by
      have:=ao2 (show d+1<=g by omega) (apv hV0);omega
     omega
    subst hgd;rw[same r a1 a2 a3 a4 a5];obtain⟨q,hq⟩:=hrun;refine⟨q,?_⟩;unfold dg;rw[hv,hN,e1,e2,aE,aE,e3,bg (aoU _),aoR (show ¬(0:Int)>0 by decide),ak r5 k,aoO hk5,cX (x:=g) (by omega) (by omega),aM (x:=(k:Int)-1) (by omega) (by omega)];exact hq
   ·intro r a1 a2 a3 a4 a5;obtain⟨w1,w2,w3⟩:=wof r (-(g*val v)+pw (m+2+1)) a1 a2 a3 a4 (by rw[a5,hpw,asf,ar4];omega);have hwg:win k (m+2) r1<g*val v:=by omega
    have hgd:g=d+1:=by
     have h1:¬g<d+1:=λhc=>by
      have:=ao2 (show g<=d by omega) (apv hV0);omega
     have h2:¬d+1<g:=λhc=>by
      have:=ao2 (show d+2<=g by omega) (apv hV0);rw[Int.add_mul]at this d3;omega
     omega
    subst hgd
    have hres:ga.Runs 5 (dE b x2 (k:Int) r5 (d+1) 0 0 r) [.d asj qL,.d asj rL]:=by
     refine Qa b x2 v m hN hv lv hvl k r r5 (d+1) (by omega) (by omega) _ ?_ (m+2+1) 0 0 r (by omega) (by omega) (by omega) a1 rfl rfl rfl (by simp[val]);intro r' c b1 b2 b3 b4 c0 c1 b5;obtain⟨u1,u2,u3⟩:=wof r' (-((d+1)*val v)+pw (m+2+1)+val v-pw (m+2+1)*c) b1 (by omega) (b3.trans a3) (b4.trans a4) (by rw[b5,a5,hpw,Int.mul_sub,asf,asf,ar4];grind)
     have hc:c=1:=by
      rcases(show c=0\/c=1 by omega)with hc|hc
      ·exfalso;subst hc;rw[ary,Int.sub_zero]at u1;rw[Int.add_mul,ar3]at u1;omega
      ·exact hc
     subst hc;rw[same r' b1 (by omega) (b3.trans a3) (b4.trans a4) (by rw[b5,a5];grind)];obtain⟨q,hq⟩:=hrun;refine⟨q,?_⟩;unfold dY;rw[hN,e1,e2,aE,aE,e3,bg (aoU _),ak r5 k,aoO hk5,show d+1-1=d by omega,bH (x:=d) (by omega) (by omega),cX (x:=d) (by omega) (by omega),aM (x:=(k:Int)-1) (by omega) (by omega)];exact hq
    obtain⟨q,hq⟩:=hres;refine⟨q,?_⟩;unfold dg;rw[hv,hN,e1,e2,aE,aE,e3,bg (aoU _),aoP (show(1:Int)>0 by decide),aoP (show(0:Int)<=(k:Int)/\(k:Int)<=((k+(m+2)+1:Nat):Int)/\((k+(m+2)+1:Nat):Int)<=(r.length:Int) by omega)];exact hq
  obtain⟨qL,rL,hf,q,hq⟩:=key;refine⟨qL,rL,hf,BH _ _ _ _ _ ⟨q,?_⟩⟩;have e4:i64.wrap (((k+(m+2):Nat):Int)-1)=((k+m+1:Nat):Int):=by rw[aM (by omega) (by omega)];omega
  have e5:i64.wrap (((m+2:Nat):Int)-1)=((m+1:Nat):Int):=by rw[aM (by omega) (by omega)];omega
  unfold vo;rw[show((k+1:Nat):Int)-1=(k:Int) by omega,aoP (by omega),hv,hN,e1,e4,e5,ak r1 (k+(m+2)),aE,aoO (show k+(m+2)<r1.length by omega),ak r1 (k+m+1),aE,aoO (show k+m+1<r1.length by omega),ak v (m+1),aoO (show m+1<v.length by omega)];dsimp only;rw[bH (x:=v[m+1]) (by omega) (by omega),aoR (show ¬v[m+1]=0 by omega)];dsimp only;have e6:r1[k+(m+2)]=r1[k+m+2]:=rfl;rw[e6,bH (x:=r1[k+m+2]) (by omega) (by omega),bH (x:=r1[k+m+1]) (by omega) (by omega),bH (x:=r1[k+m+2]*1000000000) (by omega) (by omega),bH (x:=r1[k+m+2]*1000000000+r1[k+m+1]) (by omega) (by omega),gG (by omega),ju (by omega),bH (x:=(r1[k+m+2]*1000000000+r1[k+m+1])/v[m+1]) (by omega) (by omega)];exact hq
end
end
def pi(a b:List Int):Prop:=(Lim a/\a.length<=100000000)/\(Lim b/\b.length<=100000000)/\0<val b
instance (a b:List Int):Decidable (pi a b):=by unfold pi;infer_instance
structure akZ (a b q r:List Int):Prop where
 lq:Lim q
 lr:Lim r
 sq:q.length<=200000000
 sr:r.length<=200000000
 q:val q=val a/val b
 r:val r=val a%val b
theorem w8(x:Int):val [x]=x:=by simp[val]
theorem uP{l:List Int}(h:can l){m:Nat}(hl:l.length=m+1):1<=l[m]:=by
 have h2:=h.2;have h1:=h.1.get (show m<l.length by omega);grind
set_option maxHeartbeats 1000000 in
theorem Ja(a b:List Int)(h:pi a b):∃q r,akZ a b q r/\CQq7 268 [.d asj a,.d asj b] [.d asj q,.d asj r]:=by
 obtain⟨⟨la,sa⟩,⟨lb,sb⟩,hb⟩:=h;have ha:aR a:=⟨la,by omega⟩
 have hb':aR b:=⟨lb,by omega⟩
 have va:=bG (val a).toNat
 have vb:=bG (val b).toNat
 have na:=aP la;have va':val (ae (val a).toNat)=val a:=by omega
 have vb':val (ae (val b).toNat)=val b:=by omega
 have lna:=jW la;have lnb:=jW lb;have ca:=dW (val a).toNat
 have cb:=dW (val b).toNat
 have hla:aR (ae (val a).toNat):=⟨ca.1,by omega⟩
 have hlb:aR (ae (val b).toNat):=⟨cb.1,by omega⟩
 have go:∀{q r},ga.Res 268 [.d asj a,.d asj b] [.d asj q,.d asj r]->CQq7 268 [.d asj a,.d asj b] [.d asj q,.d asj r]:=λhr=>fI MU hr;have hb0:ae (val b).toNat≠[]:=λe=>by rw[gF]at e;omega
 by_cases h1:(ae (val b).toNat).length=1
 ·have t1:=uP cb (m:=0) h1;have t2:=cb.1.get (show 0<(ae (val b).toNat).length by omega)
  have e0:(ae (val b).toNat)[0]=val b:=by
   obtain⟨x,hx⟩:=List.length_eq_one_iff.1 h1;have:=vb';rw[hx,w8]at this;simp[hx,this]
  have hq0:0<=val a/val b:=apQ na (by omega);have hq1:val a/val b<=val a:=aqL _ na;have hr0:=ap4 (val a) (show val b≠0 by omega);have hr1:=apE (val a) hb;have hal:=bU ca.1;refine⟨dig (ae (val a).toNat).length (val a/val b),[val a%val b],⟨nQ _ _,Lim.cons ⟨hr0,by omega⟩ Lim.nil,by rw[je];omega,by simp,ic _ _ hq0 (by omega),w8 _⟩,go (ND _ _ ⟨0,?_⟩)⟩;unfold KL;rw[aoP ha,aoP hb',h1,AO,aoO (show 0<(ae (val b).toNat).length by omega),e0];dsimp only;rw[aoP (show Gf (ae (val a).toNat) (val b) from⟨hla,by omega,by omega⟩),va'];rfl
 have hlen:2<=(ae (val b).toNat).length:=by
  rcases apu (ae (val b).toNat).length 2 with h|h
  ·exfalso;have:(ae (val b).toNat).length≠0:=λe=>hb0 (aqe e);omega
  ·exact h
 by_cases hlt:val a<val b
 ·refine⟨[],ae (val a).toNat,⟨Lim.nil,ca.1,by simp,by omega,?_,?_⟩,go (ND _ _ ⟨0,?_⟩)⟩
  ·rw[apZ na hlt];rfl
  ·rw[arb na hlt];exact va'
  ·unfold KL;rw[aoP ha,aoP hb',show(((ae (val b).toNat).length:Int)==1)=F' by simp;omega,aoP (show aR (ae (val a).toNat)/\aR (ae (val b).toNat) from⟨hla,hlb⟩),va',vb',da hlt,aoP (show(ae (val a).toNat).length*4<=140737488355328/\(ae (val a).toNat).length<=140737488355328 by omega)];rfl
 ·obtain⟨m,hm⟩:∃m,(ae (val b).toNat).length=m+2:=⟨(ae (val b).toNat).length-2,by omega⟩
  have hxm:m+1<(ae (val b).toNat).length:=by omega
  have t1:=uP cb (m:=m+1) hm;have t2:=cb.1.get hxm;generalize hx2:(ae (val b).toNat)[m+1]=x2 at t1 t2;obtain⟨s1,s2,s3,s4⟩:=Rv t1 t2.2
  have esc:u32.wrap (u64.wrap (Int.tdiv 1000000000 (u64.wrap ((u64.wrap x2)+1))))=1000000000/(x2+1):=by
   rw[bH (x:=x2) (by omega) (by omega),bH (x:=x2+1) (by omega) (by omega),gG (by omega),bH (x:=1000000000/(x2+1)) (by omega) (by omega),cX (x:=1000000000/(x2+1)) (by omega) (by omega)]
  generalize hsc:1000000000/(x2+1)=sc at s1 s2 s3 s4 esc;have hsl:aR [sc]:=⟨Lim.cons ⟨by omega,by omega⟩ Lim.nil,by simp⟩
  have hbl:=bU cb.1;rw[vb',hm]at hbl;have hP:=cf (m+1);have hbtop:=bi hxm;rw[apy (by omega),vb',hx2]at hbtop;have hbt0:=aP (cb.1.take (m+1));have hbt1:=bU (cb.1.take (m+1));rw[app,aps (by omega)]at hbt1
  have hVhi:val b*sc<pw (m+2):=by
   have e1:val b*sc<(pw (m+1)*(x2+1))*sc:=Int.mul_lt_mul_of_pos_right (by rw[asf,arx];omega) (by omega);have e2:(pw (m+1)*(x2+1))*sc=pw (m+1)*((x2+1)*sc):=Int.mul_assoc _ _ _;have e3:pw (m+1)*((x2+1)*sc)<=pw (m+1)*1000000000:=aoW s3 (apv hP);rw[bW];omega
  have hVlo:pw (m+1)*500000000<=val b*sc:=by
   have e1:pw (m+1)*x2*sc<=val b*sc:=ao2 (by omega) (by omega);have e2:pw (m+1)*x2*sc=pw (m+1)*(x2*sc):=Int.mul_assoc _ _ _;have e3:pw (m+1)*500000000<=pw (m+1)*(x2*sc):=aoW s4 (apv hP);omega
  have hV0:0<val b*sc:=Int.mul_pos hb (by omega);have edv:val (dig (m+2+1) (val b*sc))=val b*sc:=ic _ _ (by omega) (by rw[bW];omega);obtain⟨v,hv⟩:∃v,ae (val b*sc).toNat=v:=⟨_,rfl⟩
  have cv:=dW (val b*sc).toNat
  have vv:=bG (val b*sc).toNat
  rw[hv]at cv vv;have hvv:val v=val b*sc:=by omega
  have hvl:v.length=m+2:=by
   have h1:v.length<=m+2:=by rw[<-hv];exact dq (by omega)
   have h2:m+1<v.length:=by rw[<-hv];exact Di (by omega)
   omega
  have htop:500000000<=v[m+1]:=by
   rcases apl v[m+1] 500000000 with hc|hc
   ·exfalso;have e1:=bi (l:=v) (n:=m+1) (by omega);rw[apy (by omega),hvv]at e1;have e2:=bU (cv.1.take (m+1));rw[app,aps (by omega)]at e2;have e3:=aoW (show v[m+1]<=499999999 by omega) (apv hP);omega
   ·exact hc
  have hal:=bU ca.1;rw[va']at hal;have hA0:0<=val a*sc:=apN na (by omega)
  have hA1:val a*sc<pw ((ae (val a).toNat).length+1):=by
   have e1:val a*sc<=pw (ae (val a).toNat).length*sc:=ao2 (by omega) (by omega);have e2:pw (ae (val a).toNat).length*sc<pw (ae (val a).toNat).length*1000000000:=Int.mul_lt_mul_of_pos_left (by omega) (cf _);rw[bW];omega
  have lab:m+2<=(ae (val a).toNat).length:=by
   rw[<-hm];rcases apu (ae (val a).toNat).length (ae (val b).toNat).length with hc|hc
   ·have:=xc hc;omega
   ·exact hc
  generalize hlA:(ae (val a).toNat).length=L at*
  have hdl:(dig (L+1) (val a*sc)++[0]).length=L+2:=by simp[je]
  have hdv:val (dig (L+1) (val a*sc)++[0])=val a*sc:=by rw[dz,ic _ _ hA0 hA1];simp[val]
  have hmul:=hvv
  obtain⟨q,r,⟨f1,f2,f3,f4,f5,f6⟩,n,hrun⟩:=SU b x2 v m hm (by rw[esc,hm,vb',w8];simp only[apd];rw[edv];exact hv) cv.1 hvl sc esc s1 s2 htop (val a*sc) (L-m) (List.replicate (L-m) 0) (dig (L+1) (val a*sc)++[0])
   (Lim.rep _) ((nQ _ _).append (Lim.cons (by decide) Lim.nil)) (by rw[hdl];simp;omega) (by rw[hdl];omega) (by simp) (by rw[gf,hdv];omega) (λj hj _=>by simp) (by
    rw[hdv,hvv];have e1:pw (m+1)*500000000*pw (L-m)<=val b*sc*pw (L-m):=ao2 hVlo (apv (cf _))
    have e2:pw (m+1)*500000000*pw (L-m)=pw (L+1)*500000000:=by
     rw[show L+1=m+1+(L-m) by omega,fk (m+1) (L-m),Int.mul_right_comm]
    have:=cf (L+1);omega)
  have hq:val a*sc/(val b*sc)=val a/val b:=Int.mul_ediv_mul_of_pos_left _ _ (by omega)
  have hr:val a*sc%(val b*sc)/sc=val a%val b:=by
   rw[aqG (val a),aqG (val b),Int.mul_emod_mul_of_pos _ _ (by omega),aqG];exact Int.mul_ediv_cancel _ (by omega)
  rw[hvv]at f5 f6;rw[hq]at f5;rw[hr]at f6;refine⟨q,r,⟨f1,f2,by rw[f3];simp;omega,by omega,f5,f6⟩,go (ND _ _ ⟨n,?_⟩)⟩;unfold KL;have e1:i64.wrap (((m+2:Nat):Int)-1)=((m+1:Nat):Int):=by rw[aM (by omega) (by omega)];omega
  have e2:i64.wrap (((L+2:Nat):Int)-((m+2:Nat):Int))=((L-m:Nat):Int):=by rw[aM (by omega) (by omega)];omega
  have e3:i64.wrap (((L-m:Nat):Int)-1)=((L-m:Nat):Int)-1:=aM (by omega) (by omega)
  rw[aoP ha,aoP hb',hm,show(((m+2:Nat):Int)==1)=F' by simp;omega,aoP (show aR (ae (val a).toNat)/\aR (ae (val b).toNat) from⟨hla,hlb⟩),va',vb',show Dd' (b9 (val a) (val b)<0)=F' by
   rcases apl (val b) (val a)with hc|hc
   ·rw[cH hc];rfl
   ·rw[show val a=val b by omega,dU];rfl,e1,ak (ae (val b).toNat) (m+1),aoO hxm,hx2]
  dsimp only;rw[esc,bH (x:=x2) (by omega) (by omega),bH (x:=x2+1) (by omega) (by omega),aoR (show ¬x2+1=0 by omega),aoP (show aR (ae (val a).toNat)/\aR [sc] from⟨hla,hsl⟩),aoP (show aR (ae (val b).toNat)/\aR [sc] from⟨hlb,hsl⟩),w8,hlA];rw[apd,apd,hdl,je (L+1)];rw[aoP (show(L+1+1)*4<=140737488355328/\L+1+1<=140737488355328 by omega),aoP (show aR (dig (m+2+1) (val b*sc)) from jo (by omega) _),e2,uj (by omega),aE,e3];exact hrun
abbrev BI:=Bool×List Int
def okI(x:BI):Prop:=can x.2/\(x.1=T'->x.2≠[])/\x.2.length<=1000000
instance (x:BI):Decidable (okI x):=by unfold okI;infer_instance
theorem bQ(x:BI):ab x=bZ x.1 (val x.2):=rfl
theorem gT{x:BI}(h:okI x):x=ah (ab x):=by
 obtain⟨h1,h2,h3⟩:=h;grind [bQ,m7,p7,val,eu]
def szI(z:Int):Nat:=(ae z.natAbs).length
theorem aT{z:Int}(h:szI z<=1000000):okI (ah z):=by
 refine⟨dW _,λe=>?_,h⟩;grind [ah,gF]
theorem eW{z:Int}{k:Nat}(h1: -pw k<z)(h2:z<pw k):szI z<=k:=dq (by omega)
theorem IM(z:Int): -pw (szI z)<z/\z<pw (szI z):=by
 have h:=bU (bV z.natAbs);grind [bG,szI]
theorem nW{z:Int}{k:Nat}(h:szI z<=k): -pw k<z/\z<pw k:=by
 have h1:=IM z;have h2:=dm h;omega
theorem iW(z:Int):szI (-z)=szI z:=by simp[szI]
theorem xe{a b:Int}{k:Nat}(h1:szI a<=k)(h2:szI b<=k):szI (a+b)<=k+1:=by
 have e1:=nW h1;have e2:=nW h2;exact eW (by rw[bW];omega) (by rw[bW];omega)
theorem cK{a b:Int}{j k:Nat}(h1:szI a<=j)(h2:szI b<=k):szI (a*b)<=j+k:=by
 have e1:=nW h1;have e2:=nW h2
 have h:(a*b).natAbs<(pw (j+k)).toNat:=by
  rw[Int.natAbs_mul,fk];have:(pw j*pw k).toNat=(pw j).toNat*(pw k).toNat:=Int.toNat_mul (by omega) (by omega);rw[this];exact Nat.mul_lt_mul'' (by omega) (by omega)
 exact eW (by omega) (by omega)
theorem dB{a b:Int}(h:a.natAbs<=b.natAbs):szI a<=szI b:=by
 have:=IM b;exact eW (by omega) (by omega)
theorem iG{x:BI}(h:okI x):szI (ab x)<=1000000:=by
 have:=gT h;have h3:=h.2.2;rwa [this]at h3
theorem fv{x:BI}(h:okI x):aR x.2:=⟨h.1.1,by have:=h.2.2;omega⟩
theorem co{x:BI}(h:okI x):0<=val x.2/\(x.1=T'->0<val x.2)/\(x.2=[]↔val x.2=0):=by
 refine⟨aP h.1.1,λe=>eu h.1 (h.2.1 e),⟨λe=>by rw[e];rfl,λe=>?_⟩⟩;rcases List.eq_nil_or_concat x.2 with h'|⟨l,y,h'⟩
 ·omega
 ·have:=eu h.1 (by rw[h'];simp);omega
def pe:cE:=spN F' F' [ask] (λx=>Dd' (bI x.1)) (λx=>[RV.d y3Y (ah x.1)])
theorem kR:SpK 269 pe:=spX λx h=>DU x.1 (aoQ h)
def dvQ(a b:List Int):List Int:=if h:pi a b then Classical.choose (Ja a b h)else []
def dvR(a b:List Int):List Int:=if h:pi a b then Classical.choose (aqn (Ja a b h))else []
theorem aa3{a b:List Int}(h:pi a b):akZ a b (dvQ a b) (dvR a b):=by grind [dvQ,dvR]
theorem V1(a b:List Int)(h:pi a b):CQq7 268 [.d asj a,.d asj b] [.d asj (dvQ a b),.d asj (dvR a b)]:=by
 unfold dvQ dvR;rw[dif_pos h,dif_pos h];exact(aqn (aqn (Ja a b h))).2
def Ic:cE:=spN F' F' [asj,asj] (λx=>Dd' (pi x.1 x.2.1)) (λx=>[RV.d asj (dvQ x.1 x.2.1),RV.d asj (dvR x.1 x.2.1)])
theorem FH:SpK 268 Ic:=spX λx h=>V1 x.1 x.2.1 (aoQ h)
def rP:Env:=[(189,zn),(267,Dh),(276,Ir),(277,H6),(190,IQ),(188,Hk),(269,pe),(268,Ic)]
theorem kp:EnvAll Tryz.prog rP:=⟨sV,z0,Gc,GZ,G7,E2,kR,FH,trivial⟩
def ah1:Ctx:=CX rP []
def aa8(x y:Bool×List Int)(_k:KT):OLR:=match !(x.1==y.1)with|T'=>(match x.1 with|T'=>S' [RV.d ask (-1)]|F'=>S' [RV.d ask 1])|F'=>(match x.1 with|T'=>(og (Dd' (aR y.2/\aR x.2)) (S' [RV.d ask (b9 (val y.2) (val x.2))]))|F'=>(og (Dd' (aR x.2/\aR y.2)) (S' [RV.d ask (b9 (val x.2) (val y.2))])))
theorem ain(x y:Bool×List Int):RS ah1 108 [.d y3Y x,.d y3Y y] (aa8 x y):=rsX
def akc:Ctx:=CX rP []
def Yz(x y:Bool×List Int)(_k:KT):OLR:=match x.1==y.1 with|T'=>(og (Dd' (aR x.2/\aR y.2)) (og (Dd' (aR (dig (max x.2.length y.2.length+1) (val x.2+val y.2)))) (S' [RV.d y3Y (ah (bZ x.1 (val (dig (max x.2.length y.2.length+1) (val x.2+val y.2)))))])))|F'=>(og (Dd' (aR x.2/\aR y.2)) (match Dd' ((b9 (val x.2) (val y.2))<0)with|T'=>(og (Dd' (oQ y.2 x.2)) (og (Dd' (aR (dig y.2.length (val y.2-val x.2)))) (S' [RV.d y3Y (ah (bZ y.1 (val (dig y.2.length (val y.2-val x.2)))))])))|F'=>(og (Dd' (oQ x.2 y.2)) (og (Dd' (aR (dig x.2.length (val x.2-val y.2)))) (S' [RV.d y3Y (ah (bZ x.1 (val (dig x.2.length (val x.2-val y.2)))))])))))
theorem ajc(x y:Bool×List Int):RS akc 202 [.d y3Y x,.d y3Y y] (Yz x y):=rsX
def akp:Ctx:=CX rP []
def ZC(x y:Bool×List Int)(_k:KT):OLR:=og (Dd' (aR x.2/\aR y.2)) (og (Dd' (aR (dig (x.2.length+y.2.length) (val x.2*val y.2)))) (S' [RV.d y3Y (ah (bZ (!(x.1==y.1)) (val (dig (x.2.length+y.2.length) (val x.2*val y.2)))))]))
theorem ajm(x y:Bool×List Int):RS akp 109 [.d y3Y x,.d y3Y y] (ZC x y):=rsX
def alu:Ctx:=CX rP []
def YU(x:Bool×List Int)(_k:KT):OLR:=og (Dd' (x.2.length*4<=140737488355328/\x.2.length<=140737488355328)) (og (Dd' (aR x.2)) (S' [RV.d y3Y (ah (bZ (!x.1) (val x.2)))]))
theorem aix(x:Bool×List Int):RS alu 273 [.d y3Y x] (YU x):=rsX
def ako:Ctx:=CX rP []
def aar(x:Bool×List Int)(_k:KT):OLR:=match x.1 with|T'=>S' [RV.d ask (-1)]|F'=>(match Dd' ((x.2.length:Int)>0)with|T'=>S' [RV.d ask 1]|F'=>S' [RV.d ask 0])
theorem ai6(x:Bool×List Int):RS ako 178 [.d y3Y x] (aar x):=rsX
theorem B7(x:BI)(h:okI x):CQq7 178 [.d y3Y x] [.d ask (b9 (ab x) 0)]:=by
 refine fI kp (ai6 _ ⟨0,?_⟩);obtain⟨h0,h1,h2⟩:=co h;unfold aar;rw[bQ];unfold bZ;cases hx:x.1
 ·simp only[cond_false];rcases apl 0 (val x.2)with hc|hc
  ·have:x.2≠[]:=λe=>by rw[h2]at e;omega
   have:=apA.2 this;rw[aoP (by omega),cH hc]
  ·have e:x.2=[]:=h2.2 (by omega);rw[e];rfl
 ·simp only[cond_true];rw[da (by have:=h1 hx;omega)]
theorem KZ{a b:Int}(_ha:0<=a)(_hb:0<=b):b9 (-a) (-b)=b9 b a:=by grind [cH,dU,da]
theorem CM(x y:BI)(h:okI x/\okI y):CQq7 108 [.d y3Y x,.d y3Y y] [.d ask (b9 (ab x) (ab y))]:=by
 refine fI kp (ain _ _ ⟨0,?_⟩);obtain⟨hx,hy⟩:=h;obtain⟨x0,x1,x2⟩:=co hx;obtain⟨y0,y1,y2⟩:=co hy;have lx:=fv hx;have ly:=fv hy;unfold aa8;rw[bQ,bQ,aoP (show aR x.2/\aR y.2 from⟨lx,ly⟩),aoP (show aR y.2/\aR x.2 from⟨ly,lx⟩)];unfold bZ;cases ex:x.1<;>cases ey:y.1<;>simp only[cond_true,cond_false]
 ·rfl
 ·have:=y1 ey;rw[cH (a:=val x.2) (b:= -val y.2) (by omega)];rfl
 ·have:=x1 ex;rw[da (a:= -val x.2) (b:=val y.2) (by omega)];rfl
 ·rw[KZ x0 y0];rfl
theorem Ti{a b:List Int}(ha:Lim a)(hb:Lim b):val (dig (max a.length b.length+1) (val a+val b))=val a+val b:=by
 have h1:=bU ha;have h2:=bU hb;have h3:=aP ha;have h4:=aP hb;have h5:=dm (Nat.le_max_left a.length b.length);have h6:=dm (Nat.le_max_right a.length b.length);grind [ic,bW]
theorem By{a b:List Int}(ha:Lim a)(hb:Lim b)(hle:val b<=val a):val (dig a.length (val a-val b))=val a-val b:=by
 have h1:=bU ha;have h4:=aP hb;grind [ic]
theorem M0{a b:List Int}(ha:Lim a)(hb:Lim b):val (dig (a.length+b.length) (val a*val b))=val a*val b:=by
 have h1:=bU ha;have h2:=bU hb;have h3:=aP ha;have h4:=aP hb;refine ic _ _ (apN h3 h4) ?_;rw[fk];have e1:=ao2 (apv h1) h4;have e2:=Int.mul_lt_mul_of_pos_left h2 (cf a.length);omega
theorem JJ(x y:BI)(h:okI x/\okI y):CQq7 202 [.d y3Y x,.d y3Y y] [.d y3Y (ah (ab x+ab y))]:=by
 refine fI kp (ajc _ _ ⟨0,?_⟩);obtain⟨hx,hy⟩:=h;obtain⟨x0,x1,x2⟩:=co hx;obtain⟨y0,y1,y2⟩:=co hy;have lx:=fv hx;have ly:=fv hy;have sx:=hx.2.2;have sy:=hy.2.2;unfold Yz;rw[bQ,bQ,aoP (show aR x.2/\aR y.2 from⟨lx,ly⟩),aoP (show aR (dig (max x.2.length y.2.length+1) (val x.2+val y.2)) from jo (by omega) _),Ti lx.1 ly.1,aoP (show aR (dig x.2.length (val x.2-val y.2)) from jo (by omega) _),aoP (show aR (dig y.2.length (val y.2-val x.2)) from jo (by omega) _)];cases hs:x.1==y.1
 ·dsimp only;rcases apl (val x.2) (val y.2)with hc|hc
  ·rw[da hc,aoP (show(-1:Int)<0 by decide),aoP (show oQ y.2 x.2 from⟨ly,lx,by omega⟩),By ly.1 lx.1 (by omega)];dsimp only;unfold bZ;cases ex:x.1<;>cases ey:y.1<;>simp_all<;>congr 2<;>omega
  ·have hcm:Dd' (b9 (val x.2) (val y.2)<0)=false:=by
    rcases apl (val y.2) (val x.2)with h|h
    ·rw[cH h];rfl
    ·rw[show val x.2=val y.2 by omega,dU];rfl
   rw[hcm,aoP (show oQ x.2 y.2 from⟨lx,ly,hc⟩),By lx.1 ly.1 hc];dsimp only;unfold bZ;cases ex:x.1<;>cases ey:y.1<;>simp_all<;>congr 2<;>omega
 ·dsimp only;have e:=apw.1 hs;rw[<-e];unfold bZ;cases x.1
  ·rfl
  ·simp only[cond_true];rw[show-(val x.2+val y.2)= -val x.2+ -val y.2 by omega]
theorem C7(x:BI)(h:okI x):CQq7 273 [.d y3Y x] [.d y3Y (ah (-ab x))]:=by
 refine fI kp (aix _ ⟨0,?_⟩);have sx:=h.2.2;unfold YU;rw[bQ,aoP (show x.2.length*4<=140737488355328/\x.2.length<=140737488355328 by omega),aoP (fv h)];unfold bZ;cases x.1<;>simp
theorem Ef(x y:BI)(h:okI x/\okI y):CQq7 109 [.d y3Y x,.d y3Y y] [.d y3Y (ah (ab x*ab y))]:=by
 refine fI kp (ajm _ _ ⟨0,?_⟩);obtain⟨hx,hy⟩:=h;have lx:=fv hx;have ly:=fv hy;have sx:=hx.2.2;have sy:=hy.2.2;unfold ZC;rw[bQ,bQ,aoP (show aR x.2/\aR y.2 from⟨lx,ly⟩),aoP (show aR (dig (x.2.length+y.2.length) (val x.2*val y.2)) from jo (by omega) _),M0 lx.1 ly.1];unfold bZ;cases x.1<;>cases y.1<;>simp[Int.neg_mul,ar4]
def pC:cE:=spN F' F' [y3Y,y3Y] (λx=>Dd' (okI x.1/\okI x.2.1)) (λx=>[RV.d y3Y (ah (ab x.1+ab x.2.1))])
theorem kv:SpK 202 pC:=spX λx h=>JJ x.1 x.2.1 (aoQ h)
def IS:Env:=(202,pC)::rP
theorem AR:EnvAll Tryz.prog IS:=⟨kv,kp⟩
def ajL:Ctx:=CX IS []
def aaV(x y:Bool×List Int)(_k:KT):OLR:=match !y.1 with|T'=>(og (Dd' (okI x/\okI (Dd' ((y.2.length:Int)>0),y.2))) (S' [RV.d y3Y (ah (ab x+ab (Dd' ((y.2.length:Int)>0),y.2)))]))|F'=>(og (Dd' (okI x/\okI (F',y.2))) (S' [RV.d y3Y (ah (ab x+ab (F',y.2)))]))
theorem amu(x y:Bool×List Int):RS ajL 368 [.d y3Y x,.d y3Y y] (aaV x y):=rsX
theorem Nw{y:BI}(h:okI y):okI (!y.1&&Dd' ((y.2.length:Int)>0),y.2)/\ab (!y.1&&Dd' ((y.2.length:Int)>0),y.2)= -ab y:=by
 refine⟨⟨h.1,λe=>?_,h.2.2⟩,?_⟩
 ·grind
 grind [bQ,bZ,val,apA]
theorem K3(x y:BI)(h:okI x/\okI y):CQq7 368 [.d y3Y x,.d y3Y y] [.d y3Y (ah (ab x-ab y))]:=by
 refine fI AR (amu _ _ ⟨0,?_⟩);obtain⟨hx,hy⟩:=h;obtain⟨f1,f2⟩:=Nw hy;rw[Int.sub_eq_add_neg,<-f2];unfold aaV;cases ey:y.1
 ·rw[ey]at f1;simp only[Bool.not_false,aqf]at f1 ⊢;rw[aoP ⟨hx,f1⟩]
 ·rw[ey]at f1;simp only[Bool.not_true,ar6]at f1 ⊢;rw[aoP ⟨hx,f1⟩]
def Tj:cE:=spN F' F' [y3Y,y3Y] (λx=>Dd' (okI x.1/\okI x.2.1)) (λx=>[RV.d y3Y (ah (ab x.1-ab x.2.1))])
theorem O3:SpK 368 Tj:=spX λx h=>K3 x.1 x.2.1 (aoQ h)
def S9:Env:=(368,Tj)::IS
theorem MV:EnvAll Tryz.prog S9:=⟨O3,AR⟩
def ajE:Ctx:=CX S9 []
def ZV(x y:Bool×List Int)(_k:KT):OLR:=let y1:=aR (dvQ x.2 y.2);let y2:=aR (dvR x.2 y.2);let y3:=ah (bZ x.1 (val (dvR x.2 y.2)));let y4:=ah (bZ (!(x.1==y.1)) (val (dvQ x.2 y.2)));let y5:OLR:=match Dd' (((y3.2).length:Int)>0)with|T'=>(match !((y3.1)==y.1)with|T'=>(og (Dd' (bI (1:Int))) (og (Dd' (okI y4/\okI (ah (1:Int)))) (og (Dd' (okI y3/\okI y)) (dup (.b .l .l) (S' [RV.d y3Y (ah (ab y4-ab (ah (1:Int)))),RV.d y3Y (ah (ab y3+ab y)),RV.d ask 0])))))|F'=>dup (.b .l .l) (S' [RV.d y3Y y4,RV.d y3Y y3,RV.d ask 0]))|F'=>dup (.b .l .l) (S' [RV.d y3Y y4,RV.d y3Y y3,RV.d ask 0]);let y6:OLR:=match decide y2 with|T'=>y5|F'=>N';match(y.2.length:Int)==0 with|T'=>S' [RV.d y3Y (F',[]),RV.d y3Y (F',[]),RV.d ask 6]|F'=>(og (Dd' (pi x.2 y.2)) (cW (og (decide y1) (cW (og (decide y2) (dup (.b .l .l) y5)) (dup (.b (.b .l .l) (.b .l .l)) y6))) (dup (.b .l .l) (cW (og (decide y1) (dup (.b .l .l) y6)) (og (decide y1) y6)))))
theorem alW(x y:Bool×List Int):RS ajE 321 [.d y3Y x,.d y3Y y] (ZV x y):=rsX
def fa(x y:BI):Prop:=okI x/\okI y/\0<ab y
instance (x y:BI):Decidable (fa x y):=by unfold fa;infer_instance
theorem Kg{a b:Int}(_ha:0<=a)(hb:0<b):(a%b=0-> -a/b= -(a/b)/\ -a%b=0)/\(0<a%b-> -a/b= -(a/b)-1/\ -a%b= -(a%b)+b):=by
 have h1:=ap4 a (show b≠0 by omega);have h2:=apE a hb;have h3:=apC a b;constructor
 ·intro h;have e: -a=b* -(a/b):=by rw[ar4];omega
  constructor
  ·rw[e,arc _ (by omega)]
  ·rw[e,Int.mul_emod_right]
 ·intro h;have e: -a=(b-a%b)+b*(-(a/b)-1):=by rw[Int.mul_sub,ar4,arx];omega
  constructor
  ·rw[e,aqF _ _ (by omega),apZ (by omega) (by omega)];omega
  ·rw[e,aqY,arb (by omega) (by omega)];omega
theorem lO:okI (ah 1):=by decide
theorem CF(n:Bool){v:Int}:szI (bZ n v)=szI v:=by unfold bZ;cases n<;>simp[iW]
theorem Kf(x y:BI)(h:fa x y):CQq7 321 [.d y3Y x,.d y3Y y] [.d y3Y (ah (ab x/ab y)),.d y3Y (ah (ab x%ab y)),.d ask 0]:=by
 refine fI MV (alW _ _ ⟨0,?_⟩);obtain⟨hx,hy,hp⟩:=h;obtain⟨x0,x1,x2⟩:=co hx;obtain⟨y0,y1,y2⟩:=co hy;have sx:=hx.2.2;have sy:=hy.2.2
 have ey:y.1=false:=by
  cases e:y.1
  ·rfl
  ·rw[bQ,e]at hp;simp only[bZ,cond_true]at hp;omega
 have dy:ab y=val y.2:=by rw[bQ,ey];rfl
 rw[dy]at hp;have hdv:pi x.2 y.2:=⟨⟨hx.1.1,by omega⟩,⟨hy.1.1,by omega⟩,hp⟩
 obtain⟨lq,lr,sq,sr,vq,vr⟩:=aa3 hdv;have hne:y.2≠[]:=λe=>by rw[y2]at e;omega
 have hylen:=apA.2 hne;have r0:=ap4 (val x.2) (show val y.2≠0 by omega);have r1:=apE (val x.2) hp;have q0:0<=val x.2/val y.2:=apQ x0 y0;have q1:val x.2/val y.2<=val x.2:=aqL _ x0;have vx:=bU hx.1.1;have vy:=bU hy.1.1;have szq:szI (val x.2/val y.2)<=1000000:=eW (by have:=cf 1000000;omega) (by have:=dm sx;omega);have szr:szI (val x.2%val y.2)<=1000000:=eW (by have:=cf 1000000;omega) (by have:=dm sy;omega);unfold ZV;simp only[dp]
 rw[show((y.2.length:Int)==0)=F' by simp;omega,aoP hdv,aoP (show aR (dvQ x.2 y.2) from⟨lq,by omega⟩),aoP (show aR (dvR x.2 y.2) from⟨lr,by omega⟩),aoP (show bI 1 by decide),vq,vr,
  aoP (show okI (ah (bZ (!(x.1==y.1)) (val x.2/val y.2)))/\okI (ah (1:Int)) from⟨aT (by rw[CF];exact szq),lO⟩),aoP (show okI (ah (bZ x.1 (val x.2%val y.2)))/\okI y from⟨aT (by rw[CF];exact szr),hy⟩)]
 simp only[dec_enc,dy,cO];have hE1:(ah (bZ x.1 (val x.2%val y.2))).1=(x.1&&Dd' (0<val x.2%val y.2)):=by rw[m7 x.1 r0]
 have hE2:(ah (bZ x.1 (val x.2%val y.2))).2=ae (val x.2%val y.2).toNat:=by rw[m7 x.1 r0]
 rw[hE1,hE2,bQ x,ey]
 have hlen:(((ae (val x.2%val y.2).toNat).length:Int)>0)↔0<val x.2%val y.2:=by
  constructor
  ·intro hl;rcases apl 0 (val x.2%val y.2)with h|h
   ·exact h
   ·rw[show(val x.2%val y.2).toNat=0 by omega,fA]at hl;simp at hl
  ·intro hl;have:ae (val x.2%val y.2).toNat≠[]:=λe=>by rw[gF]at e;omega
   have:=apA.2 this;omega
 obtain⟨n1,n2⟩:=Kg (a:=val x.2) (b:=val y.2) x0 hp;rcases apl 0 (val x.2%val y.2)with hr|hr
 ·rw[aoP (hlen.2 hr),aoP hr];cases x.1
  ·rfl
  ·obtain⟨e1,e2⟩:=n2 hr;simp only[bZ,cond_true,Bool.not_false,aqf,show((T'==F'):Bool)=F' from rfl];rw[e1,e2]
 ·rw[aoR (λh'=>by have:=hlen.1 h';omega)];dsimp only;have e0:val x.2%val y.2=0:=by omega
  cases x.1
  ·simp only[bZ,cond_false,show((F'==F'):Bool)=T' from rfl,Bool.not_true]
  ·obtain⟨e1,e2⟩:=n1 e0;simp only[bZ,cond_true,show((T'==F'):Bool)=F' from rfl,Bool.not_false];rw[e1,e2,e0];rfl
def lj(x:BI):Bool:=Dd' (x.2.length<=2)
def Am(x:BI):Int:=bif lj x then val x.2 else 0
def akm:Ctx:=CX [] []
def aaK(x:Bool×List Int)(_k:KT):OLR:=match(x.2.length:Int)==0 with|T'=>S' [RV.d (.int .u64) 0,RV.d .bool T']|F'=>(match(x.2.length:Int)==1 with|T'=>(match aH x.2 0 with|S' x1=>S' [RV.d (.int .u64) (u64.wrap x1),RV.d .bool T']|N'=>N')|F'=>(match(x.2.length:Int)==2 with|T'=>(match aH x.2 1 with|S' x2=>(match aH x.2 0 with|S' x3=>S' [RV.d (.int .u64) (u64.wrap ((u64.wrap ((u64.wrap x2)*1000000000))+(u64.wrap x3))),RV.d .bool T']|N'=>N')|N'=>N')|F'=>S' [RV.d (.int .u64) 0,RV.d .bool F']))
theorem amq(x:Bool×List Int):RS akm 266 [.d y3Y x] (aaK x):=rsX
theorem Xv(x:BI)(h:okI x):CQq7 266 [.d y3Y x] [.d (.int .u64) (Am x),.d .bool (lj x)]:=by
 refine fI (E:=[]) trivial (amq _ ⟨0,?_⟩);obtain⟨neg,l⟩:=x;have hl:=h.1.1;unfold aaK Am lj;match l,hl with
 |[],_=>rfl
 |[a],hl=>
  have:=hl.head;simp only[apd,AO,apP];rw[bH (x:=a) (by omega) (by omega)];simp[val]
 |[a,b],hl=>
  have h1:=hl.head;have h2:=hl.tail.head;have e1:aH [a,b] 1=S' b:=rfl;have e0:aH [a,b] 0=S' a:=rfl;simp only[e1,e0,ao8,List.length_nil];rw[bH (x:=a) (by omega) (by omega),bH (x:=b) (by omega) (by omega),bH (x:=b*1000000000) (by omega) (by omega),bH (x:=b*1000000000+a) (by omega) (by omega)];rw[show val [a,b]=b*1000000000+a by simp only[val];omega];rfl
 |a::b::c::l,hl=>
  have e:Dd' ((a::b::c::l).length<=2)=false:=aoR (by simp);rw[e,show(((a::b::c::l).length:Int)==0)=F' by simp;omega,show(((a::b::c::l).length:Int)==1)=F' by simp;omega,show(((a::b::c::l).length:Int)==2)=F' by simp;omega];rfl
def S2:cE:=spN F' F' [y3Y] (λx=>Dd' (okI x.1)) (λx=>[RV.d (.int .u64) (Am x.1),RV.d .bool (lj x.1)])
theorem Oy:SpK 266 S2:=spX λx h=>Xv x.1 (aoQ h)
def Pv:Env:=[(189,zn),(267,Dh),(268,Ic),(266,S2)]
theorem L6:EnvAll Tryz.prog Pv:=⟨sV,z0,FH,Oy,trivial⟩
def ae3:NT:=[((192,6),{keep:=[4,5,6],hl:=5}),((192,24),{keep:=[4,7,9],hl:=3})]
def im:Ctx:=CX Pv ae3
def mn(x y:Bool×List Int)(b3_0:Bool)(b3_1:List Int)(b4_0:Bool)(b4_1:List Int):Cfg:=⟨192,[.blk 0,.seq 40],[(4,.box 2 0),(5,.box 3 0),(6,.box 4 0)],[.box 36 [SB x.1,.d asj x.2],.box 36 [SB y.1,.d asj y.2],.box 36 [SB F',.nil],.box 36 [SB b3_0,.d asj b3_1],.box 36 [SB b4_0,.d asj b4_1]],0,[]⟩
def ge(x y:Bool×List Int)(b3_0:Bool)(b3_1:List Int)(b4_0:Bool)(b4_1:List Int):Cfg:=⟨192,[.blk 0,.seq 40],[(4,.box 2 0),(5,.box 4 0),(6,.box 3 0)],[.box 36 [SB x.1,.d asj x.2],.box 36 [SB y.1,.d asj y.2],.box 36 [SB F',.nil],.box 36 [SB b3_0,.d asj b3_1],.box 36 [SB b4_0,.d asj b4_1]],0,[]⟩
def iX(x y:Bool×List Int)(s7 s9:Int):Cfg:=⟨192,[.blk 2,.seq 33,.seq 37,.blk 1,.lp 6,.blk 0,.seq 40],[(4,.box 2 0),(7,.d (.int .u64) s7),(9,.d (.int .u64) s9)],[.box 36 [SB x.1,.d asj x.2],.box 36 [SB y.1,.d asj y.2],.box 36 [SB F',.nil]],0,[]⟩
def acw(x y:Bool×List Int)(k:KT):OLR:=let y1:=ah (bZ F' (val x.2));let y2:=ah (bZ F' (val y.2));let y3:=mn x y (y1.1) (y1.2) (y2.1) (y2.2);let y4:=ge x y (y2.1) (y2.2) (y1.1) (y1.2);let y5:OLR:=match Dd' (aR y.2)with|T'=>k 6 y3|F'=>N';let y6:OLR:=match Dd' (aR y.2)with|T'=>k 6 y4|F'=>N';cW (og (Dd' (aR x.2)) (cW (og (Dd' (aR y.2)) (cW (k 6 y3) (k 6 y4))) (cW (dup (.b .l .l) y5) (dup (.b .l .l) y6)))) (cW (cW (og (Dd' (aR x.2)) (dup (.b .l .l) y5)) (og (Dd' (aR x.2)) y5)) (cW (og (Dd' (aR x.2)) (dup (.b .l .l) y6)) (og (Dd' (aR x.2)) y6)))
theorem alf(x y:Bool×List Int):RS im 192 [.d y3Y x,.d y3Y y] (acw x y):=rsX
def Nr(x y:Bool×List Int)(b3_0:Bool)(b3_1:List Int)(b4_0:Bool)(b4_1:List Int)(k:KT):OLR:=match Dd' ((b4_1.length:Int)>0)with|T'=>(og (Dd' (okI (b3_0,b3_1))) (og (Dd' (okI (b4_0,b4_1))) (match lj (b3_0,b3_1)with|T'=>(match lj (b4_0,b4_1)with|T'=>k 24 (iX x y (Am (b3_0,b3_1)) (Am (b4_0,b4_1)))|F'=>(og (Dd' (pi b3_1 b4_1)) (og (Dd' (aR (dvR b3_1 b4_1))) (k 6 (mn x y b4_0 b4_1 ((ah (bZ F' (val (dvR b3_1 b4_1)))).1) ((ah (bZ F' (val (dvR b3_1 b4_1)))).2))))))|F'=>(og (Dd' (pi b3_1 b4_1)) (og (Dd' (aR (dvR b3_1 b4_1))) (k 6 (mn x y b4_0 b4_1 ((ah (bZ F' (val (dvR b3_1 b4_1)))).1) ((ah (bZ F' (val (dvR b3_1 b4_1)))).2))))))))|F'=>(og (Dd' (b3_1.length*4<=140737488355328/\b3_1.length<=140737488355328)) (og (Dd' (aR b3_1)) (S' [RV.d y3Y (ah (bZ F' (val b3_1)))])))
theorem SW(x y:Bool×List Int)(b3_0:Bool)(b3_1:List Int)(b4_0:Bool)(b4_1:List Int):RL im 6 (mn x y b3_0 b3_1 b4_0 b4_1) (Nr x y b3_0 b3_1 b4_0 b4_1):=rlX
def I2(x y:Bool×List Int)(b3_0:Bool)(b3_1:List Int)(b4_0:Bool)(b4_1:List Int)(k:KT):OLR:=match Dd' ((b3_1.length:Int)>0)with|T'=>(og (Dd' (okI (b4_0,b4_1))) (og (Dd' (okI (b3_0,b3_1))) (match lj (b4_0,b4_1)with|T'=>(match lj (b3_0,b3_1)with|T'=>k 24 (iX x y (Am (b4_0,b4_1)) (Am (b3_0,b3_1)))|F'=>(og (Dd' (pi b4_1 b3_1)) (og (Dd' (aR (dvR b4_1 b3_1))) (k 6 (ge x y ((ah (bZ F' (val (dvR b4_1 b3_1)))).1) ((ah (bZ F' (val (dvR b4_1 b3_1)))).2) b3_0 b3_1)))))|F'=>(og (Dd' (pi b4_1 b3_1)) (og (Dd' (aR (dvR b4_1 b3_1))) (k 6 (ge x y ((ah (bZ F' (val (dvR b4_1 b3_1)))).1) ((ah (bZ F' (val (dvR b4_1 b3_1)))).2) b3_0 b3_1)))))))|F'=>(og (Dd' (b4_1.length*4<=140737488355328/\b4_1.length<=140737488355328)) (og (Dd' (aR b4_1)) (S' [RV.d y3Y (ah (bZ F' (val b4_1)))])))
theorem II(x y:Bool×List Int)(b3_0:Bool)(b3_1:List Int)(b4_0:Bool)(b4_1:List Int):RL im 6 (ge x y b3_0 b3_1 b4_0 b4_1) (I2 x y b3_0 b3_1 b4_0 b4_1):=rlX
def vH(x y:Bool×List Int)(s7 s9:Int)(k:KT):OLR:=match Dd' (s9>0)with|T'=>(match Dd' (s9=(0:Int))with|T'=>N'|F'=>k 24 (iX x y s9 (Int.tmod s7 s9)))|F'=>(og (Dd' (iw s7)) (og (Dd' (aR (dig 3 s7))) (S' [RV.d y3Y (ah (bZ F' (val (dig 3 s7))))])))
theorem A4(x y:Bool×List Int)(s7 s9:Int):RL im 24 (iX x y s7 s9) (vH x y s7 s9):=rlX
theorem U9(x y:BI)(B:Nat)(hB:(B:Int)<18446744073709551616):∀(v u:Nat),u<=B->v<=B->im.RunsE 24 (iX x y (u:Int) (v:Int)) [.d y3Y (ah ((Nat.gcd u v:Nat):Int))]:=by
 intro v;induction v using Nat.strongRecOn with
 |ind v ih=>
  intro u hu hv;rcases apJ v with h0|h0
  ·refine A4 _ _ _ _ ⟨0,λn _=>?_⟩;have hp:iw (u:Int):=⟨by omega,by omega⟩
   unfold vH;rw[aoR (show ¬(v:Int)>0 by omega),aoP hp,aoP (jo (n:=3) (by decide) (u:Int)),xz hp,show Nat.gcd u v=u by rw[h0];exact Nat.gcd_zero_right u];rfl
  ·obtain⟨n0,hn⟩:=ih (u%v) (arE _ h0) v hv (ao1 (Nat.le_of_lt (arE _ h0)) hv);refine A4 _ _ _ _ ⟨n0,λn hn'=>?_⟩;unfold vH;rw[aoP (by omega),aoR (by omega),ju (by omega)];dsimp only;rw[show((u:Int)%(v:Int))=((u%v:Nat):Int) by simp,aq2 u v,Nat.gcd_rec v u,aq2];exact hn n hn'
theorem Bp(v:Int):bZ F' v=v:=rfl
theorem i9(u:Nat):ah (u:Int)=(F',ae u):=rfl
theorem AD{u:Nat}(h:(ae u).length<=2):u<=(pw 2).toNat:=by
 have h1:=bU (bV u);rw[bG]at h1;have h2:=dm h;omega
theorem ade:(((pw 2).toNat:Nat):Int)<18446744073709551616:=by decide
theorem GW{k:Nat->Cfg->OLR}{u v:Nat}(hu:szI u<=1000000)(hv:szI v<=1000000){r:List RV}{H:Int->Int->Cfg}{D:Int->Cfg}
  (h1:v=0->r=[.d y3Y (ah (u:Int))]) (h2:v≠0->lj (ah (u:Int))=T'->lj (ah (v:Int))=T'->k 24 (H (u:Int) (v:Int))=S' r) (h3:v≠0->k 6 (D ((u%v:Nat):Int))=S' r) (D':List Int->Cfg) (hD:D' (dvR (ae u) (ae v))=D (val (dvR (ae u) (ae v)))):
  (match Dd' (((ae v).length:Int)>0)with
   |true=>(match decide (okI (ah (u:Int)))with
    |true=>(match decide (okI (ah (v:Int)))with
     |true=>(match lj (ah (u:Int))with
      |true=>(match lj (ah (v:Int))with
       |true=>k 24 (H (Am (ah (u:Int))) (Am (ah (v:Int))))
       |false=>(match decide (pi (ae u) (ae v))with
        |true=>(match decide (aR (dvR (ae u) (ae v)))with
         |true=>k 6 (D' (dvR (ae u) (ae v)))
         |false=>none)
        |false=>none))
      |false=>(match decide (pi (ae u) (ae v))with
        |true=>(match decide (aR (dvR (ae u) (ae v)))with
         |true=>k 6 (D' (dvR (ae u) (ae v)))
         |false=>none)
        |false=>none))
     |false=>none)
    |false=>none)
   |false=>(match decide ((ae u).length*4<=140737488355328/\(ae u).length<=140737488355328)with
    |true=>(match decide (aR (ae u))with
     |true=>some [.d y3Y (ah (bZ false (val (ae u))))]
     |false=>none)
    |false=>none))=some r:=by
 have lu:(ae u).length<=1000000:=by have:=hu;unfold szI at this;rwa [aq3]at this
 have lv:(ae v).length<=1000000:=by have:=hv;unfold szI at this;rwa [aq3]at this
 rcases apJ v with h0|h0
 ·subst h0;rw[h1 rfl,show Dd' (((ae 0).length:Int)>0)=F' from rfl,aoP (show(ae u).length*4<=140737488355328/\(ae u).length<=140737488355328 by omega),aoP (show aR (ae u) from⟨bV u,by omega⟩),bG];rfl
 ·have hne:ae v≠[]:=λe=>by rw[gF]at e;omega
  have hl:=apA.2 hne;have hvv:=bG v;have hvu:=bG u;have hdv:pi (ae u) (ae v):=⟨⟨bV u,by omega⟩,⟨bV v,by omega⟩,by omega⟩
  obtain⟨_,lr,_,sr,_,vr⟩:=aa3 hdv
  have hD2:k 6 (D' (dvR (ae u) (ae v)))=S' r:=by
   rw[hD,vr,hvv,hvu];exact h3 (by omega)
  rw[aoP (by omega),aoP (aT hu),aoP (aT hv),aoP hdv,aoP (show aR (dvR (ae u) (ae v)) from⟨lr,by omega⟩)];dsimp only;cases hb1:lj (ah (u:Int))
  ·exact hD2
  ·cases hb2:lj (ah (v:Int))
   ·exact hD2
   ·dsimp only;have:=h2 (by omega) hb1 hb2;unfold Am;rw[hb1,hb2];simp only[cond_true,i9];rw[hvv,hvu];exact this
theorem Ra(x y:BI):∀(v u:Nat),szI u<=1000000->szI v<=1000000->
  im.RunsE 6 (mn x y F' (ae u) F' (ae v)) [.d y3Y (ah ((Nat.gcd u v:Nat):Int))]/\im.RunsE 6 (ge x y F' (ae v) F' (ae u)) [.d y3Y (ah ((Nat.gcd u v:Nat):Int))]:=by
 intro v;induction v using Nat.strongRecOn with
 |ind v ih=>
  intro u hu hv
  have hw:lj (ah (u:Int))=T'->lj (ah (v:Int))=T'->im.RunsE 24 (iX x y (u:Int) (v:Int)) [.d y3Y (ah ((Nat.gcd u v:Nat):Int))]:=λh1 h2=>by
   unfold lj at h1 h2;rw[i9]at h1 h2;exact U9 x y _ ade v u (AD (aoQ h1)) (AD (aoQ h2))
  have hd:v≠0->im.RunsE 6 (mn x y F' (ae v) F' (ae (u%v))) [.d y3Y (ah ((Nat.gcd u v:Nat):Int))]/\im.RunsE 6 (ge x y F' (ae (u%v)) F' (ae v)) [.d y3Y (ah ((Nat.gcd u v:Nat):Int))]:=λh0=>by
   have hm:=arE u (arq h0);have:=ih (u%v) hm v hv (ao1 (dB (by omega)) hv);rw[aq2 u v,Nat.gcd_rec v u,aq2 (u%v) v];exact this
  have hcommon:∃n0,∀n,n0<=n->(lj (ah (u:Int))=T'->lj (ah (v:Int))=T'->im.k n 24 (iX x y (u:Int) (v:Int))=S' [.d y3Y (ah ((Nat.gcd u v:Nat):Int))])/\(v≠0->im.k n 6 (mn x y F' (ae v) F' (ae (u%v)))=S' [.d y3Y (ah ((Nat.gcd u v:Nat):Int))]/\im.k n 6 (ge x y F' (ae (u%v)) F' (ae v))=S' [.d y3Y (ah ((Nat.gcd u v:Nat):Int))]):=by
   have g1:∃n1,∀n,n1<=n->(lj (ah (u:Int))=T'->lj (ah (v:Int))=T'->im.k n 24 (iX x y (u:Int) (v:Int))=S' [.d y3Y (ah ((Nat.gcd u v:Nat):Int))]):=by
    by_cases hb:lj (ah (u:Int))=T'/\lj (ah (v:Int))=T'
    ·obtain⟨n,h⟩:=hw hb.1 hb.2;exact⟨n,λm hm _ _=>h m hm⟩
    ·exact⟨0,λn _ h1 h2=>absurd ⟨h1,h2⟩ hb⟩
   have g2:∃n1,∀n,n1<=n->(v≠0->im.k n 6 (mn x y F' (ae v) F' (ae (u%v)))=S' [.d y3Y (ah ((Nat.gcd u v:Nat):Int))]/\im.k n 6 (ge x y F' (ae (u%v)) F' (ae v))=S' [.d y3Y (ah ((Nat.gcd u v:Nat):Int))]):=by
    by_cases hb:v=0
    ·exact⟨0,λn _ h=>absurd hb h⟩
    ·obtain⟨⟨n1,h1⟩,⟨n2,h2⟩⟩:=hd hb;exact⟨max n1 n2,λn hn _=>⟨h1 n (by omega),h2 n (by omega)⟩⟩
   obtain⟨n1,h1⟩:=g1;obtain⟨n2,h2⟩:=g2;exact⟨max n1 n2,λn hn=>⟨h1 n (by omega),h2 n (by omega)⟩⟩
  obtain⟨n0,hc⟩:=hcommon;have hz:v=0->([.d y3Y (ah ((Nat.gcd u v:Nat):Int))]:List RV)=[.d y3Y (ah (u:Int))]:=λe=>by subst e;rw[Nat.gcd_zero_right]
  constructor
  ·refine SW _ _ _ _ _ _ ⟨n0,λn hn=>?_⟩;have:=GW (k:=im.k n) hu hv (H:=λa b=>iX x y a b) (D:=λz=>mn x y F' (ae v) (ah z).1 (ah z).2) hz (λ_ h1 h2=>(hc n hn).1 h1 h2) (λh0=>by rw[i9];exact((hc n hn).2 h0).1) (λl=>mn x y F' (ae v) (ah (bZ F' (val l))).1 (ah (bZ F' (val l))).2) rfl;rw[i9,i9]at this;exact this
  ·refine II _ _ _ _ _ _ ⟨n0,λn hn=>?_⟩;have:=GW (k:=im.k n) hu hv (H:=λa b=>iX x y a b) (D:=λz=>ge x y (ah z).1 (ah z).2 F' (ae v)) hz (λ_ h1 h2=>(hc n hn).1 h1 h2) (λh0=>by rw[i9];exact((hc n hn).2 h0).2) (λl=>ge x y (ah (bZ F' (val l))).1 (ah (bZ F' (val l))).2 F' (ae v)) rfl;rw[i9,i9]at this;exact this
theorem KB(x y:BI)(h:okI x/\okI y):CQq7 192 [.d y3Y x,.d y3Y y] [.d y3Y (ah ((Int.gcd (ab x) (ab y):Nat):Int))]:=by
 refine fI L6 (show im.Res _ _ _ from ?_);obtain⟨hx,hy⟩:=h;obtain⟨x0,_,_⟩:=co hx;obtain⟨y0,_,_⟩:=co hy;have ex:((ab x).natAbs:Int)=val x.2:=by rw[bQ];unfold bZ;cases x.1<;>simp<;>omega
 have ey:((ab y).natAbs:Int)=val y.2:=by rw[bQ];unfold bZ;cases y.1<;>simp<;>omega
 have szx:szI ((ab x).natAbs:Int)<=1000000:=ao1 (dB (by omega)) (iG hx);have szy:szI ((ab y).natAbs:Int)<=1000000:=ao1 (dB (by omega)) (iG hy);obtain⟨⟨n1,h1⟩,⟨n2,h2⟩⟩:=Ra x y (ab y).natAbs (ab x).natAbs szx szy;refine alf _ _ ⟨max n1 n2,?_⟩;have h1:=h1 (max n1 n2) (by omega);have h2:=h2 (max n1 n2) (by omega);unfold acw;simp only[dp];rw[aoP (fv hx),aoP (fv hy),Bp,Bp,<-ex,<-ey,i9,i9];dsimp only;rw[h1,h2];simp only[cO];rfl
abbrev BR:=BI×BI
def av(q:Rat):BR:=(ah q.num,ah (q.den:Int))
def ag(x:BR):Rat:=mkRat (ab x.1) (ab x.2).toNat
theorem eP(q:Rat):ag (av q)=q:=by simp[ag,av,dec_enc]
def okR(x:BR):Prop:=okI x.1/\okI x.2/\0<ab x.2/\Int.gcd (ab x.1) (ab x.2)=1/\x.1.2.length<=480000/\x.2.2.length<=480000
instance (x:BR):Decidable (okR x):=by unfold okR;infer_instance
def o1(x:BR):Bool:=Dd' (okR x)
def o2(x y:BR):Bool:=Dd' (okR x/\okR y)
theorem ajP(x:BR):o1 x=Dd' (okR x):=rfl
theorem ang(x y:BR):o2 x y=(Dd' (okR x)&&Dd' (okR y)):=aqW _ _
theorem cM{x:BR}(h:okR x):(ag x).num=ab x.1/\((ag x).den:Int)=ab x.2:=by
 obtain⟨h1,h2,h3,h4,_⟩:=h;unfold ag;rw[arY,arZ]
 have hg:(ab x.2).toNat.gcd (ab x.1).natAbs=1:=by
  rwa [aq2,show(ab x.2).toNat=(ab x.2).natAbs by omega]
 grind
theorem QM{x:BR}(h:okR x):x=av (ag x):=by
 obtain⟨e1,e2⟩:=cM h;unfold av;rw[e1,e2,<-gT h.1,<-gT h.2.1]
def bdR(k:Nat)(q:Rat):Prop:=szI q.num<=k/\szI (q.den:Int)<=k
theorem qA{q:Rat}{k:Nat}(h:bdR k q)(hk:k<=480000):okR (av q):=by
 obtain⟨h1,h2⟩:=h;have hd:=q.den_pos;refine⟨aT (by omega),aT (by omega),?_,?_,by show szI q.num<=480000;omega,by show szI (q.den:Int)<=480000;omega⟩
 ·show 0<ab (ah (q.den:Int));grind [dec_enc]
 ·show Int.gcd (ab (ah q.num)) (ab (ah (q.den:Int)))=1;rw[dec_enc,dec_enc];exact q.reduced
theorem Ch{x:BR}(h:okR x):bdR 480000 (ag x):=by
 obtain⟨e1,e2⟩:=cM h;obtain⟨h1,h2,_,_,h5,h6⟩:=h;unfold bdR szI;rw[e1,e2];rw[gT h1]at h5;rw[gT h2]at h6;exact⟨h5,h6⟩
theorem cd{j k:Nat}{q:Rat}(h:bdR j q)(hk:j<=k):bdR k q:=⟨ao1 h.1 hk,ao1 h.2 hk⟩
theorem KV(a:Int)(g:Nat):(a/(g:Int)).natAbs<=a.natAbs\/¬(g:Int)∣a:=by
 by_cases h:(g:Int)∣a
 ·obtain⟨k,rfl⟩:=h;rcases apJ g with h0|h0
  ·grind
  ·rw[arc _ (by omega),Int.natAbs_mul];simp_all [Nat.le_mul_of_pos_left]
 grind
theorem vV{n:Int}{d k:Nat}(hd:d≠0)(h1:szI n<=k)(h2:szI (d:Int)<=k):bdR k (mkRat n d):=by
 unfold bdR;rw[arY,arZ,aph hd,aph hd];constructor
 ·refine ao1 (dB ?_) h1;grind [KV,Nat.gcd_dvd_right,Int.ofNat_dvd_left]
 ·exact ao1 (dB (by rw[aq3,aq3];exact Nat.div_le_self _ _)) h2
theorem wT{k:Nat}{a:Rat}(h:bdR k a):bdR k (-a):=by
 refine⟨?_,h.2⟩;rw[Rat.neg_num,iW];exact h.1
theorem JL{j k:Nat}{a b:Rat}(ha:bdR j a)(hb:bdR k b):bdR (j+k+1) (a+b):=by
 rw[Rat.add_def'];have d1:=a.den_pos;have d2:=b.den_pos;refine vV (Nat.mul_ne_zero (by omega) (by omega)) (xe (cK ha.1 hb.2) ?_) ?_
 ·rw[Nat.add_comm];exact cK hb.1 ha.2
 ·rw[aqd];exact ao1 (cK ha.2 hb.2) (by omega)
theorem VB{j k:Nat}{a b:Rat}(ha:bdR j a)(hb:bdR k b):bdR (j+k+1) (a-b):=by grind [Rat.sub_eq_add_neg,JL,wT]
theorem Ko{j k:Nat}{a b:Rat}(ha:bdR j a)(hb:bdR k b):bdR (j+k) (a*b):=by
 rw[Rat.mul_def'];have d1:=a.den_pos;have d2:=b.den_pos;refine vV (Nat.mul_ne_zero (by omega) (by omega)) (cK ha.1 hb.1) ?_;exact cK ha.2 hb.2
theorem Xp{k:Nat}{a:Rat}(h:bdR k a)(h0:a≠0):bdR k a⁻¹:=by
 have hn:a.num≠0:=λe=>h0 (Rat.num_eq_zero.1 e);rw[Rat.inv_def];rcases aq4 hn with h1|h1
 ·rw[<-Rat.neg_divInt_neg,show-a.num=(((-a.num).toNat:Nat):Int) by omega,Rat.divInt_ofNat];refine vV (by omega) (by rw[iW];exact h.2) ?_;rw[show(((-a.num).toNat:Nat):Int)= -a.num by omega,iW];exact h.1
 ·rw[show a.num=((a.num.toNat:Nat):Int) by omega,Rat.divInt_ofNat];refine vV (by omega) h.2 ?_;rw[show((a.num.toNat:Nat):Int)=a.num by omega];exact h.1
theorem X6{j k:Nat}{a b:Rat}(ha:bdR j a)(hb:bdR k b)(h0:b≠0):bdR (j+k) (a/b):=by grind [Ko,Xp]
def eT(x y:BI):BR:=av (Rat.divInt (ab x) (ab y))
def jk(x y:BI):Prop:=okI x/\okI y/\ab y≠0
instance (x y:BI):Decidable (jk x y):=by unfold jk;infer_instance
theorem nO{n d:Int}(hd:0<d):av (Rat.divInt n d)=(ah (n/(Int.gcd n d:Int)),ah (d/(Int.gcd n d:Int))):=by
 obtain⟨D,rfl⟩:=ap7 (apv hd);unfold av;rw[Rat.divInt_ofNat,arY,arZ,aph (by omega),aph (by omega)];have e:Int.gcd n (D:Int)=D.gcd n.natAbs:=by rw[aq2];rfl
 grind
def uQ:cE:=spN T' F' [y3Y] (λx=>Dd' (okI x.1)) (λx=>[RV.d ask (b9 (ab x.1) 0)])
theorem qa:SpK 178 uQ:=spX λx h=>B7 x.1 (aoQ h)
def rW:cE:=spN T' F' [y3Y,y3Y] (λx=>Dd' (okI x.1/\okI x.2.1)) (λx=>[RV.d ask (b9 (ab x.1) (ab x.2.1))])
theorem mS:SpK 108 rW:=spX λx h=>CM x.1 x.2.1 (aoQ h)
def vc:cE:=spN F' F' [y3Y] (λx=>Dd' (okI x.1)) (λx=>[RV.d y3Y (ah (-ab x.1))])
theorem oV:SpK 273 vc:=spX λx h=>C7 x.1 (aoQ h)
def ut:cE:=spN F' F' [y3Y,y3Y] (λx=>Dd' (okI x.1/\okI x.2.1)) (λx=>[RV.d y3Y (ah (ab x.1*ab x.2.1))])
theorem pH:SpK 109 ut:=spX λx h=>Ef x.1 x.2.1 (aoQ h)
def Ce:cE:=spN F' F' [y3Y,y3Y] (λx=>Dd' (fa x.1 x.2.1)) (λx=>[RV.d y3Y (ah (ab x.1/ab x.2.1)),RV.d y3Y (ah (ab x.1%ab x.2.1)),RV.d ask 0])
theorem Ac:SpK 321 Ce:=spX λx h=>Kf x.1 x.2.1 (aoQ h)
def HG:cE:=spN F' F' [y3Y,y3Y] (λx=>Dd' (okI x.1/\okI x.2.1)) (λx=>[RV.d y3Y (ah ((Int.gcd (ab x.1) (ab x.2.1):Nat):Int))])
theorem G5:SpK 192 HG:=spX λx h=>KB x.1 x.2.1 (aoQ h)
def Jd:Env:=[(269,pe),(178,uQ),(108,rW),(202,pC),(273,vc),(109,ut),(321,Ce),(192,HG)]
theorem BM:EnvAll Tryz.prog Jd:=⟨kR,qa,mS,kv,oV,pH,Ac,G5,trivial⟩
def aj2:Ctx:=CX Jd []
def abe(_k:KT):OLR:=og (Dd' (bI (1:Int))) (S' [RV.d y3Y (ah (1:Int))])
theorem ajA:RS aj2 193 [] (abe):=rsX
def ajR:Ctx:=CX Jd []
def acF(x y:Bool×List Int)(_k:KT):OLR:=og (Dd' (fa x y)) (S' [RV.d y3Y (ah (ab x/ab y))])
theorem alx(x y:Bool×List Int):RS ajR 275 [.d y3Y x,.d y3Y y] (acF x y):=rsX
theorem Jg:CQq7 193 [] [.d y3Y (ah 1)]:=by
 refine fI BM (ajA ⟨0,?_⟩);unfold abe;rw[aoP (show bI 1 by decide)]
theorem V9(x y:BI)(h:fa x y):CQq7 275 [.d y3Y x,.d y3Y y] [.d y3Y (ah (ab x/ab y))]:=by
 refine fI BM (alx _ _ ⟨0,?_⟩);unfold acF;rw[aoP h]
def yI:cE:=spN F' F' [] (λ_=>T') (λ_=>[RV.d y3Y (ah 1)])
theorem ti:SpK 193 yI:=spX λ_ _=>Jg
def UX:cE:=spN F' F' [y3Y,y3Y] (λx=>Dd' (fa x.1 x.2.1)) (λx=>[RV.d y3Y (ah (ab x.1/ab x.2.1))])
theorem P9:SpK 275 UX:=spX λx h=>V9 x.1 x.2.1 (aoQ h)
def Rc:Env:=[(269,pe),(178,uQ),(108,rW),(202,pC),(273,vc),(109,ut),(321,Ce),(192,HG),(193,yI),(275,UX)]
theorem LW:EnvAll Tryz.prog Rc:=⟨kR,qa,mS,kv,oV,pH,Ac,G5,ti,P9,trivial⟩
def ajC:Ctx:=CX Rc []
def ZU(x y:Bool×List Int)(_k:KT):OLR:=match Dd' (okI y)with|T'=>(match Dd' ((b9 (ab y) 0)<0)with|T'=>(match Dd' (okI x)with|T'=>(match Dd' (okI y)with|T'=>(match Dd' (okI (ah (-ab x))/\okI (ah (-ab y)))with|T'=>(match Dd' (okI (ah ((Int.gcd (ab (ah (-ab x))) (ab (ah (-ab y))):Nat):Int))/\okI (ah 1))with|T'=>(match(b9 (ab (ah ((Int.gcd (ab (ah (-ab x))) (ab (ah (-ab y))):Nat):Int))) (ab (ah 1))) !=0 with|T'=>(match Dd' (fa (ah (-ab x)) (ah ((Int.gcd (ab (ah (-ab x))) (ab (ah (-ab y))):Nat):Int)))with|T'=>(match Dd' (fa (ah (-ab y)) (ah ((Int.gcd (ab (ah (-ab x))) (ab (ah (-ab y))):Nat):Int)))with|T'=>S' [RV.d (.st (.pair y3Y y3Y)) ((ah (ab (ah (-ab x))/ab (ah ((Int.gcd (ab (ah (-ab x))) (ab (ah (-ab y))):Nat):Int)))),(ah (ab (ah (-ab y))/ab (ah ((Int.gcd (ab (ah (-ab x))) (ab (ah (-ab y))):Nat):Int)))))]|F'=>N')|F'=>N')|F'=>S' [RV.d (.st (.pair y3Y y3Y)) ((ah (-ab x)),(ah (-ab y)))])|F'=>N')|F'=>N')|F'=>N')|F'=>N')|F'=>(match Dd' (okI x/\okI y)with|T'=>(match Dd' (okI (ah ((Int.gcd (ab x) (ab y):Nat):Int))/\okI (ah 1))with|T'=>(match(b9 (ab (ah ((Int.gcd (ab x) (ab y):Nat):Int))) (ab (ah 1))) !=0 with|T'=>(match Dd' (fa x (ah ((Int.gcd (ab x) (ab y):Nat):Int)))with|T'=>(match Dd' (fa y (ah ((Int.gcd (ab x) (ab y):Nat):Int)))with|T'=>S' [RV.d (.st (.pair y3Y y3Y)) ((ah (ab x/ab (ah ((Int.gcd (ab x) (ab y):Nat):Int)))),(ah (ab y/ab (ah ((Int.gcd (ab x) (ab y):Nat):Int)))))]|F'=>N')|F'=>N')|F'=>S' [RV.d (.st (.pair y3Y y3Y)) (x,y)])|F'=>N')|F'=>N'))|F'=>N'
theorem ahu(x y:Bool×List Int):RS ajC 201 [.d y3Y x,.d y3Y y] (ZU x y):=rsX
theorem OA{a b:Int}(hb:b≠0){k:Nat}(h:szI b<=k):szI ((Int.gcd a b:Nat):Int)<=k:=by
 refine ao1 (dB ?_) h;exact Nat.le_of_dvd (by omega) (Nat.gcd_dvd_right a.natAbs b.natAbs)
theorem J9(x y:BI)(h:jk x y):CQq7 201 [.d y3Y x,.d y3Y y] [.d (.st (.pair y3Y y3Y)) (eT x y)]:=by
 refine fI LW (ahu _ _ ⟨0,?_⟩);obtain⟨hx,hy,hne⟩:=h;have sx:=iG hx;have sy:=iG hy;have hgp:0<Int.gcd (ab x) (ab y):=arq λe=>hne (Int.gcd_eq_zero_iff.1 e).2;have hgs:=OA (a:=ab x) hne sy;unfold ZU eT;rw[aoP hy];dsimp only;rcases aq4 hne with hn|hn
 ·rw[da hn,aoP (show(-1:Int)<0 by decide),aoP hx];have o1:okI (ah (-ab x)):=aT (by rw[iW];exact sx);have o2:okI (ah (-ab y)):=aT (by rw[iW];exact sy);simp only[dec_enc,Int.gcd_neg,Int.neg_gcd];have og:okI (ah ((Int.gcd (ab x) (ab y):Nat):Int)):=aT hgs;rw[aoP (show okI (ah (-ab x))/\okI (ah (-ab y)) from⟨o1,o2⟩),aoP (show okI (ah ((Int.gcd (ab x) (ab y):Nat):Int))/\okI (ah 1) from⟨og,lO⟩)];rw[<-Rat.neg_divInt_neg,nO (by omega),Int.gcd_neg,Int.neg_gcd];dsimp only;by_cases h1:Int.gcd (ab x) (ab y)=1
  ·rw[h1];simp[dU]
  ·have hc:(b9 ((Int.gcd (ab x) (ab y):Nat):Int) 1 !=0)=true:=by
    rw[cH (by omega)];rfl
   rw[hc,aoP (show fa (ah (-ab x)) (ah ((Int.gcd (ab x) (ab y):Nat):Int)) from⟨o1,og,by rw[dec_enc];omega⟩),aoP (show fa (ah (-ab y)) (ah ((Int.gcd (ab x) (ab y):Nat):Int)) from⟨o2,og,by rw[dec_enc];omega⟩)]
 ·rw[cH hn,aoR (show ¬(1:Int)<0 by decide)];simp only[dec_enc];have og:okI (ah ((Int.gcd (ab x) (ab y):Nat):Int)):=aT hgs;rw[aoP (show okI x/\okI y from⟨hx,hy⟩),aoP (show okI (ah ((Int.gcd (ab x) (ab y):Nat):Int))/\okI (ah 1) from⟨og,lO⟩),nO hn];dsimp only;by_cases h1:Int.gcd (ab x) (ab y)=1
  ·rw[h1];simp only[Int.natCast_one,dU,Int.ediv_one,<-gT hx,<-gT hy];rfl
  ·have hc:(b9 ((Int.gcd (ab x) (ab y):Nat):Int) 1 !=0)=true:=by
    rw[cH (by omega)];rfl
   rw[hc,aoP (show fa x (ah ((Int.gcd (ab x) (ab y):Nat):Int)) from⟨hx,og,by rw[dec_enc];omega⟩),aoP (show fa y (ah ((Int.gcd (ab x) (ab y):Nat):Int)) from⟨hy,og,by rw[dec_enc];omega⟩)]
end Go.Proofs.YtoimchcjhdcdmaaGreat
end
