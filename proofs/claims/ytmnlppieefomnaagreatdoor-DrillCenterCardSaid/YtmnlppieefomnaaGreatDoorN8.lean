/- integer: divide, restore, the guess, the loop. -/
import Derived.Test.YtmnlppieefomnaaGreatDoorN7
noncomputable section
namespace Go.Proofs.YtmnlppieefomnaaGreatDoor
open Go.RowKit Go.IntKind
theorem amW:type_of% @beq_iff_eq:=@beq_iff_eq
theorem am1:type_of% @List.length_pos_iff:=@List.length_pos_iff
theorem anQ:type_of% @Int.eq_ofNat_of_zero_le:=@Int.eq_ofNat_of_zero_le
theorem aoe:type_of% @Int.ediv_le_self:=@Int.ediv_le_self
theorem aol:type_of% @Bool.decide_and:=@Bool.decide_and
theorem aoq:type_of% @Nat.gcd_comm:=@Nat.gcd_comm
theorem aor:type_of% @Int.natAbs_natCast:=@Int.natAbs_natCast
theorem aos:type_of% @Int.lt_or_lt_of_ne:=@Int.lt_or_lt_of_ne
theorem apj:type_of% @Rat.num_mkRat:=@Rat.num_mkRat
theorem apk:type_of% @Rat.den_mkRat:=@Rat.den_mkRat
theorem app:type_of% @Int.mul_neg:=@Int.mul_neg
section
section
variable (b:List Int) (x2:Int) (v:List Int) (m:Nat) (hN:(ae (val b).toNat).length=m+2) (hv:ae (val (dig ((ae (val b).toNat).length+([u32.wrap (u64.wrap (Int.tdiv 1000000000 (u64.wrap ((u64.wrap x2)+1))))]).length) (val (ae (val b).toNat)*val ([u32.wrap (u64.wrap (Int.tdiv 1000000000 (u64.wrap ((u64.wrap x2)+1))))])))).toNat=v) (lv:Lim v) (hvl:v.length=m+2)
include hN hv lv hvl
theorem RQ(k:Nat)(r0 r5:List Int)(f:Int)(hk:k+(m+2)+1<=r0.length)(hsz:r0.length<=4000000000)(R:List RV)
  (hend:∀r c,Lim r->r.length=r0.length->r.take k=r0.take k->r.drop (k+(m+2)+1)=r0.drop (k+(m+2)+1)->0<=c->c<=1->val r=val r0+pw k*val v-pw (k+(m+2)+1)*c->∃q,d7 b x2 (k:Int) r5 f c ((m+2+1:Nat):Int) r (ge.k q)=some R):
  ∀(j i:Nat) (c:Int) (r:List Int),i+j=m+2+1->0<=c->c<=1->Lim r->r.length=r0.length->r.take k=r0.take k->r.drop (k+(m+2)+1)=r0.drop (k+(m+2)+1)->
   val r=val r0+pw k*val (v.take i)-pw (k+i)*c->ge.Runs 5 (dA b x2 (k:Int) r5 f c (i:Int) r) R:=by
 have e1:i64.wrap ((k:Int)+((m+2:Nat):Int))=((k+(m+2):Nat):Int):=by rw[aO (by omega) (by omega)];simp
 have e2:i64.wrap (((k+(m+2):Nat):Int)+1)=((k+(m+2)+1:Nat):Int):=aT (by omega);have e3:k+(m+2)+1-k=m+2+1:=by omega
 intro j;induction j with
 |zero=>
  intro i c r hi c0 c1 lr hl ht hd hval;obtain rfl:i=m+2+1:=by omega
  rw[anj (by omega)]at hval;refine fx _ _ _ _ _ _ _ _ ?_;exact hend r c lr hl ht hd c0 c1 hval
 |succ j ih=>
  intro i c r hi c0 c1 lr hl ht hd hval;have hir:k+i<r.length:=by omega
  have xr:=lr.get hir;have hwi:decide ((0:Int)<=(i:Int)/\(i:Int)<((m+2+1:Nat):Int))=true:=amh (by omega);have hlt:decide ((i:Int)<((m+2+1:Nat):Int))=true:=amh (by omega);have hw:=hv
  have step:∀(c' y d:Int),0<=c'->c'<=1->0<=y->y<1000000000->y=r[k+i]+c+d-1000000000*c'->val (v.take (i+1))=val (v.take i)+pw i*d->
    ge.Runs 5 (dA b x2 (k:Int) r5 f c' ((i+1:Nat):Int) (r.set (k+i) y)) R:=by
   intro c' y d k0 k1 y0 y1 hy hp;refine ih (i+1) c' (r.set (k+i) y) (by omega) k0 k1 (lr.set _ ⟨y0,y1⟩) (by simpa using hl) (by rw[vH];exact ht) (by rw[vE _ (by omega)];exact hd) ?_;rw[eV hir,hval,hy,hp,show k+(i+1)=k+i+1 by omega,bW,fc];grind
  by_cases hiv:i<m+2
  ·have hiv':i<v.length:=by omega
   have xv:=lv.get hiv';have hpv:=bg hiv';by_cases hc2:r[k+i]+c+v[i]>=1000000000
   ·obtain⟨q,hq⟩:=step 1 (r[k+i]+c+v[i]-1000000000) v[i] (by omega) (by omega) (by omega) (by omega) (by omega) hpv;refine fx _ _ _ _ _ _ _ _ ⟨q,?_⟩;unfold d7;rw[hw,hN,e1,e2,aC,aC,e3,hlt,hwi,hvl,aK hiv,ai v i,amg hiv',aC,amg hir];dsimp only;rw[cY (x:=r[k+i]+c) (by omega) (by omega),cY (x:=r[k+i]+c+v[i]) (by omega) (by omega),amh hc2,cY (x:=r[k+i]+c+v[i]-1000000000) (by omega) (by omega),aT (k:=i) (by omega)];exact hq
   ·obtain⟨q,hq⟩:=step 0 (r[k+i]+c+v[i]) v[i] (by omega) (by omega) (by omega) (by omega) (by omega) hpv;refine fx _ _ _ _ _ _ _ _ ⟨q,?_⟩;unfold d7;rw[hw,hN,e1,e2,aC,aC,e3,hlt,hwi,hvl,aK hiv,ai v i,amg hiv',aC,amg hir];dsimp only;rw[cY (x:=r[k+i]+c) (by omega) (by omega),cY (x:=r[k+i]+c+v[i]) (by omega) (by omega),ami hc2,aT (k:=i) (by omega)];exact hq
  ·have hpz:val (v.take (i+1))=val (v.take i)+pw i*0:=by rw[kq (by omega)];simp
   by_cases hc2:r[k+i]+c>=1000000000
   ·obtain⟨q,hq⟩:=step 1 (r[k+i]+c-1000000000) 0 (by omega) (by omega) (by omega) (by omega) (by omega) hpz;refine fx _ _ _ _ _ _ _ _ ⟨q,?_⟩;unfold d7;rw[hw,hN,e1,e2,aC,aC,e3,hlt,hwi,hvl,aX (show m+2<=i by omega),aC,amg hir];dsimp only;rw[cY (x:=r[k+i]+c) (by omega) (by omega),amh hc2,cY (x:=r[k+i]+c-1000000000) (by omega) (by omega),aT (k:=i) (by omega)];exact hq
   ·obtain⟨q,hq⟩:=step 0 (r[k+i]+c) 0 (by omega) (by omega) (by omega) (by omega) (by omega) hpz;refine fx _ _ _ _ _ _ _ _ ⟨q,?_⟩;unfold d7;rw[hw,hN,e1,e2,aC,aC,e3,hlt,hwi,hvl,aX (show m+2<=i by omega),aC,amg hir];dsimp only;rw[cY (x:=r[k+i]+c) (by omega) (by omega),ami hc2,aT (k:=i) (by omega)];exact hq
theorem Gd(k:Nat)(r1 r5:List Int)(hk:k+m+3<=r1.length)(hsz:r1.length<=4000000000)(R:List RV)(K:Kn (win k (m+2) r1) (val v) r1[k+m+2] r1[k+m+1] r1[k+m] v[m+1] v[m])
  (hafter:∀g,0<=g->g<1000000000->win k (m+2) r1<(g+1)*val v->g*val v<win k (m+2) r1+val v->ge.Runs 8 (cU b x2 (k:Int) r5 g g 0 0 0 r1) R):
  ∀(fuel:Nat) (g rest:Int),g<=(fuel:Int)->0<=g->g<=2000000000->0<=rest->rest<1000000000->g*v[m+1]+rest=r1[k+m+2]*1000000000+r1[k+m+1]->win k (m+2) r1<(g+1)*val v->ge.Runs 49 (nz b x2 (k:Int) r1 r5 g rest) R:=by
 have _lv:=lv;have e1:i64.wrap ((k:Int)+((m+2:Nat):Int))=((k+m+2:Nat):Int):=by rw[aO (by omega) (by omega)];simp;omega
 have e2:i64.wrap (((k+m+2:Nat):Int)+1)=((k+m+3:Nat):Int):=by rw[aO (by omega) (by omega)];simp;omega
 have e3:i64.wrap (((m+2:Nat):Int)-1)=((m+1:Nat):Int):=by rw[aO (by omega) (by omega)];omega
 have e4:i64.wrap (((m+2:Nat):Int)-2)=((m:Nat):Int):=by rw[aO (by omega) (by omega)];omega
 have e5:i64.wrap (((k+m+2:Nat):Int)-2)=((k+m:Nat):Int):=by rw[aO (by omega) (by omega)];omega
 have hsl:decide ((0:Int)<=(k:Int)/\(k:Int)<=((k+m+3:Nat):Int)/\((k+m+3:Nat):Int)<=(r1.length:Int))=true:=amh (by omega);have hV:=K.pos;have htop:=K.top;have ku2:=K.u2;have ku1:=K.u1;have ku0:=K.u0;have kv1:=K.v1;have kv0:=K.v0;intro fuel;induction fuel with
 |zero=>
  intro g rest hf g0 gB r0 r1' he hlt;obtain rfl:g=0:=by omega
  obtain⟨q,hq⟩:=hafter 0 (by omega) (by omega) hlt (by have:=hlt;have:=K.small (g:=0) (rest:=rest) (by omega) (by omega) he (by omega);omega);refine pW _ _ _ _ _ _ _ ⟨q,?_⟩;unfold mU;rw[ami (by omega),hv,hN,e1,e2,e4,e5,ai v m,amg (by omega),ai r1 (k+m),aC,amg (show k+m<r1.length by omega)];dsimp only;rw[bH (x:=v[m]) (by omega) (by omega),Int.zero_mul,bH (x:=0) (by omega) (by omega),bH (x:=rest*1000000000) (by omega) (by omega),bH (x:=r1[k+m]) (by omega) (by omega),bH (x:=rest*1000000000+r1[k+m]) (by omega) (by omega),ami (by omega),hsl];exact hq
 |succ fuel ih=>
  intro g rest hf g0 gB rr0 rr1 he hlt
  have down:win k (m+2) r1<g*val v->∃q,(match decide (u64.wrap (rest+u64.wrap v[m+1])>=1000000000)with|true=>ge.k q 8 (cU b x2 (k:Int) r5 (u64.wrap (g-1)) (u64.wrap (g-1)) 0 0 0 r1)|false=>ge.k q 49 (nz b x2 (k:Int) r1 r5 (u64.wrap (g-1)) (u64.wrap (rest+u64.wrap v[m+1]))))=some R:=by
   intro hw
   have gp:1<=g:=by
    rcases amM 0 g with h|h
    ·exact h
    ·exfalso;have hg:g=0:=by omega
     subst hg;rw[Int.zero_mul]at hw;obtain⟨⟨P,wl,vl,p0,a1,a2,b1,b2,hw',hV'⟩,_⟩:=K;have:=anc (amY p0) (show 0<=r1[k+m]+1000000000*r1[k+m+1]+1000000000*1000000000*r1[k+m+2] by omega);omega
   have he':(g-1)*v[m+1]+(rest+v[m+1])=r1[k+m+2]*1000000000+r1[k+m+1]:=by rw[<-he];grind
   have hw':win k (m+2) r1<(g-1+1)*val v:=by rw[show g-1+1=g by omega];exact hw
   rw[bH (x:=v[m+1]) (by omega) (by omega),bH (x:=rest+v[m+1]) (by omega) (by omega),bH (x:=g-1) (by omega) (by omega)];by_cases hb:rest+v[m+1]>=1000000000
   ·have gl:g-1<1000000000:=by
     rcases amM (g-1) 1000000000 with h|h
     ·exact h
     ·exfalso;have e1:=amu h (show 0<=v[m+1] by omega);have e2:=amu htop (show(0:Int)<=1000000000 by decide);omega
    have e1:(g-1)*v[m]<=1000000000*1000000000:=aox (by omega) (by omega) (by omega) (by decide);obtain⟨q,hq⟩:=hafter (g-1) (by omega) gl hw' (K.small (by omega) (by omega) he' (by omega));exact⟨q,by rw[amh hb];exact hq⟩
   ·obtain⟨q,hq⟩:=ih (g-1) (rest+v[m+1]) (by omega) (by omega) (by omega) (by omega) (by omega) he' hw';exact⟨q,by rw[ami hb];exact hq⟩
  by_cases hgB:g>=1000000000
  ·obtain⟨q,hq⟩:=down (by
    have h1:=K.lt;have:=amu hgB (amY hV);rw[aoa]at h1;omega)
   refine pW _ _ _ _ _ _ _ ⟨q,?_⟩;unfold mU;rw[amh hgB,hv,hN,e1,e2,e3,ai v (m+1),amg (show m+1<v.length by omega),hsl];exact hq
  ·have hgv:g*v[m]<=1000000000*1000000000:=aox (by omega) (by omega) (by omega) (by decide);have hgv0:0<=g*v[m]:=anc g0 (by omega);by_cases hc:g*v[m]>rest*1000000000+r1[k+m]
   ·obtain⟨q,hq⟩:=down (K.great g0 he hc);refine pW _ _ _ _ _ _ _ ⟨q,?_⟩;unfold mU;rw[ami hgB,hv,hN,e1,e2,e3,e4,e5,ai v m,amg (show m<v.length by omega),ai v (m+1),amg (show m+1<v.length by omega),ai r1 (k+m),aC,amg (show k+m<r1.length by omega),hsl];dsimp only;rw[bH (x:=v[m]) (by omega) (by omega),bH (x:=g*v[m]) (by omega) (by omega),bH (x:=rest*1000000000) (by omega) (by omega),bH (x:=r1[k+m]) (by omega) (by omega),bH (x:=rest*1000000000+r1[k+m]) (by omega) (by omega),amh hc];exact hq
   ·obtain⟨q,hq⟩:=hafter g g0 (by omega) hlt (K.small g0 (by omega) he (by omega));refine pW _ _ _ _ _ _ _ ⟨q,?_⟩;unfold mU;rw[ami hgB,hv,hN,e1,e2,e4,e5,ai v m,amg (show m<v.length by omega),ai r1 (k+m),aC,amg (show k+m<r1.length by omega),hsl];dsimp only;rw[bH (x:=v[m]) (by omega) (by omega),bH (x:=g*v[m]) (by omega) (by omega),bH (x:=rest*1000000000) (by omega) (by omega),bH (x:=r1[k+m]) (by omega) (by omega),bH (x:=rest*1000000000+r1[k+m]) (by omega) (by omega),ami hc];exact hq
end
end
section
section
variable (b:List Int) (x2:Int) (v:List Int) (m:Nat) (hN:(ae (val b).toNat).length=m+2) (hv:ae (val (dig ((ae (val b).toNat).length+([u32.wrap (u64.wrap (Int.tdiv 1000000000 (u64.wrap ((u64.wrap x2)+1))))]).length) (val (ae (val b).toNat)*val ([u32.wrap (u64.wrap (Int.tdiv 1000000000 (u64.wrap ((u64.wrap x2)+1))))])))).toNat=v) (lv:Lim v) (hvl:v.length=m+2)
include hN hv lv hvl
set_option maxHeartbeats 2000000 in
theorem My(sc:Int)(hsc:u32.wrap (u64.wrap (Int.tdiv 1000000000 (u64.wrap ((u64.wrap x2)+1))))=sc)(hs1:1<=sc)(hs2:sc<=500000000)(htop:500000000<=v[m+1])(A:Int):
  ∀(M:Nat) (r5 r1:List Int),Lim r5->Lim r1->r1.length=r5.length+(m+2)->r1.length<=1000000000->M<=r5.length->val v*val r5+val r1=A->(∀j (hj:j<r5.length),j<M->r5[j]=0)->val r1<val v*pw M->
   ∃qL rL,(Lim qL/\Lim rL/\qL.length=r5.length/\rL.length<=m+2/\val qL=A/val v/\val rL=A%val v/sc)/\ge.Runs 34 (qi b x2 ((M:Int)-1) r5 r1) [.d apD qL,.d apD rL]:=by
 have hVlt:=bU lv;rw[hvl]at hVlt
 have hV0:0<val v:=by
  rw[D7 hvl];have h1:=aL (lv.take m);have h2:=lv.get (show m<v.length by omega);have h3:=Int.mul_pos (cg m) (show 0<v[m]+1000000000*v[m+1] by omega);omega
 intro M;induction M with
 |zero=>
  intro r5 r1 l5 l1 hlen hsz hM hA hz hlt;rw[n6,aoW]at hlt;have h0:=aL l1;have eQ:A/val v=val r5:=by rw[<-hA,apf,an9 _ _ (by omega),anp h0 hlt];omega
  have eR:A%val v=val r1:=by rw[<-hA,apf,aon];exact aoz h0 hlt
  have ht:val (r1.take (m+2))=val r1:=by
   have hs:=fH r1 (m+2);rw[amZ (by omega)]at hs;have h2:=aL (l1.drop (m+2));have h3:=aL (l1.take (m+2));rcases amM 0 (val (r1.drop (m+2)))with hc|hc
   ·have:=amo (show 1<=val (r1.drop (m+2)) by omega) (amY (cg (m+2)));omega
   ·have e:val (r1.drop (m+2))=0:=by omega
    rw[e]at hs;omega
  have hlX:(ae (val r1).toNat).length<=m+2:=dh (by omega);have hX:=bG (val r1).toNat
  have hXv:val (ae (val r1).toNat)=val r1:=by omega
  have hd0:0<=val r1/sc:=anh h0 (by omega);have hd1:val r1/sc<=val r1:=aoe _ h0;have hXl:=bU (bS (val r1).toNat);refine⟨r5,dig (ae (val r1).toNat).length (val r1/sc),⟨l5,n4 _ _,rfl,by rw[iW];exact hlX,eQ.symm,by rw[eR,gN _ _ hd0 (by omega)]⟩,AQ _ _ _ _ _ ⟨0,?_⟩⟩;unfold un
  rw[ami (by omega),hN,hsc,aC,show(0:Int).toNat=0 from rfl,apu,an3,amh (show(0:Int)<=0/\(0:Int)<=((m+2:Nat):Int)/\((m+2:Nat):Int)<=(r1.length:Int) by omega),ht,hXv,
   amh (show aN (r1.take (m+2)) from⟨l1.take _,by rw[amV];omega⟩),amh (show E8 (ae (val r1).toNat) sc from⟨⟨bS _,by omega⟩,hs1,by omega⟩)]
 |succ k ih=>
  intro r5 r1 l5 l1 hlen hsz hM hA hz hlt;have hk3:k+(m+2)+1<=r1.length:=by omega
  have hP:=cg k;have hr0:=aL l1
  have hz1:val (r1.drop (k+(m+2)+1))=0:=by
   have hs:=fH r1 (k+(m+2)+1);rw[amZ hk3]at hs;have h2:=aL (l1.drop (k+(m+2)+1));have h3:=aL (l1.take (k+(m+2)+1));rcases amM 0 (val (r1.drop (k+(m+2)+1)))with hc|hc
   ·exfalso;have e1:=amo (show 1<=val (r1.drop (k+(m+2)+1)) by omega) (amY (cg (k+(m+2)+1)));have e2:=amu (amY hVlt) (amY (cg (k+1)));rw[<-fc,show m+2+(k+1)=k+(m+2)+1 by omega]at e2;omega
   ·omega
  have hw1:=H6 hk3 hz1;have hwb:=OP l1 hk3
  have hwlt:win k (m+2) r1<val v*1000000000:=by
   rcases amM (win k (m+2) r1) (val v*1000000000)with hc|hc
   ·exact hc
   ·exfalso;have e1:=amo hc (amY hP);have e2:=aL (l1.take k);have e3:val v*pw (k+1)=pw k*(val v*1000000000):=by rw[bW];grind
    omega
  have K:=ah8 lv hvl l1 (show k+m+3<=r1.length by omega) htop hwlt;have htk:=bU (l1.take k);rw[amV,amZ (by omega)]at htk;have htk0:=aL (l1.take k);have hk5:k<r5.length:=by omega
  have hr5:=hz k hk5 (by omega);have e1:i64.wrap ((k:Int)+((m+2:Nat):Int))=((k+(m+2):Nat):Int):=by rw[aO (by omega) (by omega)];simp
  have e2:i64.wrap (((k+(m+2):Nat):Int)+1)=((k+(m+2)+1:Nat):Int):=aT (by omega);have e3:k+(m+2)+1-k=m+2+1:=by omega
  have fin:∀(d:Int) (r:List Int),0<=d->d<1000000000->Lim r->r.length=r1.length->r.take k=r1.take k->r.drop (k+(m+2)+1)=r1.drop (k+(m+2)+1)->val r=val r1-pw k*(d*val v)->win k (m+2) r1-d*val v<val v->
    ∃qL rL,(Lim qL/\Lim rL/\qL.length=r5.length/\rL.length<=m+2/\val qL=A/val v/\val rL=A%val v/sc)/\ge.Runs 34 (qi b x2 ((k:Int)-1) (r5.set k d) r) [.d apD qL,.d apD rL]:=by
   intro d r d0 d1 lr hl ht hd hval hwd
   obtain⟨qL,rL,⟨a1,a2,a3,a4,a5,a6⟩,a7⟩:=ih (r5.set k d) r (l5.set k ⟨d0,d1⟩) lr (by simp;omega) (by omega) (by simp;omega) (by
     rw[eV hk5,hr5,hval,<-hA];grind) (λj hj hjk=>by rw[anE (by omega)];exact hz j (by simpa using hj) (by omega)) (by
     rw[hval,hw1];have e4:=amo (show win k (m+2) r1-d*val v<=val v-1 by omega) (amY hP);rw[Int.mul_sub,Int.mul_sub,aoW]at e4;rw[aoa (val v)];omega)
   exact⟨qL,rL,⟨a1,a2,by simpa using a3,a4,a5,a6⟩,a7⟩
  have wof:∀(r:List Int) (x:Int),Lim r->r.length=r1.length->r.take k=r1.take k->r.drop (k+(m+2)+1)=r1.drop (k+(m+2)+1)->val r=val r1+pw k*x->win k (m+2) r=win k (m+2) r1+x/\0<=win k (m+2) r/\win k (m+2) r<pw (m+2+1):=by
   intro r x lr hl ht hd hval;have h1:=H6 (k:=k) (n:=m+2) (r:=r) (by omega) (by rw[hd];exact hz1);rw[ht]at h1;have h2:=OP (k:=k) (n:=m+2) lr (by omega);refine⟨?_,h2⟩;have:pw k*win k (m+2) r=pw k*(win k (m+2) r1+x):=by rw[apz];omega
   exact Int.eq_of_mul_eq_mul_left (by omega) this
  have hpw:pw (k+(m+2)+1)=pw k*pw (m+2+1):=by rw[<-fc];congr 1
  have xt:=K.u2;have xt1:=K.u1;have xv:=K.v1;have hg0:0<=(r1[k+m+2]*1000000000+r1[k+m+1])/v[m+1]:=anh (by omega) (by omega)
  have hg1:(r1[k+m+2]*1000000000+r1[k+m+1])/v[m+1]<2000000000:=anL (by omega) (by
   have:=amo xv.1 (show(0:Int)<=2000000000 by decide);omega)
  have md:=am3 (r1[k+m+2]*1000000000+r1[k+m+1]) v[m+1];have m0:=ans (r1[k+m+2]*1000000000+r1[k+m+1]) (show v[m+1]≠0 by omega);have m1:=am4 (r1[k+m+2]*1000000000+r1[k+m+1]) (show 0<v[m+1] by omega)
  have key:∃qL rL,(Lim qL/\Lim rL/\qL.length=r5.length/\rL.length<=m+2/\val qL=A/val v/\val rL=A%val v/sc)/\ge.Runs 49 (nz b x2 (k:Int) r1 r5 ((r1[k+m+2]*1000000000+r1[k+m+1])/v[m+1]) ((r1[k+m+2]*1000000000+r1[k+m+1])%v[m+1])) [.d apD qL,.d apD rL]:=by
   have hex:∃g,0<=g/\g<1000000000/\g*val v<=win k (m+2) r1/\win k (m+2) r1<(g+1)*val v:=by
    have h1:=am3 (win k (m+2) r1) (val v);have h2:=ans (win k (m+2) r1) (show val v≠0 by omega);have h3:=am4 (win k (m+2) r1) hV0;refine⟨win k (m+2) r1/val v,anh hwb.1 (by omega),anL hV0 (by rw[aoa];exact hwlt),?_,?_⟩
    ·rw[aoa];omega
    ·rw[Int.add_mul,apo,aoa];omega
   obtain⟨d,d0,d1,d2,d3⟩:=hex;have dv0:0<=d*val v:=anc d0 (by omega)
   have hrow:∃r,Lim r/\r.length=r1.length/\r.take k=r1.take k/\r.drop (k+(m+2)+1)=r1.drop (k+(m+2)+1)/\val r=val r1-pw k*(d*val v):=by
    refine⟨r1.take k++(dig (m+2+1) (win k (m+2) r1-d*val v)++r1.drop (k+(m+2)+1)),(l1.take k).append ((n4 _ _).append (l1.drop _)),by simp[iW];omega,?_,?_,?_⟩
    ·rw[List.take_append_of_le_length (by simp;omega),ao8,Nat.min_self]
    ·rw[<-amH,List.drop_append_of_le_length (by simp[iW];omega),am0 (by simp[iW];omega),an4]
    ·rw[dv,dv,hz1,gN _ _ (by omega) (by omega),amV,amZ (by omega),hw1];grind
   obtain⟨rr,q1,q2,q3,q4,q5⟩:=hrow;obtain⟨qL,rL,hf,hrun⟩:=fin d rr d0 d1 q1 q2 q3 q4 q5 (by rw[Int.add_mul,apo]at d3;omega);refine⟨qL,rL,hf,Gd b x2 v m hN hv lv hvl k r1 r5 (by omega) (by omega) _ K ?_ 2000000000 _ _ (by omega) hg0 (by omega) m0 (by omega) (by rw[aoa];omega) (K.first rfl)⟩;intro g g0 g1 hg2 hg3;have same:∀r,Lim r->r.length=r1.length->r.take k=r1.take k->r.drop (k+(m+2)+1)=r1.drop (k+(m+2)+1)->val r=val r1-pw k*(d*val v)->r=rr:=λr a1 a2 a3 a4 a5=>wC a1 q1 (by omega) (by omega);refine Ow b x2 v m hN hv lv hvl k r1 r5 g ⟨g0,g1⟩ hk3 (by omega) _ ?_ ?_ (m+2+1) 0 0 0 r1 (by omega) (by omega) (by omega) (λ_=>rfl) (by omega) (by omega) l1 rfl rfl rfl (by simp[val])
   ·intro r a1 a2 a3 a4 a5;obtain⟨w1,w2,w3⟩:=wof r (-(g*val v)) a1 a2 a3 a4 (by rw[a5,app];omega)
    have hgd:g=d:=by
     have h1:¬g<d:=λhc=>by
      have:=amu (show g+1<=d by omega) (amY hV0);omega
     have h2:¬d<g:=λhc=>by
      have:=amu (show d+1<=g by omega) (amY hV0);omega
     omega
    subst hgd;rw[same r a1 a2 a3 a4 a5];obtain⟨q,hq⟩:=hrun;refine⟨q,?_⟩;unfold dg;rw[hv,hN,e1,e2,aC,aC,e3,aX (amm _),ami (show ¬(0:Int)>0 by decide),ai r5 k,amg hk5,cY (x:=g) (by omega) (by omega),aO (x:=(k:Int)-1) (by omega) (by omega)];exact hq
   ·intro r a1 a2 a3 a4 a5;obtain⟨w1,w2,w3⟩:=wof r (-(g*val v)+pw (m+2+1)) a1 a2 a3 a4 (by rw[a5,hpw,apz,app];omega);have hwg:win k (m+2) r1<g*val v:=by omega
    have hgd:g=d+1:=by
     have h1:¬g<d+1:=λhc=>by
      have:=amu (show g<=d by omega) (amY hV0);omega
     have h2:¬d+1<g:=λhc=>by
      have:=amu (show d+2<=g by omega) (amY hV0);rw[Int.add_mul]at this d3;omega
     omega
    subst hgd
    have hres:ge.Runs 5 (dA b x2 (k:Int) r5 (d+1) 0 0 r) [.d apD qL,.d apD rL]:=by
     refine RQ b x2 v m hN hv lv hvl k r r5 (d+1) (by omega) (by omega) _ ?_ (m+2+1) 0 0 r (by omega) (by omega) (by omega) a1 rfl rfl rfl (by simp[val]);intro r' c b1 b2 b3 b4 c0 c1 b5;obtain⟨u1,u2,u3⟩:=wof r' (-((d+1)*val v)+pw (m+2+1)+val v-pw (m+2+1)*c) b1 (by omega) (b3.trans a3) (b4.trans a4) (by rw[b5,a5,hpw,Int.mul_sub,apz,apz,app];grind)
     have hc:c=1:=by
      rcases(show c=0\/c=1 by omega)with hc|hc
      ·exfalso;subst hc;rw[aoX,Int.sub_zero]at u1;rw[Int.add_mul,apo]at u1;omega
      ·exact hc
     subst hc;rw[same r' b1 (by omega) (b3.trans a3) (b4.trans a4) (by rw[b5,a5];grind)];obtain⟨q,hq⟩:=hrun;refine⟨q,?_⟩;unfold d7;rw[hN,e1,e2,aC,aC,e3,aX (amm _),ai r5 k,amg hk5,show d+1-1=d by omega,bH (x:=d) (by omega) (by omega),cY (x:=d) (by omega) (by omega),aO (x:=(k:Int)-1) (by omega) (by omega)];exact hq
    obtain⟨q,hq⟩:=hres;refine⟨q,?_⟩;unfold dg;rw[hv,hN,e1,e2,aC,aC,e3,aX (amm _),amh (show(1:Int)>0 by decide),amh (show(0:Int)<=(k:Int)/\(k:Int)<=((k+(m+2)+1:Nat):Int)/\((k+(m+2)+1:Nat):Int)<=(r.length:Int) by omega)];exact hq
  obtain⟨qL,rL,hf,q,hq⟩:=key;refine⟨qL,rL,hf,AQ _ _ _ _ _ ⟨q,?_⟩⟩;have e4:i64.wrap (((k+(m+2):Nat):Int)-1)=((k+m+1:Nat):Int):=by rw[aO (by omega) (by omega)];omega
  have e5:i64.wrap (((m+2:Nat):Int)-1)=((m+1:Nat):Int):=by rw[aO (by omega) (by omega)];omega
  unfold un;rw[show((k+1:Nat):Int)-1=(k:Int) by omega,amh (by omega),hv,hN,e1,e4,e5,ai r1 (k+(m+2)),aC,amg (show k+(m+2)<r1.length by omega),ai r1 (k+m+1),aC,amg (show k+m+1<r1.length by omega),ai v (m+1),amg (show m+1<v.length by omega)];dsimp only;rw[bH (x:=v[m+1]) (by omega) (by omega),ami (show ¬v[m+1]=0 by omega)];dsimp only;have e6:r1[k+(m+2)]=r1[k+m+2]:=rfl;rw[e6,bH (x:=r1[k+m+2]) (by omega) (by omega),bH (x:=r1[k+m+1]) (by omega) (by omega),bH (x:=r1[k+m+2]*1000000000) (by omega) (by omega),bH (x:=r1[k+m+2]*1000000000+r1[k+m+1]) (by omega) (by omega),gC (by omega),ju (by omega),bH (x:=(r1[k+m+2]*1000000000+r1[k+m+1])/v[m+1]) (by omega) (by omega)];exact hq
end
end
def pp(a b:List Int):Prop:=(Lim a/\a.length<=100000000)/\(Lim b/\b.length<=100000000)/\0<val b
instance (a b:List Int):Decidable (pp a b):=by unfold pp;infer_instance
structure afv (a b q r:List Int):Prop where
 lq:Lim q
 lr:Lim r
 sq:q.length<=200000000
 sr:r.length<=200000000
 q:val q=val a/val b
 r:val r=val a%val b
theorem wo(x:Int):val [x]=x:=by simp[val]
theorem ur{l:List Int}(h:can l){m:Nat}(hl:l.length=m+1):1<=l[m]:=by
 have h2:=h.2;have h1:=h.1.get (show m<l.length by omega);grind
set_option maxHeartbeats 1000000 in
theorem Gb(a b:List Int)(h:pp a b):∃q r,afv a b q r/\CQq7 171 [.d apD a,.d apD b] [.d apD q,.d apD r]:=by
 obtain⟨⟨la,sa⟩,⟨lb,sb⟩,hb⟩:=h;have ha:aN a:=⟨la,by omega⟩
 have hb':aN b:=⟨lb,by omega⟩
 have va:=bG (val a).toNat
 have vb:=bG (val b).toNat
 have na:=aL la;have va':val (ae (val a).toNat)=val a:=by omega
 have vb':val (ae (val b).toNat)=val b:=by omega
 have lna:=jU la;have lnb:=jU lb;have ca:=dK (val a).toNat
 have cb:=dK (val b).toNat
 have hla:aN (ae (val a).toNat):=⟨ca.1,by omega⟩
 have hlb:aN (ae (val b).toNat):=⟨cb.1,by omega⟩
 have go:∀{q r},ge.Res 171 [.d apD a,.d apD b] [.d apD q,.d apD r]->CQq7 171 [.d apD a,.d apD b] [.d apD q,.d apD r]:=λhr=>fy Li hr;have hb0:ae (val b).toNat≠[]:=λe=>by rw[gG]at e;omega
 by_cases h1:(ae (val b).toNat).length=1
 ·have t1:=ur cb (m:=0) h1;have t2:=cb.1.get (show 0<(ae (val b).toNat).length by omega)
  have e0:(ae (val b).toNat)[0]=val b:=by
   obtain⟨x,hx⟩:=List.length_eq_one_iff.1 h1;have:=vb';rw[hx,wo]at this;simp[hx,this]
  have hq0:0<=val a/val b:=anh na (by omega);have hq1:val a/val b<=val a:=aoe _ na;have hr0:=ans (val a) (show val b≠0 by omega);have hr1:=am4 (val a) hb;have hal:=bU ca.1;refine⟨dig (ae (val a).toNat).length (val a/val b),[val a%val b],⟨n4 _ _,Lim.cons ⟨hr0,by omega⟩ Lim.nil,by rw[iW];omega,by simp,gN _ _ hq0 (by omega),wo _⟩,go (Sz _ _ ⟨0,?_⟩)⟩;unfold If;rw[amh ha,amh hb',h1,AT,amg (show 0<(ae (val b).toNat).length by omega),e0];dsimp only;rw[amh (show E8 (ae (val a).toNat) (val b) from⟨hla,by omega,by omega⟩),va'];rfl
 have hlen:2<=(ae (val b).toNat).length:=by
  rcases amX (ae (val b).toNat).length 2 with h|h
  ·exfalso;have:(ae (val b).toNat).length≠0:=λe=>hb0 (anC e);omega
  ·exact h
 by_cases hlt:val a<val b
 ·refine⟨[],ae (val a).toNat,⟨Lim.nil,ca.1,by simp,by omega,?_,?_⟩,go (Sz _ _ ⟨0,?_⟩)⟩
  ·rw[anp na hlt];rfl
  ·rw[aoz na hlt];exact va'
  ·unfold If;rw[amh ha,amh hb',show(((ae (val b).toNat).length:Int)==1)=false by simp;omega,amh (show aN (ae (val a).toNat)/\aN (ae (val b).toNat) from⟨hla,hlb⟩),va',vb',cQ hlt,amh (show(ae (val a).toNat).length*4<=140737488355328/\(ae (val a).toNat).length<=140737488355328 by omega)];rfl
 ·obtain⟨m,hm⟩:∃m,(ae (val b).toNat).length=m+2:=⟨(ae (val b).toNat).length-2,by omega⟩
  have hxm:m+1<(ae (val b).toNat).length:=by omega
  have t1:=ur cb (m:=m+1) hm;have t2:=cb.1.get hxm;generalize hx2:(ae (val b).toNat)[m+1]=x2 at t1 t2;obtain⟨s1,s2,s3,s4⟩:=LW t1 t2.2
  have esc:u32.wrap (u64.wrap (Int.tdiv 1000000000 (u64.wrap ((u64.wrap x2)+1))))=1000000000/(x2+1):=by
   rw[bH (x:=x2) (by omega) (by omega),bH (x:=x2+1) (by omega) (by omega),gC (by omega),bH (x:=1000000000/(x2+1)) (by omega) (by omega),cY (x:=1000000000/(x2+1)) (by omega) (by omega)]
  generalize hsc:1000000000/(x2+1)=sc at s1 s2 s3 s4 esc;have hsl:aN [sc]:=⟨Lim.cons ⟨by omega,by omega⟩ Lim.nil,by simp⟩
  have hbl:=bU cb.1;rw[vb',hm]at hbl;have hP:=cg (m+1);have hbtop:=bg hxm;rw[anj (by omega),vb',hx2]at hbtop;have hbt0:=aL (cb.1.take (m+1));have hbt1:=bU (cb.1.take (m+1));rw[amV,amZ (by omega)]at hbt1
  have hVhi:val b*sc<pw (m+2):=by
   have e1:val b*sc<(pw (m+1)*(x2+1))*sc:=Int.mul_lt_mul_of_pos_right (by rw[apz,aoW];omega) (by omega);have e2:(pw (m+1)*(x2+1))*sc=pw (m+1)*((x2+1)*sc):=Int.mul_assoc _ _ _;have e3:pw (m+1)*((x2+1)*sc)<=pw (m+1)*1000000000:=amo s3 (amY hP);rw[bW];omega
  have hVlo:pw (m+1)*500000000<=val b*sc:=by
   have e1:pw (m+1)*x2*sc<=val b*sc:=amu (by omega) (by omega);have e2:pw (m+1)*x2*sc=pw (m+1)*(x2*sc):=Int.mul_assoc _ _ _;have e3:pw (m+1)*500000000<=pw (m+1)*(x2*sc):=amo s4 (amY hP);omega
  have hV0:0<val b*sc:=Int.mul_pos hb (by omega);have edv:val (dig (m+2+1) (val b*sc))=val b*sc:=gN _ _ (by omega) (by rw[bW];omega);obtain⟨v,hv⟩:∃v,ae (val b*sc).toNat=v:=⟨_,rfl⟩
  have cv:=dK (val b*sc).toNat
  have vv:=bG (val b*sc).toNat
  rw[hv]at cv vv;have hvv:val v=val b*sc:=by omega
  have hvl:v.length=m+2:=by
   have h1:v.length<=m+2:=by rw[<-hv];exact dh (by omega)
   have h2:m+1<v.length:=by rw[<-hv];exact CU (by omega)
   omega
  have htop:500000000<=v[m+1]:=by
   rcases amM v[m+1] 500000000 with hc|hc
   ·exfalso;have e1:=bg (l:=v) (n:=m+1) (by omega);rw[anj (by omega),hvv]at e1;have e2:=bU (cv.1.take (m+1));rw[amV,amZ (by omega)]at e2;have e3:=amo (show v[m+1]<=499999999 by omega) (amY hP);omega
   ·exact hc
  have hal:=bU ca.1;rw[va']at hal;have hA0:0<=val a*sc:=anc na (by omega)
  have hA1:val a*sc<pw ((ae (val a).toNat).length+1):=by
   have e1:val a*sc<=pw (ae (val a).toNat).length*sc:=amu (by omega) (by omega);have e2:pw (ae (val a).toNat).length*sc<pw (ae (val a).toNat).length*1000000000:=Int.mul_lt_mul_of_pos_left (by omega) (cg _);rw[bW];omega
  have lab:m+2<=(ae (val a).toNat).length:=by
   rw[<-hm];rcases amX (ae (val a).toNat).length (ae (val b).toNat).length with hc|hc
   ·have:=wq hc;omega
   ·exact hc
  generalize hlA:(ae (val a).toNat).length=L at*
  have hdl:(dig (L+1) (val a*sc)++[0]).length=L+2:=by simp[iW]
  have hdv:val (dig (L+1) (val a*sc)++[0])=val a*sc:=by rw[dv,gN _ _ hA0 hA1];simp[val]
  have hmul:=hvv
  obtain⟨q,r,⟨f1,f2,f3,f4,f5,f6⟩,n,hrun⟩:=My b x2 v m hm (by rw[esc,hm,vb',wo];simp only[amF];rw[edv];exact hv) cv.1 hvl sc esc s1 s2 htop (val a*sc) (L-m) (List.replicate (L-m) 0) (dig (L+1) (val a*sc)++[0])
   (Lim.rep _) ((n4 _ _).append (Lim.cons (by decide) Lim.nil)) (by rw[hdl];simp;omega) (by rw[hdl];omega) (by simp) (by rw[gj,hdv];omega) (λj hj _=>by simp) (by
    rw[hdv,hvv];have e1:pw (m+1)*500000000*pw (L-m)<=val b*sc*pw (L-m):=amu hVlo (amY (cg _))
    have e2:pw (m+1)*500000000*pw (L-m)=pw (L+1)*500000000:=by
     rw[show L+1=m+1+(L-m) by omega,fc (m+1) (L-m),Int.mul_right_comm]
    have:=cg (L+1);omega)
  have hq:val a*sc/(val b*sc)=val a/val b:=Int.mul_ediv_mul_of_pos_left _ _ (by omega)
  have hr:val a*sc%(val b*sc)/sc=val a%val b:=by
   rw[aoa (val a),aoa (val b),Int.mul_emod_mul_of_pos _ _ (by omega),aoa];exact Int.mul_ediv_cancel _ (by omega)
  rw[hvv]at f5 f6;rw[hq]at f5;rw[hr]at f6;refine⟨q,r,⟨f1,f2,by rw[f3];simp;omega,by omega,f5,f6⟩,go (Sz _ _ ⟨n,?_⟩)⟩;unfold If;have e1:i64.wrap (((m+2:Nat):Int)-1)=((m+1:Nat):Int):=by rw[aO (by omega) (by omega)];omega
  have e2:i64.wrap (((L+2:Nat):Int)-((m+2:Nat):Int))=((L-m:Nat):Int):=by rw[aO (by omega) (by omega)];omega
  have e3:i64.wrap (((L-m:Nat):Int)-1)=((L-m:Nat):Int)-1:=aO (by omega) (by omega)
  rw[amh ha,amh hb',hm,show(((m+2:Nat):Int)==1)=false by simp;omega,amh (show aN (ae (val a).toNat)/\aN (ae (val b).toNat) from⟨hla,hlb⟩),va',vb',show decide (bV (val a) (val b)<0)=false by
   rcases amM (val b) (val a)with hc|hc
   ·rw[cq hc];rfl
   ·rw[show val a=val b by omega,dB];rfl,e1,ai (ae (val b).toNat) (m+1),amg hxm,hx2]
  dsimp only;rw[esc,bH (x:=x2) (by omega) (by omega),bH (x:=x2+1) (by omega) (by omega),ami (show ¬x2+1=0 by omega),amh (show aN (ae (val a).toNat)/\aN [sc] from⟨hla,hsl⟩),amh (show aN (ae (val b).toNat)/\aN [sc] from⟨hlb,hsl⟩),wo,hlA];rw[amF,amF,hdl,iW (L+1)];rw[amh (show(L+1+1)*4<=140737488355328/\L+1+1<=140737488355328 by omega),amh (show aN (dig (m+2+1) (val b*sc)) from jo (by omega) _),e2,sP (by omega),aC,e3];exact hrun
abbrev BI:=Bool×List Int
def okI(x:BI):Prop:=can x.2/\(x.1=true->x.2≠[])/\x.2.length<=1000000
instance (x:BI):Decidable (okI x):=by unfold okI;infer_instance
theorem bL(x:BI):ab x=bX x.1 (val x.2):=rfl
theorem gR{x:BI}(h:okI x):x=ah (ab x):=by
 obtain⟨h1,h2,h3⟩:=h;grind [bL,mM,pK,val,eo]
def szI(z:Int):Nat:=(ae z.natAbs).length
theorem aS{z:Int}(h:szI z<=1000000):okI (ah z):=by
 refine⟨dK _,λe=>?_,h⟩;grind [ah,gG]
theorem eP{z:Int}{k:Nat}(h1: -pw k<z)(h2:z<pw k):szI z<=k:=dh (by omega)
theorem GU(z:Int): -pw (szI z)<z/\z<pw (szI z):=by
 have h:=bU (bS z.natAbs);grind [bG,szI]
theorem nP{z:Int}{k:Nat}(h:szI z<=k): -pw k<z/\z<pw k:=by
 have h1:=GU z;have h2:=df h;omega
theorem i7(z:Int):szI (-z)=szI z:=by simp[szI]
theorem wG{a b:Int}{k:Nat}(h1:szI a<=k)(h2:szI b<=k):szI (a+b)<=k+1:=by
 have e1:=nP h1;have e2:=nP h2;exact eP (by rw[bW];omega) (by rw[bW];omega)
theorem cN{a b:Int}{j k:Nat}(h1:szI a<=j)(h2:szI b<=k):szI (a*b)<=j+k:=by
 have e1:=nP h1;have e2:=nP h2
 have h:(a*b).natAbs<(pw (j+k)).toNat:=by
  rw[Int.natAbs_mul,fc];have:(pw j*pw k).toNat=(pw j).toNat*(pw k).toNat:=Int.toNat_mul (by omega) (by omega);rw[this];exact Nat.mul_lt_mul'' (by omega) (by omega)
 exact eP (by omega) (by omega)
theorem dm{a b:Int}(h:a.natAbs<=b.natAbs):szI a<=szI b:=by
 have:=GU b;exact eP (by omega) (by omega)
theorem gK{x:BI}(h:okI x):szI (ab x)<=1000000:=by
 have:=gR h;have h3:=h.2.2;rwa [this]at h3
theorem fi{x:BI}(h:okI x):aN x.2:=⟨h.1.1,by have:=h.2.2;omega⟩
theorem cp{x:BI}(h:okI x):0<=val x.2/\(x.1=true->0<val x.2)/\(x.2=[]↔val x.2=0):=by
 refine⟨aL h.1.1,λe=>eo h.1 (h.2.1 e),⟨λe=>by rw[e];rfl,λe=>?_⟩⟩;rcases List.eq_nil_or_concat x.2 with h'|⟨l,y,h'⟩
 ·omega
 ·have:=eo h.1 (by rw[h'];simp);omega
def pk:dJ:=spN false false [apE] (λx=>decide (aR x.1)) (λx=>[RV.d y3Y (ah x.1)])
theorem kJ:SpK 83 pk:=spX λx h=>HG x.1 (amj h)
def dvQ(a b:List Int):List Int:=if h:pp a b then Classical.choose (Gb a b h)else []
def dvR(a b:List Int):List Int:=if h:pp a b then Classical.choose (anK (Gb a b h))else []
theorem Zu{a b:List Int}(h:pp a b):afv a b (dvQ a b) (dvR a b):=by grind [dvQ,dvR]
theorem TJ(a b:List Int)(h:pp a b):CQq7 171 [.d apD a,.d apD b] [.d apD (dvQ a b),.d apD (dvR a b)]:=by
 unfold dvQ dvR;rw[dif_pos h,dif_pos h];exact(anK (anK (Gb a b h))).2
def Ga:dJ:=spN false false [apD,apD] (λx=>decide (pp x.1 x.2.1)) (λx=>[RV.d apD (dvQ x.1 x.2.1),RV.d apD (dvR x.1 x.2.1)])
theorem Dx:SpK 171 Ga:=spX λx h=>TJ x.1 x.2.1 (amj h)
def rS:Env:=[(121,yZ),(122,Cl),(173,FH),(174,F3),(125,Gy),(120,GQ),(83,pk),(171,Ga)]
theorem ko:EnvAll Tryz.prog rS:=⟨sT,yB,Ep,El,ES,Ee,kJ,Dx,trivial⟩
def aiO:Ctx:=CX rS []
def Zy(x y:Bool×List Int)(_k:KT):OLR:=match !(x.1==y.1)with|true=>(match x.1 with|true=>some [RV.d apE (-1)]|false=>some [RV.d apE 1])|false=>(match x.1 with|true=>(og (decide (aN y.2/\aN x.2)) (some [RV.d apE (bV (val y.2) (val x.2))]))|false=>(og (decide (aN x.2/\aN y.2)) (some [RV.d apE (bV (val x.2) (val y.2))])))
theorem aj8(x y:Bool×List Int):RS aiO 82 [.d y3Y x,.d y3Y y] (Zy x y):=rsX
def ahz:Ctx:=CX rS []
def aau(x y:Bool×List Int)(_k:KT):OLR:=match x.1==y.1 with|true=>(og (decide (aN x.2/\aN y.2)) (og (decide (aN (dig (max x.2.length y.2.length+1) (val x.2+val y.2)))) (some [RV.d y3Y (ah (bX x.1 (val (dig (max x.2.length y.2.length+1) (val x.2+val y.2)))))])))|false=>(og (decide (aN x.2/\aN y.2)) (match decide ((bV (val x.2) (val y.2))<0)with|true=>(og (decide (oD y.2 x.2)) (og (decide (aN (dig y.2.length (val y.2-val x.2)))) (some [RV.d y3Y (ah (bX y.1 (val (dig y.2.length (val y.2-val x.2)))))])))|false=>(og (decide (oD x.2 y.2)) (og (decide (aN (dig x.2.length (val x.2-val y.2)))) (some [RV.d y3Y (ah (bX x.1 (val (dig x.2.length (val x.2-val y.2)))))])))))
theorem aiR(x y:Bool×List Int):RS ahz 128 [.d y3Y x,.d y3Y y] (aau x y):=rsX
def afF:Ctx:=CX rS []
def Yt(x y:Bool×List Int)(_k:KT):OLR:=og (decide (aN x.2/\aN y.2)) (og (decide (aN (dig (x.2.length+y.2.length) (val x.2*val y.2)))) (some [RV.d y3Y (ah (bX (!(x.1==y.1)) (val (dig (x.2.length+y.2.length) (val x.2*val y.2)))))]))
theorem af0(x y:Bool×List Int):RS afF 86 [.d y3Y x,.d y3Y y] (Yt x y):=rsX
def ail:Ctx:=CX rS []
def XO(x:Bool×List Int)(_k:KT):OLR:=og (decide (x.2.length*4<=140737488355328/\x.2.length<=140737488355328)) (og (decide (aN x.2)) (some [RV.d y3Y (ah (bX (!x.1) (val x.2)))]))
theorem ajd(x:Bool×List Int):RS ail 195 [.d y3Y x] (XO x):=rsX
def akg:Ctx:=CX rS []
def Z0(x:Bool×List Int)(_k:KT):OLR:=match x.1 with|true=>some [RV.d apE (-1)]|false=>(match decide ((x.2.length:Int)>0)with|true=>some [RV.d apE 1]|false=>some [RV.d apE 0])
theorem ai5(x:Bool×List Int):RS akg 124 [.d y3Y x] (Z0 x):=rsX
theorem Jy(x:BI)(h:okI x):CQq7 124 [.d y3Y x] [.d apE (bV (ab x) 0)]:=by
 refine fy ko (ai5 _ ⟨0,?_⟩);obtain⟨h0,h1,h2⟩:=cp h;unfold Z0;rw[bL];unfold bX;cases hx:x.1
 ·simp only[cond_false];rcases amM 0 (val x.2)with hc|hc
  ·have:x.2≠[]:=λe=>by rw[h2]at e;omega
   have:=am1.2 this;rw[amh (by omega),cq hc]
  ·have e:x.2=[]:=h2.2 (by omega);rw[e];rfl
 ·simp only[cond_true];rw[cQ (by have:=h1 hx;omega)]
theorem HM{a b:Int}(_ha:0<=a)(_hb:0<=b):bV (-a) (-b)=bV b a:=by grind [cq,dB,cQ]
theorem IJ(x y:BI)(h:okI x/\okI y):CQq7 82 [.d y3Y x,.d y3Y y] [.d apE (bV (ab x) (ab y))]:=by
 refine fy ko (aj8 _ _ ⟨0,?_⟩);obtain⟨hx,hy⟩:=h;obtain⟨x0,x1,x2⟩:=cp hx;obtain⟨y0,y1,y2⟩:=cp hy;have lx:=fi hx;have ly:=fi hy;unfold Zy;rw[bL,bL,amh (show aN x.2/\aN y.2 from⟨lx,ly⟩),amh (show aN y.2/\aN x.2 from⟨ly,lx⟩)];unfold bX;cases ex:x.1<;>cases ey:y.1<;>simp only[cond_true,cond_false]
 ·rfl
 ·have:=y1 ey;rw[cq (a:=val x.2) (b:= -val y.2) (by omega)];rfl
 ·have:=x1 ex;rw[cQ (a:= -val x.2) (b:=val y.2) (by omega)];rfl
 ·rw[HM x0 y0];rfl
theorem Oo{a b:List Int}(ha:Lim a)(hb:Lim b):val (dig (max a.length b.length+1) (val a+val b))=val a+val b:=by
 have h1:=bU ha;have h2:=bU hb;have h3:=aL ha;have h4:=aL hb;have h5:=df (Nat.le_max_left a.length b.length);have h6:=df (Nat.le_max_right a.length b.length);grind [gN,bW]
theorem Az{a b:List Int}(ha:Lim a)(hb:Lim b)(hle:val b<=val a):val (dig a.length (val a-val b))=val a-val b:=by
 have h1:=bU ha;have h4:=aL hb;grind [gN]
theorem Kv{a b:List Int}(ha:Lim a)(hb:Lim b):val (dig (a.length+b.length) (val a*val b))=val a*val b:=by
 have h1:=bU ha;have h2:=bU hb;have h3:=aL ha;have h4:=aL hb;refine gN _ _ (anc h3 h4) ?_;rw[fc];have e1:=amu (amY h1) h4;have e2:=Int.mul_lt_mul_of_pos_left h2 (cg a.length);omega
theorem UD(x y:BI)(h:okI x/\okI y):CQq7 128 [.d y3Y x,.d y3Y y] [.d y3Y (ah (ab x+ab y))]:=by
 refine fy ko (aiR _ _ ⟨0,?_⟩);obtain⟨hx,hy⟩:=h;obtain⟨x0,x1,x2⟩:=cp hx;obtain⟨y0,y1,y2⟩:=cp hy;have lx:=fi hx;have ly:=fi hy;have sx:=hx.2.2;have sy:=hy.2.2;unfold aau;rw[bL,bL,amh (show aN x.2/\aN y.2 from⟨lx,ly⟩),amh (show aN (dig (max x.2.length y.2.length+1) (val x.2+val y.2)) from jo (by omega) _),Oo lx.1 ly.1,amh (show aN (dig x.2.length (val x.2-val y.2)) from jo (by omega) _),amh (show aN (dig y.2.length (val y.2-val x.2)) from jo (by omega) _)];cases hs:x.1==y.1
 ·dsimp only;rcases amM (val x.2) (val y.2)with hc|hc
  ·rw[cQ hc,amh (show(-1:Int)<0 by decide),amh (show oD y.2 x.2 from⟨ly,lx,by omega⟩),Az ly.1 lx.1 (by omega)];dsimp only;unfold bX;cases ex:x.1<;>cases ey:y.1<;>simp_all<;>congr 2<;>omega
  ·have hcm:decide (bV (val x.2) (val y.2)<0)=false:=by
    rcases amM (val y.2) (val x.2)with h|h
    ·rw[cq h];rfl
    ·rw[show val x.2=val y.2 by omega,dB];rfl
   rw[hcm,amh (show oD x.2 y.2 from⟨lx,ly,hc⟩),Az lx.1 ly.1 hc];dsimp only;unfold bX;cases ex:x.1<;>cases ey:y.1<;>simp_all<;>congr 2<;>omega
 ·dsimp only;have e:=amW.1 hs;rw[<-e];unfold bX;cases x.1
  ·rfl
  ·simp only[cond_true];rw[show-(val x.2+val y.2)= -val x.2+ -val y.2 by omega]
theorem Ja(x:BI)(h:okI x):CQq7 195 [.d y3Y x] [.d y3Y (ah (-ab x))]:=by
 refine fy ko (ajd _ ⟨0,?_⟩);have sx:=h.2.2;unfold XO;rw[bL,amh (show x.2.length*4<=140737488355328/\x.2.length<=140737488355328 by omega),amh (fi h)];unfold bX;cases x.1<;>simp
theorem Jp(x y:BI)(h:okI x/\okI y):CQq7 86 [.d y3Y x,.d y3Y y] [.d y3Y (ah (ab x*ab y))]:=by
 refine fy ko (af0 _ _ ⟨0,?_⟩);obtain⟨hx,hy⟩:=h;have lx:=fi hx;have ly:=fi hy;have sx:=hx.2.2;have sy:=hy.2.2;unfold Yt;rw[bL,bL,amh (show aN x.2/\aN y.2 from⟨lx,ly⟩),amh (show aN (dig (x.2.length+y.2.length) (val x.2*val y.2)) from jo (by omega) _),Kv lx.1 ly.1];unfold bX;cases x.1<;>cases y.1<;>simp[Int.neg_mul,app]
def pc:dJ:=spN false false [y3Y,y3Y] (λx=>decide (okI x.1/\okI x.2.1)) (λx=>[RV.d y3Y (ah (ab x.1+ab x.2.1))])
theorem kU:SpK 128 pc:=spX λx h=>UD x.1 x.2.1 (amj h)
def Fl:Env:=(128,pc)::rS
theorem Ay:EnvAll Tryz.prog Fl:=⟨kU,ko⟩
def ag2:Ctx:=CX Fl []
def Zv(x y:Bool×List Int)(_k:KT):OLR:=match !y.1 with|true=>(og (decide (okI x/\okI (decide ((y.2.length:Int)>0),y.2))) (some [RV.d y3Y (ah (ab x+ab (decide ((y.2.length:Int)>0),y.2)))]))|false=>(og (decide (okI x/\okI (false,y.2))) (some [RV.d y3Y (ah (ab x+ab (false,y.2)))]))
theorem ajc(x y:Bool×List Int):RS ag2 172 [.d y3Y x,.d y3Y y] (Zv x y):=rsX
theorem NM{y:BI}(h:okI y):okI (!y.1&&decide ((y.2.length:Int)>0),y.2)/\ab (!y.1&&decide ((y.2.length:Int)>0),y.2)= -ab y:=by
 refine⟨⟨h.1,λe=>?_,h.2.2⟩,?_⟩
 ·grind
 grind [bL,bX,val,am1]
theorem Vh(x y:BI)(h:okI x/\okI y):CQq7 172 [.d y3Y x,.d y3Y y] [.d y3Y (ah (ab x-ab y))]:=by
 refine fy Ay (ajc _ _ ⟨0,?_⟩);obtain⟨hx,hy⟩:=h;obtain⟨f1,f2⟩:=NM hy;rw[Int.sub_eq_add_neg,<-f2];unfold Zv;cases ey:y.1
 ·rw[ey]at f1;simp only[Bool.not_false,anP]at f1 ⊢;rw[amh ⟨hx,f1⟩]
 ·rw[ey]at f1;simp only[Bool.not_true,apr]at f1 ⊢;rw[amh ⟨hx,f1⟩]
def SZ:dJ:=spN false false [y3Y,y3Y] (λx=>decide (okI x.1/\okI x.2.1)) (λx=>[RV.d y3Y (ah (ab x.1-ab x.2.1))])
theorem Rw:SpK 172 SZ:=spX λx h=>Vh x.1 x.2.1 (amj h)
def M9:Env:=(172,SZ)::Fl
theorem K1:EnvAll Tryz.prog M9:=⟨Rw,Ay⟩
def akz:Ctx:=CX M9 []
def WC(x y:Bool×List Int)(_k:KT):OLR:=let y1:=aN (dvQ x.2 y.2);let y2:=aN (dvR x.2 y.2);let y3:=ah (bX x.1 (val (dvR x.2 y.2)));let y4:=ah (bX (!(x.1==y.1)) (val (dvQ x.2 y.2)));let y5:OLR:=match decide (((y3.2).length:Int)>0)with|true=>(match !((y3.1)==y.1)with|true=>(og (decide (aR (1:Int))) (og (decide (okI y4/\okI (ah (1:Int)))) (og (decide (okI y3/\okI y)) (dup (.b .l .l) (some [RV.d y3Y (ah (ab y4-ab (ah (1:Int)))),RV.d y3Y (ah (ab y3+ab y)),RV.d apE 0])))))|false=>dup (.b .l .l) (some [RV.d y3Y y4,RV.d y3Y y3,RV.d apE 0]))|false=>dup (.b .l .l) (some [RV.d y3Y y4,RV.d y3Y y3,RV.d apE 0]);let y6:OLR:=match decide y2 with|true=>y5|false=>none;match(y.2.length:Int)==0 with|true=>some [RV.d y3Y (false,[]),RV.d y3Y (false,[]),RV.d apE 6]|false=>(og (decide (pp x.2 y.2)) (cW (og (decide y1) (cW (og (decide y2) (dup (.b .l .l) y5)) (dup (.b (.b .l .l) (.b .l .l)) y6))) (dup (.b .l .l) (cW (og (decide y1) (dup (.b .l .l) y6)) (og (decide y1) y6)))))
theorem afU(x y:Bool×List Int):RS akz 127 [.d y3Y x,.d y3Y y] (WC x y):=rsX
def eZ(x y:BI):Prop:=okI x/\okI y/\0<ab y
instance (x y:BI):Decidable (eZ x y):=by unfold eZ;infer_instance
theorem I9{a b:Int}(_ha:0<=a)(hb:0<b):(a%b=0-> -a/b= -(a/b)/\ -a%b=0)/\(0<a%b-> -a/b= -(a/b)-1/\ -a%b= -(a%b)+b):=by
 have h1:=ans a (show b≠0 by omega);have h2:=am4 a hb;have h3:=am3 a b;constructor
 ·intro h;have e: -a=b* -(a/b):=by rw[app];omega
  constructor
  ·rw[e,aoA _ (by omega)]
  ·rw[e,Int.mul_emod_right]
 ·intro h;have e: -a=(b-a%b)+b*(-(a/b)-1):=by rw[Int.mul_sub,app,aoW];omega
  constructor
  ·rw[e,an9 _ _ (by omega),anp (by omega) (by omega)];omega
  ·rw[e,aon,aoz (by omega) (by omega)];omega
theorem iR:okI (ah 1):=by decide
theorem A0(n:Bool){v:Int}:szI (bX n v)=szI v:=by unfold bX;cases n<;>simp[i7]
theorem I8(x y:BI)(h:eZ x y):CQq7 127 [.d y3Y x,.d y3Y y] [.d y3Y (ah (ab x/ab y)),.d y3Y (ah (ab x%ab y)),.d apE 0]:=by
 refine fy K1 (afU _ _ ⟨0,?_⟩);obtain⟨hx,hy,hp⟩:=h;obtain⟨x0,x1,x2⟩:=cp hx;obtain⟨y0,y1,y2⟩:=cp hy;have sx:=hx.2.2;have sy:=hy.2.2
 have ey:y.1=false:=by
  cases e:y.1
  ·rfl
  ·rw[bL,e]at hp;simp only[bX,cond_true]at hp;omega
 have dy:ab y=val y.2:=by rw[bL,ey];rfl
 rw[dy]at hp;have hdv:pp x.2 y.2:=⟨⟨hx.1.1,by omega⟩,⟨hy.1.1,by omega⟩,hp⟩
 obtain⟨lq,lr,sq,sr,vq,vr⟩:=Zu hdv;have hne:y.2≠[]:=λe=>by rw[y2]at e;omega
 have hylen:=am1.2 hne;have r0:=ans (val x.2) (show val y.2≠0 by omega);have r1:=am4 (val x.2) hp;have q0:0<=val x.2/val y.2:=anh x0 y0;have q1:val x.2/val y.2<=val x.2:=aoe _ x0;have vx:=bU hx.1.1;have vy:=bU hy.1.1;have szq:szI (val x.2/val y.2)<=1000000:=eP (by have:=cg 1000000;omega) (by have:=df sx;omega);have szr:szI (val x.2%val y.2)<=1000000:=eP (by have:=cg 1000000;omega) (by have:=df sy;omega);unfold WC;simp only[da]
 rw[show((y.2.length:Int)==0)=false by simp;omega,amh hdv,amh (show aN (dvQ x.2 y.2) from⟨lq,by omega⟩),amh (show aN (dvR x.2 y.2) from⟨lr,by omega⟩),amh (show aR 1 by decide),vq,vr,
  amh (show okI (ah (bX (!(x.1==y.1)) (val x.2/val y.2)))/\okI (ah (1:Int)) from⟨aS (by rw[A0];exact szq),iR⟩),amh (show okI (ah (bX x.1 (val x.2%val y.2)))/\okI y from⟨aS (by rw[A0];exact szr),hy⟩)]
 simp only[dec_enc,dy,cO];have hE1:(ah (bX x.1 (val x.2%val y.2))).1=(x.1&&decide (0<val x.2%val y.2)):=by rw[mM x.1 r0]
 have hE2:(ah (bX x.1 (val x.2%val y.2))).2=ae (val x.2%val y.2).toNat:=by rw[mM x.1 r0]
 rw[hE1,hE2,bL x,ey]
 have hlen:(((ae (val x.2%val y.2).toNat).length:Int)>0)↔0<val x.2%val y.2:=by
  constructor
  ·intro hl;rcases amM 0 (val x.2%val y.2)with h|h
   ·exact h
   ·rw[show(val x.2%val y.2).toNat=0 by omega,fw]at hl;simp at hl
  ·intro hl;have:ae (val x.2%val y.2).toNat≠[]:=λe=>by rw[gG]at e;omega
   have:=am1.2 this;omega
 obtain⟨n1,n2⟩:=I9 (a:=val x.2) (b:=val y.2) x0 hp;rcases amM 0 (val x.2%val y.2)with hr|hr
 ·rw[amh (hlen.2 hr),amh hr];cases x.1
  ·rfl
  ·obtain⟨e1,e2⟩:=n2 hr;simp only[bX,cond_true,Bool.not_false,anP,show((true==false):Bool)=false from rfl];rw[e1,e2]
 ·rw[ami (λh'=>by have:=hlen.1 h';omega)];dsimp only;have e0:val x.2%val y.2=0:=by omega
  cases x.1
  ·simp only[bX,cond_false,show((false==false):Bool)=true from rfl,Bool.not_true]
  ·obtain⟨e1,e2⟩:=n1 e0;simp only[bX,cond_true,show((true==false):Bool)=false from rfl,Bool.not_false];rw[e1,e2,e0];rfl
def ku(x:BI):Bool:=decide (x.2.length<=2)
def zo(x:BI):Int:=bif ku x then val x.2 else 0
def aim:Ctx:=CX [] []
def Z4(x:Bool×List Int)(_k:KT):OLR:=match(x.2.length:Int)==0 with|true=>some [RV.d (.int .u64) 0,RV.d .bool true]|false=>(match(x.2.length:Int)==1 with|true=>(match aH x.2 0 with|some x1=>some [RV.d (.int .u64) (u64.wrap x1),RV.d .bool true]|none=>none)|false=>(match(x.2.length:Int)==2 with|true=>(match aH x.2 1 with|some x2=>(match aH x.2 0 with|some x3=>some [RV.d (.int .u64) (u64.wrap ((u64.wrap ((u64.wrap x2)*1000000000))+(u64.wrap x3))),RV.d .bool true]|none=>none)|none=>none)|false=>some [RV.d (.int .u64) 0,RV.d .bool false]))
theorem ae2(x:Bool×List Int):RS aim 175 [.d y3Y x] (Z4 x):=rsX
theorem Uj(x:BI)(h:okI x):CQq7 175 [.d y3Y x] [.d (.int .u64) (zo x),.d .bool (ku x)]:=by
 refine fy (E:=[]) trivial (ae2 _ ⟨0,?_⟩);obtain⟨neg,l⟩:=x;have hl:=h.1.1;unfold Z4 zo ku;match l,hl with
 |[],_=>rfl
 |[a],hl=>
  have:=hl.head;simp only[amF,AT,ang];rw[bH (x:=a) (by omega) (by omega)];simp[val]
 |[a,b],hl=>
  have h1:=hl.head;have h2:=hl.tail.head;have e1:aH [a,b] 1=some b:=rfl;have e0:aH [a,b] 0=some a:=rfl;simp only[e1,e0,amD,List.length_nil];rw[bH (x:=a) (by omega) (by omega),bH (x:=b) (by omega) (by omega),bH (x:=b*1000000000) (by omega) (by omega),bH (x:=b*1000000000+a) (by omega) (by omega)];rw[show val [a,b]=b*1000000000+a by simp only[val];omega];rfl
 |a::b::c::l,hl=>
  have e:decide ((a::b::c::l).length<=2)=false:=ami (by simp);rw[e,show(((a::b::c::l).length:Int)==0)=false by simp;omega,show(((a::b::c::l).length:Int)==1)=false by simp;omega,show(((a::b::c::l).length:Int)==2)=false by simp;omega];rfl
def Qg:dJ:=spN false false [y3Y] (λx=>decide (okI x.1)) (λx=>[RV.d (.int .u64) (zo x.1),RV.d .bool (ku x.1)])
theorem Sb:SpK 175 Qg:=spX λx h=>Uj x.1 (amj h)
def Q2:Env:=[(121,yZ),(122,Cl),(171,Ga),(175,Qg)]
theorem KX:EnvAll Tryz.prog Q2:=⟨sT,yB,Dx,Sb,trivial⟩
def ade:NT:=[((130,6),{keep:=[4,5,6],hl:=5}),((130,24),{keep:=[4,7,9],hl:=3})]
def gY:Ctx:=CX Q2 ade
def mf(x y:Bool×List Int)(b3_0:Bool)(b3_1:List Int)(b4_0:Bool)(b4_1:List Int):Cfg:=⟨130,[.blk 0,.seq 40],[(4,.box 2 0),(5,.box 3 0),(6,.box 4 0)],[.box 26 [SB x.1,.d apD x.2],.box 26 [SB y.1,.d apD y.2],.box 26 [SB false,.nil],.box 26 [SB b3_0,.d apD b3_1],.box 26 [SB b4_0,.d apD b4_1]],0,[]⟩
def fY(x y:Bool×List Int)(b3_0:Bool)(b3_1:List Int)(b4_0:Bool)(b4_1:List Int):Cfg:=⟨130,[.blk 0,.seq 40],[(4,.box 2 0),(5,.box 4 0),(6,.box 3 0)],[.box 26 [SB x.1,.d apD x.2],.box 26 [SB y.1,.d apD y.2],.box 26 [SB false,.nil],.box 26 [SB b3_0,.d apD b3_1],.box 26 [SB b4_0,.d apD b4_1]],0,[]⟩
def iY(x y:Bool×List Int)(s7 s9:Int):Cfg:=⟨130,[.blk 2,.seq 33,.seq 37,.blk 1,.lp 6,.blk 0,.seq 40],[(4,.box 2 0),(7,.d (.int .u64) s7),(9,.d (.int .u64) s9)],[.box 26 [SB x.1,.d apD x.2],.box 26 [SB y.1,.d apD y.2],.box 26 [SB false,.nil]],0,[]⟩
def Zp(x y:Bool×List Int)(k:KT):OLR:=let y1:=ah (bX false (val x.2));let y2:=ah (bX false (val y.2));let y3:=mf x y (y1.1) (y1.2) (y2.1) (y2.2);let y4:=fY x y (y2.1) (y2.2) (y1.1) (y1.2);let y5:OLR:=match decide (aN y.2)with|true=>k 6 y3|false=>none;let y6:OLR:=match decide (aN y.2)with|true=>k 6 y4|false=>none;cW (og (decide (aN x.2)) (cW (og (decide (aN y.2)) (cW (k 6 y3) (k 6 y4))) (cW (dup (.b .l .l) y5) (dup (.b .l .l) y6)))) (cW (cW (og (decide (aN x.2)) (dup (.b .l .l) y5)) (og (decide (aN x.2)) y5)) (cW (og (decide (aN x.2)) (dup (.b .l .l) y6)) (og (decide (aN x.2)) y6)))
theorem ajk(x y:Bool×List Int):RS gY 130 [.d y3Y x,.d y3Y y] (Zp x y):=rsX
def Ov(x y:Bool×List Int)(b3_0:Bool)(b3_1:List Int)(b4_0:Bool)(b4_1:List Int)(k:KT):OLR:=match decide ((b4_1.length:Int)>0)with|true=>(og (decide (okI (b3_0,b3_1))) (og (decide (okI (b4_0,b4_1))) (match ku (b3_0,b3_1)with|true=>(match ku (b4_0,b4_1)with|true=>k 24 (iY x y (zo (b3_0,b3_1)) (zo (b4_0,b4_1)))|false=>(og (decide (pp b3_1 b4_1)) (og (decide (aN (dvR b3_1 b4_1))) (k 6 (mf x y b4_0 b4_1 ((ah (bX false (val (dvR b3_1 b4_1)))).1) ((ah (bX false (val (dvR b3_1 b4_1)))).2))))))|false=>(og (decide (pp b3_1 b4_1)) (og (decide (aN (dvR b3_1 b4_1))) (k 6 (mf x y b4_0 b4_1 ((ah (bX false (val (dvR b3_1 b4_1)))).1) ((ah (bX false (val (dvR b3_1 b4_1)))).2))))))))|false=>(og (decide (b3_1.length*4<=140737488355328/\b3_1.length<=140737488355328)) (og (decide (aN b3_1)) (some [RV.d y3Y (ah (bX false (val b3_1)))])))
theorem P5(x y:Bool×List Int)(b3_0:Bool)(b3_1:List Int)(b4_0:Bool)(b4_1:List Int):RL gY 6 (mf x y b3_0 b3_1 b4_0 b4_1) (Ov x y b3_0 b3_1 b4_0 b4_1):=rlX
def G9(x y:Bool×List Int)(b3_0:Bool)(b3_1:List Int)(b4_0:Bool)(b4_1:List Int)(k:KT):OLR:=match decide ((b3_1.length:Int)>0)with|true=>(og (decide (okI (b4_0,b4_1))) (og (decide (okI (b3_0,b3_1))) (match ku (b4_0,b4_1)with|true=>(match ku (b3_0,b3_1)with|true=>k 24 (iY x y (zo (b4_0,b4_1)) (zo (b3_0,b3_1)))|false=>(og (decide (pp b4_1 b3_1)) (og (decide (aN (dvR b4_1 b3_1))) (k 6 (fY x y ((ah (bX false (val (dvR b4_1 b3_1)))).1) ((ah (bX false (val (dvR b4_1 b3_1)))).2) b3_0 b3_1)))))|false=>(og (decide (pp b4_1 b3_1)) (og (decide (aN (dvR b4_1 b3_1))) (k 6 (fY x y ((ah (bX false (val (dvR b4_1 b3_1)))).1) ((ah (bX false (val (dvR b4_1 b3_1)))).2) b3_0 b3_1)))))))|false=>(og (decide (b4_1.length*4<=140737488355328/\b4_1.length<=140737488355328)) (og (decide (aN b4_1)) (some [RV.d y3Y (ah (bX false (val b4_1)))])))
theorem Gc(x y:Bool×List Int)(b3_0:Bool)(b3_1:List Int)(b4_0:Bool)(b4_1:List Int):RL gY 6 (fY x y b3_0 b3_1 b4_0 b4_1) (G9 x y b3_0 b3_1 b4_0 b4_1):=rlX
def ul(x y:Bool×List Int)(s7 s9:Int)(k:KT):OLR:=match decide (s9>0)with|true=>(match decide (s9=(0:Int))with|true=>none|false=>k 24 (iY x y s9 (Int.tmod s7 s9)))|false=>(og (decide (ip s7)) (og (decide (aN (dig 3 s7))) (some [RV.d y3Y (ah (bX false (val (dig 3 s7))))])))
theorem zE(x y:Bool×List Int)(s7 s9:Int):RL gY 24 (iY x y s7 s9) (ul x y s7 s9):=rlX
theorem O4(x y:BI)(B:Nat)(hB:(B:Int)<18446744073709551616):∀(v u:Nat),u<=B->v<=B->gY.RunsE 24 (iY x y (u:Int) (v:Int)) [.d y3Y (ah ((Nat.gcd u v:Nat):Int))]:=by
 intro v;induction v using Nat.strongRecOn with
 |ind v ih=>
  intro u hu hv;rcases am8 v with h0|h0
  ·refine zE _ _ _ _ ⟨0,λn _=>?_⟩;have hp:ip (u:Int):=⟨by omega,by omega⟩
   unfold ul;rw[ami (show ¬(v:Int)>0 by omega),amh hp,amh (jo (n:=3) (by decide) (u:Int)),wR hp,show Nat.gcd u v=u by rw[h0];exact Nat.gcd_zero_right u];rfl
  ·obtain⟨n0,hn⟩:=ih (u%v) (ao4 _ h0) v hv (amt (Nat.le_of_lt (ao4 _ h0)) hv);refine zE _ _ _ _ ⟨n0,λn hn'=>?_⟩;unfold ul;rw[amh (by omega),ami (by omega),ju (by omega)];dsimp only;rw[show((u:Int)%(v:Int))=((u%v:Nat):Int) by simp,aoq u v,Nat.gcd_rec v u,aoq];exact hn n hn'
theorem AF(v:Int):bX false v=v:=rfl
theorem iU(u:Nat):ah (u:Int)=(false,ae u):=rfl
theorem Ae{u:Nat}(h:(ae u).length<=2):u<=(pw 2).toNat:=by
 have h1:=bU (bS u);rw[bG]at h1;have h2:=df h;omega
theorem aaW:(((pw 2).toNat:Nat):Int)<18446744073709551616:=by decide
theorem Eh{k:Nat->Cfg->OLR}{u v:Nat}(hu:szI u<=1000000)(hv:szI v<=1000000){r:List RV}{H:Int->Int->Cfg}{D:Int->Cfg}
  (h1:v=0->r=[.d y3Y (ah (u:Int))]) (h2:v≠0->ku (ah (u:Int))=true->ku (ah (v:Int))=true->k 24 (H (u:Int) (v:Int))=some r) (h3:v≠0->k 6 (D ((u%v:Nat):Int))=some r) (D':List Int->Cfg) (hD:D' (dvR (ae u) (ae v))=D (val (dvR (ae u) (ae v)))):
  (match decide (((ae v).length:Int)>0)with
   |true=>(match decide (okI (ah (u:Int)))with
    |true=>(match decide (okI (ah (v:Int)))with
     |true=>(match ku (ah (u:Int))with
      |true=>(match ku (ah (v:Int))with
       |true=>k 24 (H (zo (ah (u:Int))) (zo (ah (v:Int))))
       |false=>(match decide (pp (ae u) (ae v))with
        |true=>(match decide (aN (dvR (ae u) (ae v)))with
         |true=>k 6 (D' (dvR (ae u) (ae v)))
         |false=>none)
        |false=>none))
      |false=>(match decide (pp (ae u) (ae v))with
        |true=>(match decide (aN (dvR (ae u) (ae v)))with
         |true=>k 6 (D' (dvR (ae u) (ae v)))
         |false=>none)
        |false=>none))
     |false=>none)
    |false=>none)
   |false=>(match decide ((ae u).length*4<=140737488355328/\(ae u).length<=140737488355328)with
    |true=>(match decide (aN (ae u))with
     |true=>some [.d y3Y (ah (bX false (val (ae u))))]
     |false=>none)
    |false=>none))=some r:=by
 have lu:(ae u).length<=1000000:=by have:=hu;unfold szI at this;rwa [aor]at this
 have lv:(ae v).length<=1000000:=by have:=hv;unfold szI at this;rwa [aor]at this
 rcases am8 v with h0|h0
 ·subst h0;rw[h1 rfl,show decide (((ae 0).length:Int)>0)=false from rfl,amh (show(ae u).length*4<=140737488355328/\(ae u).length<=140737488355328 by omega),amh (show aN (ae u) from⟨bS u,by omega⟩),bG];rfl
 ·have hne:ae v≠[]:=λe=>by rw[gG]at e;omega
  have hl:=am1.2 hne;have hvv:=bG v;have hvu:=bG u;have hdv:pp (ae u) (ae v):=⟨⟨bS u,by omega⟩,⟨bS v,by omega⟩,by omega⟩
  obtain⟨_,lr,_,sr,_,vr⟩:=Zu hdv
  have hD2:k 6 (D' (dvR (ae u) (ae v)))=some r:=by
   rw[hD,vr,hvv,hvu];exact h3 (by omega)
  rw[amh (by omega),amh (aS hu),amh (aS hv),amh hdv,amh (show aN (dvR (ae u) (ae v)) from⟨lr,by omega⟩)];dsimp only;cases hb1:ku (ah (u:Int))
  ·exact hD2
  ·cases hb2:ku (ah (v:Int))
   ·exact hD2
   ·dsimp only;have:=h2 (by omega) hb1 hb2;unfold zo;rw[hb1,hb2];simp only[cond_true,iU];rw[hvv,hvu];exact this
theorem QJ(x y:BI):∀(v u:Nat),szI u<=1000000->szI v<=1000000->
  gY.RunsE 6 (mf x y false (ae u) false (ae v)) [.d y3Y (ah ((Nat.gcd u v:Nat):Int))]/\gY.RunsE 6 (fY x y false (ae v) false (ae u)) [.d y3Y (ah ((Nat.gcd u v:Nat):Int))]:=by
 intro v;induction v using Nat.strongRecOn with
 |ind v ih=>
  intro u hu hv
  have hw:ku (ah (u:Int))=true->ku (ah (v:Int))=true->gY.RunsE 24 (iY x y (u:Int) (v:Int)) [.d y3Y (ah ((Nat.gcd u v:Nat):Int))]:=λh1 h2=>by
   unfold ku at h1 h2;rw[iU]at h1 h2;exact O4 x y _ aaW v u (Ae (amj h1)) (Ae (amj h2))
  have hd:v≠0->gY.RunsE 6 (mf x y false (ae v) false (ae (u%v))) [.d y3Y (ah ((Nat.gcd u v:Nat):Int))]/\gY.RunsE 6 (fY x y false (ae (u%v)) false (ae v)) [.d y3Y (ah ((Nat.gcd u v:Nat):Int))]:=λh0=>by
   have hm:=ao4 u (aoN h0);have:=ih (u%v) hm v hv (amt (dm (by omega)) hv);rw[aoq u v,Nat.gcd_rec v u,aoq (u%v) v];exact this
  have hcommon:∃n0,∀n,n0<=n->(ku (ah (u:Int))=true->ku (ah (v:Int))=true->gY.k n 24 (iY x y (u:Int) (v:Int))=some [.d y3Y (ah ((Nat.gcd u v:Nat):Int))])/\(v≠0->gY.k n 6 (mf x y false (ae v) false (ae (u%v)))=some [.d y3Y (ah ((Nat.gcd u v:Nat):Int))]/\gY.k n 6 (fY x y false (ae (u%v)) false (ae v))=some [.d y3Y (ah ((Nat.gcd u v:Nat):Int))]):=by
   have g1:∃n1,∀n,n1<=n->(ku (ah (u:Int))=true->ku (ah (v:Int))=true->gY.k n 24 (iY x y (u:Int) (v:Int))=some [.d y3Y (ah ((Nat.gcd u v:Nat):Int))]):=by
    by_cases hb:ku (ah (u:Int))=true/\ku (ah (v:Int))=true
    ·obtain⟨n,h⟩:=hw hb.1 hb.2;exact⟨n,λm hm _ _=>h m hm⟩
    ·exact⟨0,λn _ h1 h2=>absurd ⟨h1,h2⟩ hb⟩
   have g2:∃n1,∀n,n1<=n->(v≠0->gY.k n 6 (mf x y false (ae v) false (ae (u%v)))=some [.d y3Y (ah ((Nat.gcd u v:Nat):Int))]/\gY.k n 6 (fY x y false (ae (u%v)) false (ae v))=some [.d y3Y (ah ((Nat.gcd u v:Nat):Int))]):=by
    by_cases hb:v=0
    ·exact⟨0,λn _ h=>absurd hb h⟩
    ·obtain⟨⟨n1,h1⟩,⟨n2,h2⟩⟩:=hd hb;exact⟨max n1 n2,λn hn _=>⟨h1 n (by omega),h2 n (by omega)⟩⟩
   obtain⟨n1,h1⟩:=g1;obtain⟨n2,h2⟩:=g2;exact⟨max n1 n2,λn hn=>⟨h1 n (by omega),h2 n (by omega)⟩⟩
  obtain⟨n0,hc⟩:=hcommon;have hz:v=0->([.d y3Y (ah ((Nat.gcd u v:Nat):Int))]:List RV)=[.d y3Y (ah (u:Int))]:=λe=>by subst e;rw[Nat.gcd_zero_right]
  constructor
  ·refine P5 _ _ _ _ _ _ ⟨n0,λn hn=>?_⟩;have:=Eh (k:=gY.k n) hu hv (H:=λa b=>iY x y a b) (D:=λz=>mf x y false (ae v) (ah z).1 (ah z).2) hz (λ_ h1 h2=>(hc n hn).1 h1 h2) (λh0=>by rw[iU];exact((hc n hn).2 h0).1) (λl=>mf x y false (ae v) (ah (bX false (val l))).1 (ah (bX false (val l))).2) rfl;rw[iU,iU]at this;exact this
  ·refine Gc _ _ _ _ _ _ ⟨n0,λn hn=>?_⟩;have:=Eh (k:=gY.k n) hu hv (H:=λa b=>iY x y a b) (D:=λz=>fY x y (ah z).1 (ah z).2 false (ae v)) hz (λ_ h1 h2=>(hc n hn).1 h1 h2) (λh0=>by rw[iU];exact((hc n hn).2 h0).2) (λl=>fY x y (ah (bX false (val l))).1 (ah (bX false (val l))).2 false (ae v)) rfl;rw[iU,iU]at this;exact this
theorem JN(x y:BI)(h:okI x/\okI y):CQq7 130 [.d y3Y x,.d y3Y y] [.d y3Y (ah ((Int.gcd (ab x) (ab y):Nat):Int))]:=by
 refine fy KX (show gY.Res _ _ _ from ?_);obtain⟨hx,hy⟩:=h;obtain⟨x0,_,_⟩:=cp hx;obtain⟨y0,_,_⟩:=cp hy;have ex:((ab x).natAbs:Int)=val x.2:=by rw[bL];unfold bX;cases x.1<;>simp<;>omega
 have ey:((ab y).natAbs:Int)=val y.2:=by rw[bL];unfold bX;cases y.1<;>simp<;>omega
 have szx:szI ((ab x).natAbs:Int)<=1000000:=amt (dm (by omega)) (gK hx);have szy:szI ((ab y).natAbs:Int)<=1000000:=amt (dm (by omega)) (gK hy);obtain⟨⟨n1,h1⟩,⟨n2,h2⟩⟩:=QJ x y (ab y).natAbs (ab x).natAbs szx szy;refine ajk _ _ ⟨max n1 n2,?_⟩;have h1:=h1 (max n1 n2) (by omega);have h2:=h2 (max n1 n2) (by omega);unfold Zp;simp only[da];rw[amh (fi hx),amh (fi hy),AF,AF,<-ex,<-ey,iU,iU];dsimp only;rw[h1,h2];simp only[cO];rfl
abbrev BR:=BI×BI
def am(q:Rat):BR:=(ah q.num,ah (q.den:Int))
def ag(x:BR):Rat:=mkRat (ab x.1) (ab x.2).toNat
theorem eA(q:Rat):ag (am q)=q:=by simp[ag,am,dec_enc]
def okR(x:BR):Prop:=okI x.1/\okI x.2/\0<ab x.2/\Int.gcd (ab x.1) (ab x.2)=1/\x.1.2.length<=480000/\x.2.2.length<=480000
instance (x:BR):Decidable (okR x):=by unfold okR;infer_instance
def o1(x:BR):Bool:=decide (okR x)
def o2(x y:BR):Bool:=decide (okR x/\okR y)
theorem aja(x:BR):o1 x=decide (okR x):=rfl
theorem ajf(x y:BR):o2 x y=(decide (okR x)&&decide (okR y)):=aol _ _
theorem cJ{x:BR}(h:okR x):(ag x).num=ab x.1/\((ag x).den:Int)=ab x.2:=by
 obtain⟨h1,h2,h3,h4,_⟩:=h;unfold ag;rw[apj,apk]
 have hg:(ab x.2).toNat.gcd (ab x.1).natAbs=1:=by
  rwa [aoq,show(ab x.2).toNat=(ab x.2).natAbs by omega]
 grind
theorem O5{x:BR}(h:okR x):x=am (ag x):=by
 obtain⟨e1,e2⟩:=cJ h;unfold am;rw[e1,e2,<-gR h.1,<-gR h.2.1]
def bdR(k:Nat)(q:Rat):Prop:=szI q.num<=k/\szI (q.den:Int)<=k
theorem qb{q:Rat}{k:Nat}(h:bdR k q)(hk:k<=480000):okR (am q):=by
 obtain⟨h1,h2⟩:=h;have hd:=q.den_pos;refine⟨aS (by omega),aS (by omega),?_,?_,by show szI q.num<=480000;omega,by show szI (q.den:Int)<=480000;omega⟩
 ·show 0<ab (ah (q.den:Int));grind [dec_enc]
 ·show Int.gcd (ab (ah q.num)) (ab (ah (q.den:Int)))=1;rw[dec_enc,dec_enc];exact q.reduced
theorem B0{x:BR}(h:okR x):bdR 480000 (ag x):=by
 obtain⟨e1,e2⟩:=cJ h;obtain⟨h1,h2,_,_,h5,h6⟩:=h;unfold bdR szI;rw[e1,e2];rw[gR h1]at h5;rw[gR h2]at h6;exact⟨h5,h6⟩
theorem b9{j k:Nat}{q:Rat}(h:bdR j q)(hk:j<=k):bdR k q:=⟨amt h.1 hk,amt h.2 hk⟩
theorem HZ(a:Int)(g:Nat):(a/(g:Int)).natAbs<=a.natAbs\/¬(g:Int)∣a:=by
 by_cases h:(g:Int)∣a
 ·obtain⟨k,rfl⟩:=h;rcases am8 g with h0|h0
  ·grind
  ·rw[aoA _ (by omega),Int.natAbs_mul];simp_all [Nat.le_mul_of_pos_left]
 grind
theorem yo{n:Int}{d k:Nat}(hd:d≠0)(h1:szI n<=k)(h2:szI (d:Int)<=k):bdR k (mkRat n d):=by
 unfold bdR;rw[apj,apk,amJ hd,amJ hd];constructor
 ·refine amt (dm ?_) h1;grind [HZ,Nat.gcd_dvd_right,Int.ofNat_dvd_left]
 ·exact amt (dm (by rw[aor,aor];exact Nat.div_le_self _ _)) h2
theorem v7{k:Nat}{a:Rat}(h:bdR k a):bdR k (-a):=by
 refine⟨?_,h.2⟩;rw[Rat.neg_num,i7];exact h.1
theorem JL{j k:Nat}{a b:Rat}(ha:bdR j a)(hb:bdR k b):bdR (j+k+1) (a+b):=by
 rw[Rat.add_def'];have d1:=a.den_pos;have d2:=b.den_pos;refine yo (Nat.mul_ne_zero (by omega) (by omega)) (wG (cN ha.1 hb.2) ?_) ?_
 ·rw[Nat.add_comm];exact cN hb.1 ha.2
 ·rw[anB];exact amt (cN ha.2 hb.2) (by omega)
theorem Va{j k:Nat}{a b:Rat}(ha:bdR j a)(hb:bdR k b):bdR (j+k+1) (a-b):=by grind [Rat.sub_eq_add_neg,JL,v7]
theorem IK{j k:Nat}{a b:Rat}(ha:bdR j a)(hb:bdR k b):bdR (j+k) (a*b):=by
 rw[Rat.mul_def'];have d1:=a.den_pos;have d2:=b.den_pos;refine yo (Nat.mul_ne_zero (by omega) (by omega)) (cN ha.1 hb.1) ?_;exact cN ha.2 hb.2
theorem TB{k:Nat}{a:Rat}(h:bdR k a)(h0:a≠0):bdR k a⁻¹:=by
 have hn:a.num≠0:=λe=>h0 (Rat.num_eq_zero.1 e);rw[Rat.inv_def];rcases aos hn with h1|h1
 ·rw[<-Rat.neg_divInt_neg,show-a.num=(((-a.num).toNat:Nat):Int) by omega,Rat.divInt_ofNat];refine yo (by omega) (by rw[i7];exact h.2) ?_;rw[show(((-a.num).toNat:Nat):Int)= -a.num by omega,i7];exact h.1
 ·rw[show a.num=((a.num.toNat:Nat):Int) by omega,Rat.divInt_ofNat];refine yo (by omega) h.2 ?_;rw[show((a.num.toNat:Nat):Int)=a.num by omega];exact h.1
theorem T2{j k:Nat}{a b:Rat}(ha:bdR j a)(hb:bdR k b)(h0:b≠0):bdR (j+k) (a/b):=by grind [IK,TB]
def eT(x y:BI):BR:=am (Rat.divInt (ab x) (ab y))
def jQ(x y:BI):Prop:=okI x/\okI y/\ab y≠0
instance (x y:BI):Decidable (jQ x y):=by unfold jQ;infer_instance
theorem oe{n d:Int}(hd:0<d):am (Rat.divInt n d)=(ah (n/(Int.gcd n d:Int)),ah (d/(Int.gcd n d:Int))):=by
 obtain⟨D,rfl⟩:=anQ (amY hd);unfold am;rw[Rat.divInt_ofNat,apj,apk,amJ (by omega),amJ (by omega)];have e:Int.gcd n (D:Int)=D.gcd n.natAbs:=by rw[aoq];rfl
 grind
def uj:dJ:=spN true false [y3Y] (λx=>decide (okI x.1)) (λx=>[RV.d apE (bV (ab x.1) 0)])
theorem oN:SpK 124 uj:=spX λx h=>Jy x.1 (amj h)
def rI:dJ:=spN true false [y3Y,y3Y] (λx=>decide (okI x.1/\okI x.2.1)) (λx=>[RV.d apE (bV (ab x.1) (ab x.2.1))])
theorem mZ:SpK 82 rI:=spX λx h=>IJ x.1 x.2.1 (amj h)
def ug:dJ:=spN false false [y3Y] (λx=>decide (okI x.1)) (λx=>[RV.d y3Y (ah (-ab x.1))])
theorem oO:SpK 195 ug:=spX λx h=>Ja x.1 (amj h)
def uC:dJ:=spN false false [y3Y,y3Y] (λx=>decide (okI x.1/\okI x.2.1)) (λx=>[RV.d y3Y (ah (ab x.1*ab x.2.1))])
theorem po:SpK 86 uC:=spX λx h=>Jp x.1 x.2.1 (amj h)
def CJ:dJ:=spN false false [y3Y,y3Y] (λx=>decide (eZ x.1 x.2.1)) (λx=>[RV.d y3Y (ah (ab x.1/ab x.2.1)),RV.d y3Y (ah (ab x.1%ab x.2.1)),RV.d apE 0])
theorem xq:SpK 127 CJ:=spX λx h=>I8 x.1 x.2.1 (amj h)
def GZ:dJ:=spN false false [y3Y,y3Y] (λx=>decide (okI x.1/\okI x.2.1)) (λx=>[RV.d y3Y (ah ((Int.gcd (ab x.1) (ab x.2.1):Nat):Int))])
theorem DV:SpK 130 GZ:=spX λx h=>JN x.1 x.2.1 (amj h)
def Fy:Env:=[(83,pk),(124,uj),(82,rI),(128,pc),(195,ug),(86,uC),(127,CJ),(130,GZ)]
theorem z0:EnvAll Tryz.prog Fy:=⟨kJ,oN,mZ,kU,oO,po,xq,DV,trivial⟩
def agR:Ctx:=CX Fy []
def Zs(_k:KT):OLR:=og (decide (aR (1:Int))) (some [RV.d y3Y (ah (1:Int))])
theorem akt:RS agR 126 [] (Zs):=rsX
def ahb:Ctx:=CX Fy []
def Y9(x y:Bool×List Int)(_k:KT):OLR:=og (decide (eZ x y)) (some [RV.d y3Y (ah (ab x/ab y))])
theorem aj4(x y:Bool×List Int):RS ahb 352 [.d y3Y x,.d y3Y y] (Y9 x y):=rsX
theorem Jj:CQq7 126 [] [.d y3Y (ah 1)]:=by
 refine fy z0 (akt ⟨0,?_⟩);unfold Zs;rw[amh (show aR 1 by decide)]
theorem TS(x y:BI)(h:eZ x y):CQq7 352 [.d y3Y x,.d y3Y y] [.d y3Y (ah (ab x/ab y))]:=by
 refine fy z0 (aj4 _ _ ⟨0,?_⟩);unfold Y9;rw[amh h]
def xd:dJ:=spN false false [] (λ_=>true) (λ_=>[RV.d y3Y (ah 1)])
theorem tm:SpK 126 xd:=spX λ_ _=>Jj
def No:dJ:=spN false false [y3Y,y3Y] (λx=>decide (eZ x.1 x.2.1)) (λx=>[RV.d y3Y (ah (ab x.1/ab x.2.1))])
theorem O8:SpK 352 No:=spX λx h=>TS x.1 x.2.1 (amj h)
def NK:Env:=[(83,pk),(124,uj),(82,rI),(128,pc),(195,ug),(86,uC),(127,CJ),(130,GZ),(126,xd),(352,No)]
theorem KC:EnvAll Tryz.prog NK:=⟨kJ,oN,mZ,kU,oO,po,xq,DV,tm,O8,trivial⟩
def ah6:Ctx:=CX NK []
def Yz(x y:Bool×List Int)(_k:KT):OLR:=match decide (okI y)with|true=>(match decide ((bV (ab y) 0)<0)with|true=>(match decide (okI x)with|true=>(match decide (okI y)with|true=>(match decide (okI (ah (-ab x))/\okI (ah (-ab y)))with|true=>(match decide (okI (ah ((Int.gcd (ab (ah (-ab x))) (ab (ah (-ab y))):Nat):Int))/\okI (ah 1))with|true=>(match(bV (ab (ah ((Int.gcd (ab (ah (-ab x))) (ab (ah (-ab y))):Nat):Int))) (ab (ah 1))) !=0 with|true=>(match decide (eZ (ah (-ab x)) (ah ((Int.gcd (ab (ah (-ab x))) (ab (ah (-ab y))):Nat):Int)))with|true=>(match decide (eZ (ah (-ab y)) (ah ((Int.gcd (ab (ah (-ab x))) (ab (ah (-ab y))):Nat):Int)))with|true=>some [RV.d (.st (.pair y3Y y3Y)) ((ah (ab (ah (-ab x))/ab (ah ((Int.gcd (ab (ah (-ab x))) (ab (ah (-ab y))):Nat):Int)))),(ah (ab (ah (-ab y))/ab (ah ((Int.gcd (ab (ah (-ab x))) (ab (ah (-ab y))):Nat):Int)))))]|false=>none)|false=>none)|false=>some [RV.d (.st (.pair y3Y y3Y)) ((ah (-ab x)),(ah (-ab y)))])|false=>none)|false=>none)|false=>none)|false=>none)|false=>(match decide (okI x/\okI y)with|true=>(match decide (okI (ah ((Int.gcd (ab x) (ab y):Nat):Int))/\okI (ah 1))with|true=>(match(bV (ab (ah ((Int.gcd (ab x) (ab y):Nat):Int))) (ab (ah 1))) !=0 with|true=>(match decide (eZ x (ah ((Int.gcd (ab x) (ab y):Nat):Int)))with|true=>(match decide (eZ y (ah ((Int.gcd (ab x) (ab y):Nat):Int)))with|true=>some [RV.d (.st (.pair y3Y y3Y)) ((ah (ab x/ab (ah ((Int.gcd (ab x) (ab y):Nat):Int)))),(ah (ab y/ab (ah ((Int.gcd (ab x) (ab y):Nat):Int)))))]|false=>none)|false=>none)|false=>some [RV.d (.st (.pair y3Y y3Y)) (x,y)])|false=>none)|false=>none))|false=>none
theorem aid(x y:Bool×List Int):RS ah6 320 [.d y3Y x,.d y3Y y] (Yz x y):=rsX
theorem PC{a b:Int}(hb:b≠0){k:Nat}(h:szI b<=k):szI ((Int.gcd a b:Nat):Int)<=k:=by
 refine amt (dm ?_) h;exact Nat.le_of_dvd (by omega) (Nat.gcd_dvd_right a.natAbs b.natAbs)
theorem TZ(x y:BI)(h:jQ x y):CQq7 320 [.d y3Y x,.d y3Y y] [.d (.st (.pair y3Y y3Y)) (eT x y)]:=by
 refine fy KC (aid _ _ ⟨0,?_⟩);obtain⟨hx,hy,hne⟩:=h;have sx:=gK hx;have sy:=gK hy;have hgp:0<Int.gcd (ab x) (ab y):=aoN λe=>hne (Int.gcd_eq_zero_iff.1 e).2;have hgs:=PC (a:=ab x) hne sy;unfold Yz eT;rw[amh hy];dsimp only;rcases aos hne with hn|hn
 ·rw[cQ hn,amh (show(-1:Int)<0 by decide),amh hx];have o1:okI (ah (-ab x)):=aS (by rw[i7];exact sx);have o2:okI (ah (-ab y)):=aS (by rw[i7];exact sy);simp only[dec_enc,Int.gcd_neg,Int.neg_gcd];have og:okI (ah ((Int.gcd (ab x) (ab y):Nat):Int)):=aS hgs;rw[amh (show okI (ah (-ab x))/\okI (ah (-ab y)) from⟨o1,o2⟩),amh (show okI (ah ((Int.gcd (ab x) (ab y):Nat):Int))/\okI (ah 1) from⟨og,iR⟩)];rw[<-Rat.neg_divInt_neg,oe (by omega),Int.gcd_neg,Int.neg_gcd];dsimp only;by_cases h1:Int.gcd (ab x) (ab y)=1
  ·rw[h1];simp[dB]
  ·have hc:(bV ((Int.gcd (ab x) (ab y):Nat):Int) 1 !=0)=true:=by
    rw[cq (by omega)];rfl
   rw[hc,amh (show eZ (ah (-ab x)) (ah ((Int.gcd (ab x) (ab y):Nat):Int)) from⟨o1,og,by rw[dec_enc];omega⟩),amh (show eZ (ah (-ab y)) (ah ((Int.gcd (ab x) (ab y):Nat):Int)) from⟨o2,og,by rw[dec_enc];omega⟩)]
 ·rw[cq hn,ami (show ¬(1:Int)<0 by decide)];simp only[dec_enc];have og:okI (ah ((Int.gcd (ab x) (ab y):Nat):Int)):=aS hgs;rw[amh (show okI x/\okI y from⟨hx,hy⟩),amh (show okI (ah ((Int.gcd (ab x) (ab y):Nat):Int))/\okI (ah 1) from⟨og,iR⟩),oe hn];dsimp only;by_cases h1:Int.gcd (ab x) (ab y)=1
  ·rw[h1];simp only[Int.natCast_one,dB,Int.ediv_one,<-gR hx,<-gR hy];rfl
  ·have hc:(bV ((Int.gcd (ab x) (ab y):Nat):Int) 1 !=0)=true:=by
    rw[cq (by omega)];rfl
   rw[hc,amh (show eZ x (ah ((Int.gcd (ab x) (ab y):Nat):Int)) from⟨hx,og,by rw[dec_enc];omega⟩),amh (show eZ y (ah ((Int.gcd (ab x) (ab y):Nat):Int)) from⟨hy,og,by rw[dec_enc];omega⟩)]
end Go.Proofs.YtmnlppieefomnaaGreatDoor
end
