/- The pure machine is sound: the induction. -/
import Derived.Test.YtagbmoohboleaaaGreatL5
noncomputable section
namespace Go.Proofs.YtagbmoohboleaaaGreat
open Go.RowKit Go.IntKind
theorem afm:type_of% @decide_eq_true:=@decide_eq_true
theorem afo:type_of% @decide_eq_false:=@decide_eq_false
theorem afu:type_of% @Int.mul_le_mul_of_nonneg_left:=@Int.mul_le_mul_of_nonneg_left
theorem afT:type_of% @Int.lt_or_le:=@Int.lt_or_le
theorem afU:type_of% @List.getElem_mem:=@List.getElem_mem
theorem af0:type_of% @Int.le_of_lt:=@Int.le_of_lt
theorem af7:type_of% @Nat.min_eq_left:=@Nat.min_eq_left
theorem aga:type_of% @IntKind.wrap_u64:=@IntKind.wrap_u64
theorem agc:type_of% @Bool.true_and:=@Bool.true_and
theorem agC:type_of% @List.take_length:=@List.take_length
theorem agN:type_of% @Classical.choose_spec:=@Classical.choose_spec
theorem agQ:type_of% @List.drop_zero:=@List.drop_zero
theorem agT:type_of% @Bool.and_self:=@Bool.and_self
theorem ahj:type_of% @Nat.mul_le_mul:=@Nat.mul_le_mul
theorem ahm:type_of% @Int.toNat_natCast:=@Int.toNat_natCast
theorem ahH:type_of% @List.drop_length:=@List.drop_length
theorem ahN:type_of% @Int.lt_of_lt_of_le:=@Int.lt_of_lt_of_le
theorem ahX:type_of% @Int.mul_one:=@Int.mul_one
theorem ah8:type_of% @Region.noSelect_spec:=@Region.noSelect_spec
theorem ah9:type_of% @List.take_take:=@List.take_take
theorem ait:type_of% @Int.mul_add:=@Int.mul_add
section
theorem Cu{P:Program}{fn:Func}{R:Ending->World->Prop}{B:Code}{K:List KI}{i:Nat}{a:Act}{w:World}(S:World->Prop){id:Nat}(hm:P.follows .mixedOrders=true)(hc:nth B i=.region id (ak (nth B i)) true)(h:AtG P fn R B K i S (ak (nth B i)).size [] a w.drew):At P fn R B K i a w:=by
 unfold At;rw[hc];refine wp_region_any hm (BH (S0:=S) _ _ _ _ ?_);simpa [AtG,mkL,ak]using h
theorem zK{n s:Nat}:∀{D:List Nat},s∉D->s<n->(mkL n D).getD s true=false
 |[],_,h=>by simp[mkL,h]
 |j::D,hn,h=>by
  have h1:s≠j:=λe=>hn (by simp[e]);rw[mkL,ahU true (ahi h1)];exact zK (λhm=>hn (by simp[hm])) h
theorem Bg{ops:Array Oper}:¬storeDone ops (mkL ops.size []):=by
 rintro ⟨s,os,h1,_,h3⟩
 have hlt:=(afE.1 h1).1;simp_all [mkL]
section
variable {Z:Nat->Prop} {w0:World} {F:FT} {P:Program} {T:TT} {E:Env} {N:NT} {Fin:Nat->Cfg->Option (List RV)} {Rt:Ending->World->Prop} {r:List RV}
set_option maxHeartbeats 2000000 in
theorem wK(hT:eM P T=true)(hE:ln P E)(hI:inv w0)(hF:∀f fn,fV F f=some fn->P.funcs[f]?=some fn)(hm:P.follows .mixedOrders=true)
  (hRt:∀vs H G w ss tys,yh T H ss tys=some r->SR Z w0 H G w->b9 (Rel G (Av Z H G) w) ss vs->Rt (.returned (kM vs)) w)
  (hFin:∀i c G w a ats fn,Fin i c=some r->CR Z F w0 c G w a ats->fV F c.f=some fn->InLoop P (nth (aj F c.f) (i+1)) (io P fn (fw P F Rt c.fs ats) (aj F c.f) (iB P fn (fw P F Rt c.fs ats) (aj F c.f) c.K)) a w):
  ∀(m:Nat) (c:Cfg) (p:Pos),go P F T E N Fin m c p=some r->∀G w a ats fn,CR Z F w0 c G w a ats->fV F c.f=some fn->jG P F Rt c fn G w a ats p:=by
 have headOk:∀i c,head N Fin i c=some r->∀G w a ats fn,CR Z F w0 c G w a ats->fV F c.f=some fn->InLoop P (nth (aj F c.f) (i+1)) (io P fn (fw P F Rt c.fs ats) (aj F c.f) (iB P fn (fw P F Rt c.fs ats) (aj F c.f) c.K)) a w:=by
  intro i c h G w a ats fn hc hfn;unfold head at h;split at h
  ·split at h<;>try (cases h;done)
   rename_i c' hn;obtain⟨G',k1,k2,k3,k4⟩:=RC hn hc;have:=hFin i c' G' w a ats fn h k1 (by rw[k2];exact hfn);rw[k2,k3,k4]at this;exact this
  ·exact hFin i c G w a ats fn h hc hfn
 intro m;induction m using Nat.strongRecOn with
 |ind m0 ihs=>
 cases m0 with
 |zero=>intro c p h;simp[Qr]at h
 |succ m=>
  have ih:=ihs m (Nat.lt_succ_self m)
  have tail:∀(c:Cfg) (i:Nat) (la:List AlA) (ss:List AlS) (ats:List Act) (fn:Func) (n:Nat) (l:Array Bool) (L:SL) (G:List Value) (w:World) (a:Act),sd P F T E N Fin r c i la ss (m+1) n l L->lT c.H.length c.H->c.fl<=c.H.length->Region.noSelect (ak (nth (aj F c.f) i))=true->Clo (ak (nth (aj F c.f) i)) l->l.size=(ak (nth (aj F c.f) i)).size->SR Z w0 (cB (dn l) ss (c.H++alX (dn l) la)) G w->FR Z (ntm F c.f) L (cB (dn l) ss (c.H++alX (dn l) la)) G w a->FrsOk Z F (cB (dn l) ss (c.H++alX (dn l) la)) G w c.fl c.fs ats->fV F c.f=some fn->wpG P (ak (nth (aj F c.f) i)) (io P fn (fw P F Rt c.fs ats) (aj F c.f) (iB P fn (fw P F Rt c.fs ats) (aj F c.f) c.K)) (λ_=>True) n l a w:=by
   intro c i la ss ats fn n l L G w a hf hlow hfl hns hcl hsz k1 k2 k3 hfn;rcases hf with⟨D',q,_,e1,rfl,rfl,rfl,e2,e3,e4,e5⟩|⟨D',q,L0,ss',q1,q2,q3,qW,qS,eC,e2,e3,e4,e5,e6,e7,e8⟩|⟨D',q,j,o,_,_,rfl,rfl,rfl,e2,e2',hrd,ho1,e4,e5⟩
   ·rw[show cB (dn (mkL (ak (nth (aj F c.f) i)).size D')) [] (c.H++alX (dn (mkL (ak (nth (aj F c.f) i)).size D')) [])=c.H from afO _]at k1 k2 k3;refine xO _ _ _ _ (ihs q (by omega) _ _ e5 G w a ats fn ⟨k1,k2,hfl,k3⟩ hfn c.H G w (.inr ⟨Agr.refl,λ_ _ hx=>hx,λ_=>⟨rfl,rfl,rfl⟩,?_⟩) hcl hns n e2);rintro ⟨s,os,h1,h2,h3⟩
    have hlt:=(afE.1 h1).1
    have:s∈D':=by
     apply afF;intro hn;rw[zK hn hlt]at h3;cases h3
    have:=e3 s this os h1;rw[h2]at this;cases this
   ·have hst:cB (dn l) ss (c.H++alX (dn l) la)=cB (dn l) ss' (c.H++alX (dn l) la):=by
     rcases qS with⟨_,rfl,h⟩|⟨_,rfl,_⟩
     ·exact(pz (ss:=ss') h).symm
     ·rfl
    rw[hst]at k1 k2 k3;refine RQ (fl:=c.fl) (X:=λH G w=>FrsOk Z F H G w c.fl c.fs ats) hT hE hI q1 q2 q3 qW hlow e7 hfl (by rw[il]) (λH G w H' G' w' hx hp=>hx.ev hp (afs _)) (λn l G w a r1 r2 r3 r4 r5 r6 u1 u2 u3=>?_) n l e4 hsz e5 e6 hcl G w a k1 (k2.eqv e8) k3
    have hl:l=mkL (ak (nth (aj F c.f) i)).size ((la.map (·.i)++ss'.map (·.i))++D'):=by
     refine Array.ext (by rw[r2,il]) λk h1 h2=>?_;rw[show l[k]=l.getD k true by simp[h1],show(mkL (ak (nth (aj F c.f) i)).size ((la.map (·.i)++ss'.map (·.i))++D'))[k]=(mkL (ak (nth (aj F c.f) i)).size ((la.map (·.i)++ss'.map (·.i))++D')).getD k true by rw[agB,Array.getElem?_eq_getElem h2];rfl];by_cases hm:k∈(la.map (·.i)++ss'.map (·.i))++D'
     ·rw[E1 hm];rcases afL.1 hm with hm|hm
      ·exact r4 k hm
      ·have:=r3 k (by rw[jJ (by rw[il,<-r2];exact h1)];exact E1 hm);rw[jJ h1]at this;exact this
     ·rw[fo hm (by rw[<-r2];exact h1)];cases hq:l.getD k true with
      |false=>rfl
      |true=>
       exfalso;rw[afL,not_or]at hm;rcases r5 k hq with h|h
       ·rw[fo hm.2 (by rw[<-r2];exact h1)]at h;cases h
       ·exact hm.1 h
    subst hl;have hcu:=Lt (ak (nth (aj F c.f) i)).size ((la.map (·.i)++ss'.map (·.i))++D');refine BU ((ak (nth (aj F c.f) i)).size-((la.map (·.i)++ss'.map (·.i))++D').length) n _ _ _ (by omega) (xO _ _ _ _ (ihs q (by omega) _ _ e3 G w a ats fn ⟨u1,u2,by rw[rR,afN];exact afA hfl (Nat.le_add_right _ _),u3⟩ hfn (cB (λ_=>true) ss' (c.H++alX (λ_=>true) la)) G w ?_ r6 hns ((ak (nth (aj F c.f) i)).size-((la.map (·.i)++ss'.map (·.i))++D').length) (Nat.sub_add_cancel eC)));by_cases hsd:storeDone (ak (nth (aj F c.f) i)) (mkL (ak (nth (aj F c.f) i)).size ((la.map (·.i)++ss'.map (·.i))++D'))
    ·exact .inl ⟨hsd,rfl⟩
    ·exact .inr ⟨Agr.refl,λ_ _ hx=>hx,λe=>(by cases e),hsd⟩
   ·rw[show cB (dn (mkL (ak (nth (aj F c.f) i)).size D')) [] (c.H++alX (dn (mkL (ak (nth (aj F c.f) i)).size D')) [])=c.H from afO _]at k1 k2 k3;have hjr:j∈Region.ready .any (ak (nth (aj F c.f) i)) (mkL (ak (nth (aj F c.f) i)).size D'):=by rw[hrd];simp
    obtain⟨n',rfl⟩:∃n',n=n'+1:=⟨n-1,by omega⟩
    have hn':n'=(ak (nth (aj F c.f) i)).size-(j::D').length:=by simp;omega
    refine vH hrd (by simp) λk hk=>?_;have hk:k=j:=by simpa using hk
    subst hk;unfold wpOp;simp only[ho1];rcases fk k2 e5 with⟨L1,h1,hf1,hw⟩|⟨L1,h1,hf1,hw⟩
    ·rw[af2 hw];refine .inl ?_;unfold Oper.wp;split at h1<;>try (cases h1;done)
     rename_i g ss hin;obtain⟨f,args,tys,fg,caps,e1,e2,e3,e4,e5,e6,e7⟩:=Ig hf1 hin;have hcl2:dJ P g=true:=by unfold dJ;rw[hF g fg e2];simp only[e6,e7,agT]
     rw[mh hcl2 a.eval o f args tys caps e1 e3 w];obtain⟨B,hB⟩:=agi.1 e7;have hbf:aj F g=B:=by simp[aj,e2,hB]
     have hcal:Calls P g (args.map a.eval++caps) w (fw P F Rt ({f:=c.f,K:=c.K,i:=i,k:=k,L:=Em N c.f i L1,fl:=c.fl,d:=some (k::D')}::c.fs) (a::ats)):=by
      have hto:args.map a.eval++caps=(args.map a.eval++caps).toList.toArray:=by simp
      rw[hto];refine enter (hF g fg e2) hB (afM (by rw[<-eu e4];exact e5)) λa2 hst=>?_
      have:=ihs q (by omega) _ _ h1 G w a2 (a::ats) fg ⟨k1,⟨hst.defers,by rw[hst.size];simp[ntm,e2],lP e4 hst.slot⟩,afs _,⟨⟨hf1.defers,hf1.size,λt s hs=>hf1.slot t s (pC hs)⟩,λt s hs=>by obtain⟨v,_,hv⟩:=hf1.slot t s (pC hs);exact lQ k1 hv,⟨hfl,⟨fn,hfn⟩,λD hD=>by
       injection hD with hD;subst hD;exact⟨hcl.set hjr,hns,by simpa using e2'⟩⟩,k3⟩⟩ e2
      simp only[jG,iB]at this;rw[hbf]at this;exact this
     refine Calls.mono hcal ?_;rintro e w' ⟨v,rfl,fn',o',q1,q2,_,q3⟩
     have q3:=q3 _ rfl;simp only at q1 q2 q3;rw[hfn]at q1;injection q1 with q1;subst q1;rw[ho1]at q2;injection q2 with q2;subst q2;refine⟨.inr trivial,?_⟩;rw[hn'];exact q3
    ·rw[afQ (by rw[hw];simp)];split at h1<;>try (cases h1;done)
     rename_i L2 hp2;refine⟨.inr trivial,?_⟩;rw[hn'];exact ihs q (by omega) _ _ h1 G w (a.put o.dst undef) ats fn ⟨k1,hf1.put hp2 rfl,hfl,k3⟩ hfn (λ_=>True) (λ_ _ _ _=>trivial) (.inr trivial) (hcl.set hjr) hns _ (Nat.sub_add_cancel (by simpa using e2'))
  intro c p h G w a ats fn hc hfn;have h0:=h;rw[QU]at h;unfold stC at h;split at h
  ·-- nrm
   split at h
   ·rename_i hK;have:=ih _ _ h G w a ats fn ⟨hc.sr,hc.fr,hc.fl,hc.frs⟩ hfn;simp only[jG]at this ⊢;rw[hK];exact this
   ·rename_i j K hK;have:=ih _ _ h G w a ats fn ⟨hc.sr,hc.fr,hc.fl,hc.frs⟩ hfn;simp only[jG]at this ⊢;rw[hK];exact this
   ·rename_i id K hK;have:=ih _ _ h G w a ats fn ⟨hc.sr,hc.fr,hc.fl,hc.frs⟩ hfn;simp only[jG]at this ⊢;rw[hK];exact this
   ·rename_i i K hK;have:=headOk i {c with K:=K} h G w a ats fn ⟨hc.sr,hc.fr,hc.fl,hc.frs⟩ hfn;simp only[jG];rw[hK];exact this
  ·-- node
   rename_i i;simp only[jG];split at h
   ·rename_i hn;exact QQ hn (ih _ _ h G w a ats fn hc hfn)
   ·rename_i x y hn;have:=ih _ _ h G w a ats fn ⟨hc.sr,hc.fr,hc.fl,hc.frs⟩ hfn;exact we (Qt hn) this
   ·rename_i id x hn;have:=ih _ _ h G w a ats fn ⟨hc.sr,hc.fr,hc.fl,hc.frs⟩ hfn;exact LX (IL hn) this
   ·rename_i id hn;split at h<;>try (cases h;done)
    rename_i K hK;have:=ih _ _ h G w a ats fn ⟨hc.sr,hc.fr,hc.fl,hc.frs⟩ hfn;exact Q2 hn (PN (vj hK) this)
   ·rename_i hn;exact ET hn (ih _ _ h G w a ats fn hc hfn)
   ·rename_i x p q hn;split at h<;>try (cases h;done)
    rename_i b hb;have hv:=rG (aI hc.fr hb);unfold At;rw[JT hn];split at h
    ·exact wp_cond_true hv (ih _ _ h G w a ats fn hc hfn)
    ·exact wp_cond_false hv (ih _ _ h G w a ats fn hc hfn)
   ·rename_i x hn;unfold At;rw[Mb hn];exact(headOk i c h G w a ats fn hc hfn).wp
   ·rename_i id ops hn;have:=ih _ _ h G w a ats fn hc hfn;exact lS (id:=id) (by rw[hn];rfl) this
   ·rename_i id ops hn;split at h<;>try (cases h;done)
    rename_i hns;have hops:ak (nth (aj F c.f) i)=ops:=by rw[hn];rfl
    have hb:Below w.heap.size w w.drew:=(aid _ _).drew;have hsg:=ur hc.sr hb;have hev:Ev Z c.fl c.H G w c.H G w.drew:=λs v hs _=>du hc.sr hsg hs;have hcr:CR Z F w0 c G w.drew a ats:=⟨GZ hc.sr hb,hc.fr.keep λs v hs=>du hc.sr hsg hs,hc.fl,hc.frs.ev hev (afs _)⟩
    split at h
    ·refine Cu (λ_=>True) hm (id:=id) (by rw[hn];rfl) ?_;split at h
     ·exact ih _ _ h G w.drew a ats fn hcr hfn rfl (by rw[hops];exact hns)
     ·exact ih _ _ h G w.drew a ats fn hcr hfn rfl (by rw[hops];exact hns)
    refine Cu (Agr (!(ops.any λo=>uJ o.op)) c.H G w.drew) hm (id:=id) (by rw[hn];rfl) ?_;exact ih _ _ h G w.drew a ats fn hcr hfn c.H G w.drew (.inr ⟨Agr.refl,λ_ _ hx=>hx,λ_=>⟨rfl,rfl,rfl⟩,Bg⟩) sF (by rw[hops];exact hns) _ (by simp)
   ·cases h
  ·-- ops
   rename_i i k;simp only[jG];split at h
   ·rename_i hk;exact Rf hk (ih _ _ h G w a ats fn hc hfn)
   ·rename_i o hk;rcases fk hc.fr h with⟨L1,h1,hf1,hw⟩|⟨L1,h1,hf1,hw⟩
    ·refine Qe hk hw ?_;split at h1
     ·split at h1<;>try (cases h1;done)
      rename_i hfz;obtain⟨g1,g2,g3,g4,g5⟩:=Wp hc.sr hf1 hfz;obtain⟨s,v,h2,h3,h4⟩:=ml hT g1 g2 h1;split at h2<;>try (cases h2;done)
      rename_i L2 hp;rw[h4 w (λ_=>Agr.refl)];exact ih _ _ h2 G w (a.put o.dst v) ats fn ⟨g1,g2.put hp h3,afA hc.fl (Nat.le_of_eq g5),hc.frs.evF g3 (afs _)⟩ hfn
     ·split at h1
      ·rename_i g ss hin;obtain⟨f,args,tys,fg,caps,e1,e2,e3,e4,e5,e6,e7⟩:=Ig hf1 hin;have hcl:dJ P g=true:=by unfold dJ;rw[hF g fg e2];simp only[e6,e7,agT]
       rw[mh hcl a.eval o f args tys caps e1 e3 w];obtain⟨B,hB⟩:=agi.1 e7;have hbf:aj F g=B:=by simp[aj,e2,hB]
       have hcal:Calls P g (args.map a.eval++caps) w (fw P F Rt ({f:=c.f,K:=c.K,i:=i,k:=k,L:=Em N c.f i L1,fl:=c.fl}::c.fs) (a::ats)):=by
        have hto:args.map a.eval++caps=(args.map a.eval++caps).toList.toArray:=by simp
        rw[hto];refine enter (hF g fg e2) hB (afM (by rw[<-eu e4];exact e5)) λa2 hst=>?_;have:=ih _ _ h1 G w a2 (a::ats) fg ⟨hc.sr,⟨hst.defers,by rw[hst.size];simp[ntm,e2],lP e4 hst.slot⟩,afs _,⟨⟨hf1.defers,hf1.size,λt s hs=>hf1.slot t s (pC hs)⟩,λt s hs=>by obtain⟨v,_,hv⟩:=hf1.slot t s (pC hs);exact lQ hc.sr hv,⟨hc.fl,⟨fn,hfn⟩,λD hD=>by cases hD⟩,hc.frs⟩⟩ e2;simp only[jG,iB]at this;rw[hbf]at this;exact this
       refine Calls.mono hcal ?_;rintro e w' ⟨v,rfl,fn',o',q1,q2,q3,_⟩
       have q3:=q3 rfl;simp only at q1 q2 q3;rw[hfn]at q1;injection q1 with q1;subst q1;rw[hk]at q2;injection q2 with q2;subst q2;exact q3
      ·refine tz hT hE hI hc.sr hf1 h1 λs H' L2 G' w' v h2 h3 h4 h5 h6=>?_;split at h2<;>try (cases h2;done)
       rename_i L3 hp;exact ih _ _ h2 G' w' (a.put o.dst v) ats fn ⟨h3,h4.put hp h5,afA hc.fl h6.len,hc.frs.evF h6.pres (afs _)⟩ hfn
    ·refine WW hk hw ?_;split at h1<;>try (cases h1;done)
     rename_i L2 hp;exact ih _ _ h1 G w (a.put o.dst undef) ats fn ⟨hc.sr,hf1.put hp rfl,hc.fl,hc.frs⟩ hfn
  ·-- drw
   rename_i i rw eff D;simp only[jG];intro Hs Gs ws hinv hclo hns m' hm';split at h
   ·exact ih _ _ h G w a ats fn hc hfn (Agr rw Hs Gs ws) (λw w' hw ho=>⟨afA hw.1 ho.1,λb hb hor=>(ho.2 b (ahc hb hw.1)).trans (hw.2 b hb hor)⟩) (hinv.elim (λh=>.inl h.1) (λh=>.inr h.1)) hclo hns m' hm'
   split at h
   ·rename_i hrd;exact w8 hrd (ih _ _ h G w a ats fn hc hfn) _
   ·rename_i rs hrd;split at h<;>try (cases h;done)
    rename_i hlen;have hlen:=aft hlen;obtain⟨m'',rfl⟩:∃m'',m'=m''+1:=⟨m'-1,by omega⟩
    have hsst:Sst (ak (nth (aj F c.f) i)) (Agr rw Hs Gs ws) (mkL (ak (nth (aj F c.f) i)).size D) w:=hinv.elim (λh=>.inl h.1) (λh=>.inr h.1);split at h
    ·rename_i j hj;obtain⟨j1,o,j2,j3,j4,j5,j6⟩:=CP hj;rw[j2]at h;dsimp only at h;have hns1:dN o.op=false:=G8 j3;have hclo':Clo (ak (nth (aj F c.f) i)) (mkL (ak (nth (aj F c.f) i)).size (j::D)):=hclo.set j1
     have hinv':(storeDone (ak (nth (aj F c.f) i)) (mkL (ak (nth (aj F c.f) i)).size (j::D))/\eff=true)\/(Agr rw Hs Gs ws w/\(∀b,b<ws.heap.size->jf c.H G b->jf Hs Gs b)/\(eff=false->c.H=Hs/\G=Gs/\w=ws)/\¬storeDone (ak (nth (aj F c.f) i)) (mkL (ak (nth (aj F c.f) i)).size (j::D))):=
      hinv.elim (λh=>.inl ⟨h.1.set j,h.2⟩) λh=>.inr ⟨h.1,h.2.1,h.2.2.1,λh'=>h.2.2.2 (h'.unset j2 hns1)⟩
     have take:∀{v:Value},YieldsIf P (ak (nth (aj F c.f) i)) (λw'=>m8 o.op=true->Agr rw Hs Gs ws w') o v a->AtG P fn (fw P F Rt c.fs ats) (aj F c.f) (iB P fn (fw P F Rt c.fs ats) (aj F c.f) c.K) i (Agr rw Hs Gs ws) m'' (j::D) (a.put o.dst v) w->AtG P fn (fw P F Rt c.fs ats) (aj F c.f) (iB P fn (fw P F Rt c.fs ats) (aj F c.f) c.K) i (Agr rw Hs Gs ws) (m''+1) D a w:=by
      intro v hy hk;cases hl:m8 o.op with
      |true=>
       obtain⟨he,haw⟩:=j4 hl;obtain⟨hagr,_,_,hun⟩:=hinv.resolve_left (λh=>by rw[he]at h;cases h.2);have hy':YieldsIf P (ak (nth (aj F c.f) i)) (Agr rw Hs Gs ws) o v a:=hy.imp (λh=>⟨h.1,λw' hS=>h.2 w' λ_=>hS⟩) id;exact Jj j2 (ah8 hns) (λcc a w hq=>mU _ cc a _ _ w hq) hns1 haw m'' _ a w (agY j2 j6) hclo hun j1 hy' hagr hk
      |false=>
       have hy':YieldsIf P (ak (nth (aj F c.f) i)) (λ_=>True) o v a:=hy.imp (λh=>⟨h.1,λw' _=>h.2 w' λh'=>by rw[hl]at h';cases h'⟩) id;exact DW j2 (ah8 hns) (λcc a w hq=>mU _ cc a _ _ w hq) hns1 m'' _ a w (agY j2 j6) j1 hy' hsst hk
     rcases fk hc.fr h with⟨L1,h1,hf1,hw⟩|⟨L1,h1,hf1,hw⟩
     ·obtain⟨s,v,h2,h3,h4⟩:=ml hT hc.sr hf1 h1;split at h2<;>try (cases h2;done)
      rename_i L2 hp;refine take (v:=v) (.inl ⟨hw,λw' hS=>h4 w' λhl=>?_⟩) ?_
      ·obtain⟨he,_⟩:=j4 hl;obtain⟨_,_,heff,_⟩:=hinv.resolve_left (λh=>by rw[he]at h;cases h.2);obtain⟨e1,e2,e3⟩:=heff he;rw[e1,e2,e3];exact hS hl
      ·exact ih _ _ h2 G w (a.put o.dst v) ats fn ⟨hc.sr,hf1.put hp h3,hc.fl,hc.frs⟩ hfn Hs Gs ws hinv' hclo' hns m'' (by simp;omega)
     ·split at h1<;>try (cases h1;done)
      rename_i L2 hp;refine take (v:=undef) (.inr ⟨hw,rfl⟩) ?_;exact ih _ _ h1 G w (a.put o.dst undef) ats fn ⟨hc.sr,hf1.put hp rfl,hc.fl,hc.frs⟩ hfn Hs Gs ws hinv' hclo' hns m'' (by simp;omega)
    ·refine vH (rs:=Region.ready .any (ak (nth (aj F c.f) i)) (mkL (ak (nth (aj F c.f) i)).size D)) rfl (by assumption) λk hk=>?_;have h:=zM h k hk;split at h<;>try (cases h;done)
     rename_i o j2;have hclo':Clo (ak (nth (aj F c.f) i)) (mkL (ak (nth (aj F c.f) i)).size (k::D)):=hclo.set hk;have hsst':Sst (ak (nth (aj F c.f) i)) (Agr rw Hs Gs ws) (mkL (ak (nth (aj F c.f) i)).size (k::D)) w:=hsst.set k;have sdone:dN o.op=true->storeDone (ak (nth (aj F c.f) i)) (mkL (ak (nth (aj F c.f) i)).size (k::D)):=λh=>⟨k,o,j2,h,pV _ _⟩
     have hinv':dN o.op=false->(storeDone (ak (nth (aj F c.f) i)) (mkL (ak (nth (aj F c.f) i)).size (k::D))/\eff=true)\/(Agr rw Hs Gs ws w/\(∀b,b<ws.heap.size->jf c.H G b->jf Hs Gs b)/\(eff=false->c.H=Hs/\G=Gs/\w=ws)/\¬storeDone (ak (nth (aj F c.f) i)) (mkL (ak (nth (aj F c.f) i)).size (k::D))):=
      λhns1=>hinv.elim (λh=>.inl ⟨h.1.set k,h.2⟩) λh=>.inr ⟨h.1,h.2.1,h.2.2.1,λh'=>h.2.2.2 (h'.unset j2 hns1)⟩
     unfold wpOp;simp only[j2];rcases fk hc.fr h with⟨L1,h1,hf1,hw⟩|⟨L1,h1,hf1,hw⟩
     ·rw[af2 hw];refine .inl ?_;unfold Oper.wp;split at h1
      ·rename_i hq;have hns1:dN o.op=false:=G8 hq;obtain⟨s,v,h2,h3,h4⟩:=ml hT hc.sr hf1 h1;split at h2<;>try (cases h2;done)
       rename_i L2 hp;rw[h4 w (λ_=>Agr.refl)];exact⟨hsst',ih _ _ h2 G w (a.put o.dst v) ats fn ⟨hc.sr,hf1.put hp h3,hc.fl,hc.frs⟩ hfn Hs Gs ws (hinv' hns1) hclo' hns m'' (by simp;omega)⟩
      ·split at h1<;>try (cases h1;done)
       rename_i hcond;simp only[ahz]at hcond;obtain⟨hst1,hst2⟩:=hcond;simp only[Bool.and_eq_false_iff]at hst2;refine tz hT hE hI hc.sr hf1 h1 λs H' L2 G' w' v h2 h3 h4 h5 h6=>?_;split at h2<;>try (cases h2;done)
       rename_i L3 hp;have hcr:CR Z F w0 {c with L:=L3,H:=H'} G' w' (a.put o.dst v) ats:=⟨h3,h4.put hp h5,afA hc.fl h6.len,hc.frs.evF h6.pres (afs _)⟩
       cases hiss:dN o.op with
       |true=>exact⟨.inl (sdone hiss),ih _ _ h2 G' w' (a.put o.dst v) ats fn hcr hfn Hs Gs ws (.inl ⟨sdone hiss,rfl⟩) hclo' hns m'' (by simp;omega)⟩
       |false=>
        rcases hinv with hinv|⟨hagr,hrows,heff,hun⟩
        ·exact⟨.inl (hinv.1.set k),ih _ _ h2 G' w' (a.put o.dst v) ats fn hcr hfn Hs Gs ws (.inl ⟨hinv.1.set k,rfl⟩) hclo' hns m'' (by simp;omega)⟩
        ·have hag:=h6.agr.resolve_left (by rw[hiss,hst1];simp)
         have hagr':Agr rw Hs Gs ws w':=by
          refine⟨afA hagr.1 hag.1.1,λb hb hor=>?_⟩;rw[<-hagr.2 b hb hor];refine hag.1.2 b (ahc hb hagr.1) ?_;rcases hst2 with h7|h7
          ·left;rw[h7];rfl
          ·right;rcases hor with hor|hor
           ·rw[h7]at hor;cases hor
           ·exact λhx=>hor (hrows b hb hx)
         exact⟨.inr hagr',ih _ _ h2 G' w' (a.put o.dst v) ats fn hcr hfn Hs Gs ws (.inr ⟨hagr',λb hb hx=>hrows b hb (hag.2 b (ahc hb hagr.1) hx),(λe=>by cases e),λh'=>hun (h'.unset j2 hiss)⟩) hclo' hns m'' (by simp;omega)⟩
     ·rw[afQ (by rw[hw];simp)];split at h1<;>try (cases h1;done)
      rename_i L2 hp;refine⟨hsst',ih _ _ h1 G w (a.put o.dst undef) ats fn ⟨hc.sr,hf1.put hp rfl,hc.fl,hc.frs⟩ hfn Hs Gs ws ?_ hclo' hns m'' (by simp;omega)⟩;cases hiss:dN o.op with
      |true=>exact .inl ⟨sdone hiss,by simp⟩
      |false=>simpa using hinv' hiss
  ·-- tam
   rename_i i D;clear h;simp only[jG];intro hD0 hns;subst hD0
   have hlow:∀t s,aJ c.L t=some s->s.refsT c.H.length=true:=λt s hs=>by
    obtain⟨v,_,hv⟩:=hc.fr.slot t s hs;exact lQ hc.sr hv
   obtain⟨la,ss,hp,hnew,hrun⟩:=GR hT hE (c:=c) (m+1) [] c.L h0 (by rw[FP];rfl) (λj hj=>by cases hj) hlow sF
   obtain⟨G1,g1,g2,g3⟩:=xL (dn (mkL (ak (nth (aj F c.f) i)).size [])) (la:=la) (λx hx=>by
    obtain⟨⟨o,ho,_⟩,_⟩:=hp.la2 x hx;exact fo (by simp) (afE.1 ho).1) hc.sr hc.fr
   have hst0:cB (dn (mkL (ak (nth (aj F c.f) i)).size [])) ss (c.H++alX (dn (mkL (ak (nth (aj F c.f) i)).size [])) la)=c.H++alX (dn (mkL (ak (nth (aj F c.f) i)).size [])) la:=pz λs hs=>by
    obtain⟨⟨o,ho,_⟩,_⟩:=hp.ss1 s hs;exact fo (by simp) (afE.1 ho).1
   refine TRun.sound (T:=T) (S0:=λ_=>True) (λ_ _ h _=>h) (λ_ _=>trivial) (fl:=c.fl) (X:=λH G w=>FrsOk Z F H G w c.fl c.fs ats) hT hE hI (ah8 hns) (mU _) wM Fx hp hnew (sS hc.sr) hc.fl (λH G w H' G' w' hx hp=>hx.ev hp (afs _)) (λn l L G w a hf ho hcl hsz hL k1 k2 k3=>?_) _ _ _ hrun sF (by rw[il]) (λt s hs=>.inl (hlow t s hs)) G1 w a (by rw[hst0];exact g1) (by rw[hst0];exact g2) (by rw[hst0];exact hc.frs.ev (λs v h _=>g3 s v h) (afs _)) trivial;exact tail c i la ss ats fn n l L G w a (hf.resolve_right λh=>h.1) (sS hc.sr) hc.fl hns hcl hsz k1 k2 k3 hfn
  ·-- tbx
   rename_i i D;clear h;simp only[jG];intro hD0 hns;subst hD0
   have hlow:∀t s,aJ c.L t=some s->s.refsT c.H.length=true:=λt s hs=>by
    obtain⟨v,_,hv⟩:=hc.fr.slot t s hs;exact lQ hc.sr hv
   obtain⟨la,ss,Φ,hstr,hp,hnew,hdd,hrun⟩:=Qv hT hE (c:=c) (m+1) [] c.L c.H h0 (by rw[FP];rfl) (λj hj=>by cases hj) hlow sF
   obtain⟨G1,g1,g2,g3⟩:=xL (dn (mkL (ak (nth (aj F c.f) i)).size [])) (la:=la) (λx hx=>by
    obtain⟨⟨o,ho,_⟩,_⟩:=hp.la2 x hx;exact fo (by simp) (afE.1 ho).1) hc.sr hc.fr
   have hst0:cB (dn (mkL (ak (nth (aj F c.f) i)).size [])) ss (c.H++alX (dn (mkL (ak (nth (aj F c.f) i)).size [])) la)=c.H++alX (dn (mkL (ak (nth (aj F c.f) i)).size [])) la:=pz λs hs=>by
    obtain⟨⟨o,ho,_⟩,_⟩:=hp.ss1 s hs;exact fo (by simp) (afE.1 ho).1
   have hml:(c.H.map ddJ).length=c.H.length:=agS _;have hlen:(Φ c.H).length=c.H.length:=by rw[<-agS (f:=ddJ),hdd,hml]
   have hlowΦ:lT (Φ c.H).length (Φ c.H):=by rw[hlen];exact Gn (by rw[hdd];exact Dv (sS hc.sr))
   have hlate:∀(j:Nat) (oj:Oper),(ak (nth (aj F c.f) i))[j]?=some oj->aV oj=true->eG E (ak (nth (aj F c.f) i)) j=false:=λj oj hoj hal=>by
    unfold eG;rw[hoj];dsimp only;rw[hal];simp
   have hclΦ:c.fl<=(Φ c.H).length:=by rw[hlen];exact hc.fl
   refine TRunB.sound (T:=T) (Hf:=Φ c.H) (fl:=c.fl) (X:=λH G w=>FrsOk Z F H G w c.fl c.fs ats) hT hE hI (λn l L j oj hf hcl hj ho hoj hal=>?_) (λhlo=>by rw[hstr]at hlo;cases hlo) hp (λs hs=>by rw[hml];exact hnew s hs) (by rw[hml];exact Dv (sS hc.sr)) (by rw[hml];exact hc.fl) (λH G w H' G' w' hx hp=>hx.ev hp (afs _)) (λn l L G w a ho hf hcl hsz hL k1 k2 k3=>?_) _ _ _ _ hrun c.H rfl rfl sF (by rw[il]) (λt s hs=>.inl (by rw[hml];exact hlow t s hs)) G1 w a (by rw[hst0];exact g1) (by rw[hst0];exact g2) (by rw[hst0];exact hc.frs.ev (λs v h _=>g3 s v h) (afs _))
   ·obtain⟨n',r',x,L',e1,e2,e3,e4,e5,e6,e7,e8⟩:=wM n l L j oj hf hj ho hoj hal;have hon:=yK ho j (hlate j oj hoj hal);exact⟨n',r',x,L',e1,e2,e3,e4,e5,e6,(by rw[hml,<-hlen];exact e7),hon,e8.fin hon (hcl.set hj)⟩
   exact tail {c with H:=Φ c.H} i la ss ats fn n l L G w a hf hlowΦ hclΦ hns hcl hsz k1 k2 k3 hfn
  ·-- tal
   rename_i i D;clear h;simp only[jG];intro S0 hS0 hSt hclo hns m' hm'
   have hlow:∀t s,aJ c.L t=some s->s.refsT c.H.length=true:=λt s hs=>by
    obtain⟨v,_,hv⟩:=hc.fr.slot t s hs;exact lQ hc.sr hv
   have hrun:=QV hT hE (c:=c) (m+1) D c.L h0 (by omega);have e:m'=(ak (nth (aj F c.f) i)).size-D.length:=by omega
   subst e
   have key:∀S1:World->Prop,(∀w w',S1 w->Old w w'->S1 w')->S1 w->wpG P (ak (nth (aj F c.f) i)) (io P fn (fw P F Rt c.fs ats) (aj F c.f) (iB P fn (fw P F Rt c.fs ats) (aj F c.f) c.K)) S1 ((ak (nth (aj F c.f) i)).size-D.length) (mkL (ak (nth (aj F c.f) i)).size D) a w:=λS1 hS1 hw1=>by
    refine TRun.sound (T:=T) (S0:=S1) (la:=[]) (ss:=[]) hS1 (λh=>(h rfl).elim) (fl:=c.fl) (X:=λH G w=>FrsOk Z F H G w c.fl c.fs ats) hT hE hI (ah8 hns) (mU _) (λ_ _ _ _ _ h=>h.elim) (λ_ _ _ _ _ _ h=>h.elim) (N:=ntm F c.f) ⟨List.Pairwise.nil,λa ha=>(by cases ha),λs hs=>(by cases hs),List.Pairwise.nil⟩ (λs hs=>by cases hs) (sS hc.sr) hc.fl (λH G w H' G' w' hx hp=>hx.ev hp (afs _)) (λn l L G w a hf ho hcl hsz hL k1 k2 k3=>?_) _ _ _ hrun hclo (by rw[il]) (λt s hs=>.inl (hlow t s hs)) G w a (by rw[show cB (dn (mkL (ak (nth (aj F c.f) i)).size D)) [] (c.H++alX (dn (mkL (ak (nth (aj F c.f) i)).size D)) [])=c.H from afO _];exact hc.sr) (by rw[show cB (dn (mkL (ak (nth (aj F c.f) i)).size D)) [] (c.H++alX (dn (mkL (ak (nth (aj F c.f) i)).size D)) [])=c.H from afO _];exact hc.fr) (by rw[show cB (dn (mkL (ak (nth (aj F c.f) i)).size D)) [] (c.H++alX (dn (mkL (ak (nth (aj F c.f) i)).size D)) [])=c.H from afO _];exact hc.frs) hw1;rcases hf with h|⟨⟨q,hq,hgo⟩,hrd⟩
    ·exact h.elim
    ·rw[show cB (dn l) [] (c.H++alX (dn l) [])=c.H from afO _]at k1 k2 k3;exact w8 hrd (ihs q (by omega) _ _ hgo G w a ats fn ⟨k1,k2,hc.fl,k3⟩ hfn) _
   rcases hSt with h|h
   ·exact Nh _ _ _ _ h (key (λ_=>True) (λ_ _ _ _=>trivial) trivial)
   ·exact key S0 hS0 h
  ·-- ret
   simp only[jG];rw[hfn]at h;dsimp only at h;split at h<;>try (cases h;done)
   rename_i ss hss;split at h
   ·rename_i hfs;rw[hfs]
    have hats:ats=[]:=by
     have:=hc.frs;rw[hfs]at this;cases ats with
     |nil=>rfl
     |cons=>exact this.elim
    subst hats;exact KX hT hc.sr hc.fr hss λvs hvs=>hRt vs _ _ _ _ _ h hc.sr hvs
   ·rename_i g K2 i2 q2 L3 fl2 d2 fs hfs;split at h<;>try (cases h;done)
    rename_i o ho;split at h<;>try (cases h;done)
    rename_i L2 hp hgood;have hfrs:=hc.frs;rw[hfs]at hfrs ⊢;match ats,hfrs with
    |a0::ats,⟨k1,k2,k3,k4⟩=>
     obtain⟨k3,⟨fn',hfn'⟩,k5⟩:=k3;refine KX hT hc.sr hc.fr hss λvs hvs=>⟨_,rfl,fn',o,hfn',ho,?_⟩
     have hb:=JS (λs hs l e=>by subst e;have:=afI.1 hgood _ hs;simp[SV.good]at this) hvs;split at h
     ·exact⟨λ_=>ih _ _ h G w (a0.put o.dst _) ats fn' ⟨hc.sr,k1.put hp hb,afA k3 hc.fl,k4⟩ hfn',λD hD=>by cases hD⟩
     ·rename_i D;refine⟨λhD=>(by cases hD),λD' hD=>?_⟩;injection hD with hD;subst hD;obtain⟨d1,d2,d3⟩:=k5 D rfl;exact ih _ _ h G w (a0.put o.dst _) ats fn' ⟨hc.sr,k1.put hp hb,afA k3 hc.fl,k4⟩ hfn' (λ_=>True) (λ_ _ _ _=>trivial) (.inr trivial) d1 d2 _ (Nat.sub_add_cancel d3)
end
end
structure Ctx where
 P:Program
 F:FT
 T:TT
 E:Env
 N:NT
structure Ctx.Ok (C:Ctx):Prop where
 T:eM C.P C.T=true
 E:ln C.P C.E
 F:∀f fn,fV C.F f=some fn->C.P.funcs[f]?=some fn
 m:C.P.follows .mixedOrders=true
def Ctx.k(C:Ctx)(n:Nat):Nat->Cfg->Option (List RV):=run C.P C.F C.T C.E C.N n
def Ctx.Runs(C:Ctx)(i:Nat)(c:Cfg)(r:List RV):Prop:=∃n,C.k n i c=some r
def Ctx.RunsE(C:Ctx)(i:Nat)(c:Cfg)(r:List RV):Prop:=∃n0,∀n,n0<=n->C.k n i c=some r
def Ctx.go(C:Ctx)(n:Nat)(c:Cfg)(p:Pos):Option (List RV):=Proofs.YtagbmoohboleaaaGreat.go C.P C.F C.T C.E C.N (C.k n) 4000 c p
def Ctx.Res(C:Ctx)(f:Nat)(args:List SV)(r:List RV):Prop:=∃n,C.go n (p6 f args) (.node 0)=some r
theorem Ctx.Runs.step{C:Ctx}{i:Nat}{c:Cfg}{r:List RV}(h:∃n,C.go n {c with K:=.lp i::c.K} (.node (i+1))=some r):C.Runs i c r:=by
 obtain⟨n,h⟩:=h;exact⟨n+1,h⟩
def okF(fn:Func)(k:Nat):Bool:=fn.body.isSome&&Nat.ble k fn.ntmps
theorem yM{C:Ctx}(ok:C.Ok){Z:Nat->Prop}{w0:World}(hI:inv w0){Rt:Ending->World->Prop}{r:List RV}(hRt:∀vs H G w ss tys,yh C.T H ss tys=some r->SR Z w0 H G w->b9 (Rel G (Av Z H G) w) ss vs->Rt (.returned (kM vs)) w):
  ∀n i c G w a ats fn,run C.P C.F C.T C.E C.N n i c=some r->CR Z C.F w0 c G w a ats->fV C.F c.f=some fn->InLoop C.P (nth (aj C.F c.f) (i+1)) (io C.P fn (fw C.P C.F Rt c.fs ats) (aj C.F c.f) (iB C.P fn (fw C.P C.F Rt c.fs ats) (aj C.F c.f) c.K)) a w:=by
 intro n;induction n with
 |zero=>intro i c G w a ats fn h;simp[run]at h
 |succ n ih=>
  intro i c G w a ats fn h hc hfn;have:=wK ok.T ok.E hI ok.F ok.m hRt (λi c G w a ats fn h1 h2 h3=>ih i c G w a ats fn h1 h2 h3) 4000 _ _ h G w a ats fn ⟨hc.sr,hc.fr,hc.fl,hc.frs⟩ hfn;exact InLoop.step this
theorem Ctx.Res.con{C:Ctx}(ok:C.Ok){f:Nat}{fn:Func}{args:List SV}{r:List RV}(h:C.Res f args r)(hfn:fV C.F f=some fn)(hk:okF fn args.length=true):Con C.P f args r:=by
 intro A w vs hI ha;obtain⟨n,h⟩:=h;simp only[okF,afr]at hk;obtain⟨B,hB⟩:=agi.1 hk.1;have hbf:aj C.F f=B:=by simp[aj,hfn,hB]
 let Z:Nat->Prop:=λb=>A b\/w.heap.size<=b
 have hkp:Keeps A (Av Z [] []) w w:=⟨afs _,λb _ hA=>⟨.inl hA,λj it g h=>by simp at h⟩,λ_ _ _=>rfl⟩
 have ha2:b9 (Rel [] (Av Z [] []) w) args vs:=aU (λs v h=>d7 (h.keep hkp λj g _ h=>h)) ha;refine enter (ok.F f fn hfn) hB (afM (by rw[<-eu ha];exact aft hk.2)) λa hst=>?_;have hsr:SR Z w [] [] w:=⟨rfl,aid _ _,λj it g h=>by simp at h,λi j it jt g h b _ h1=>by simp at h1,λb hb=>.inr hb⟩
 let Rt:Ending->World->Prop:=λe w'=>∃v,e=.returned v/\Below w.heap.size w w'/\mq Z w.heap.size w' r v
 have hRt:∀vs H G w' ss tys,yh C.T H ss tys=some r->SR Z w H G w'->b9 (Rel G (Av Z H G) w') ss vs->Rt (.returned (kM vs)) w':=λvs H G w' ss tys h1 h2 h3=>⟨_,rfl,h2.below,ML ok.T h2 h1 h3⟩
 have:=wK ok.T ok.E hI ok.F ok.m hRt (λi c G w a ats fn h1 h2 h3=>yM ok hI hRt n i c G w a ats fn h1 h2 h3) 4000 _ _ h [] w a [] fn ⟨hsr,⟨hst.defers,by rw[hst.size];simp[ntm,p6,hfn],lP ha2 hst.slot⟩,afs _,trivial⟩ hfn;simp only[jG,p6]at this;rwa [hbf]at this
def wB(f p:Nat)(args:List SV):Cfg:=match args[p]? with
 |some (.d (.sl e) xs)=>{f:=f,K:=[],L:=rH 0 (args.set p (.own 0)),H:=[.len e xs],fl:=0,fs:=[]}
 |_=>p6 f args
def Ctx.ResL(C:Ctx)(f p:Nat)(args:List SV)(r:List RV):Prop:=∃n,C.go n (wB f p args) (.node 0)=some r
theorem wm{A:Nat->Prop}{w:World}:∀{p:Nat} {args:List SV} {vs:List Value},Re A w p args vs->∃s g,args[p]?=some s/\vs[p]?=some g/\Ga A w s g/\∀R:SV->Value->Prop,(∀s v,Rel1 [] A w s v->R s v)->R (.own 0) g->b9 R (args.set p (.own 0)) vs
 |0,s::l,v::vs,⟨h1,h2⟩=>⟨s,v,rfl,rfl,h1,λR k1 k2=>⟨k2,aU k1 h2⟩⟩
 |p+1,s::l,v::vs,⟨h1,h2⟩=>by
  obtain⟨s',g,g1,g2,g3,g4⟩:=wm h2;exact⟨s',g,g1,g2,g3,λR k1 k2=>⟨k1 _ _ h1,g4 R k1 k2⟩⟩
theorem Ctx.ResL.con{C:Ctx}(ok:C.Ok){f p:Nat}{fn:Func}{args:List SV}{r:List RV}(h:C.ResL f p args r)(hfn:fV C.F f=some fn)(hk:okF fn args.length=true):ConL C.P f p args r:=by
 intro A w vs hI ha;obtain⟨n,h⟩:=h;obtain⟨_,g,a1,a2,⟨e,xs,et,css,rfl,ho,hrd,hn,hA⟩,a4⟩:=wm ha;simp only[okF,afr]at hk;obtain⟨B,hB⟩:=agi.1 hk.1;have hbf:aj C.F f=B:=by simp[aj,hfn,hB]
 have hs:wB f p args={f:=f,K:=[],L:=rH 0 (args.set p (.own 0)),H:=[.len e xs],fl:=0,fs:=[]}:=by simp only[wB,a1]
 let Z:Nat->Prop:=λb=>A b\/w.heap.size<=b
 have one:∀(j:Nat) (it:Item) (x:Value),[Item.len e xs][j]?=some it->[g][j]?=some x->j=0/\it=.len e xs/\x=g:=λj it x h1 h2=>by
  cases j with
  |zero=>simp at h1 h2;exact⟨rfl,h1.symm,h2.symm⟩
  |succ j=>simp at h1
 have hkp:Keeps A (Av Z [.len e xs] [g]) w w:=⟨afs _,λb _ hb=>⟨.inl hb,λj it x h1 _ h3 h4=>by
  obtain⟨_,_,rfl⟩:=one j it x h1 h3;exact hA b h4 hb⟩,λ_ _ _=>rfl⟩
 have ha2:b9 (Rel [g] (Av Z [.len e xs] [g]) w) (args.set p (.own 0)) vs:=a4 _ (λs v h=>d7 (h.keep hkp λj g _ h=>by simp at h)) (show [g][0]?=some g from rfl);refine enter (ok.F f fn hfn) hB (afM (by rw[<-eu ha2,ahT];exact aft hk.2)) λa hst=>?_
 have hsr:SR Z w [.len e xs] [g] w:=by
  refine⟨rfl,aid _ _,λj it x h1 h2=>?_,λi j it jt x y b hij h1 h2 _ _ h3 h4=>?_,λb hb=>.inr hb⟩
  ·obtain⟨_,rfl,rfl⟩:=one j it x h1 h2;exact⟨et,css,ho,aU (λ_ _ h=>Ty.rd_keep hkp h) hrd,hn⟩
  ·exact absurd ((one i it x h1 h3).1.trans (one j jt y h2 h4).1.symm) hij
 let Rt:Ending->World->Prop:=λe w'=>∃v,e=.returned v/\Below w.heap.size w w'/\mq Z w.heap.size w' r v
 have hRt:∀vs H G w' ss tys,yh C.T H ss tys=some r->SR Z w H G w'->b9 (Rel G (Av Z H G) w') ss vs->Rt (.returned (kM vs)) w':=λvs H G w' ss tys h1 h2 h3=>⟨_,rfl,h2.below,ML ok.T h2 h1 h3⟩
 rw[hs]at h;have:=wK ok.T ok.E hI ok.F ok.m hRt (λi c G w a ats fn h1 h2 h3=>yM ok hI hRt n i c G w a ats fn h1 h2 h3) 4000 _ _ h [g] w a [] fn ⟨hsr,⟨hst.defers,by rw[hst.size];simp[ntm,hfn],lP ha2 hst.slot⟩,ahn _,trivial⟩ hfn;simp only[jG]at this;rwa [hbf]at this
def FtAll(P:Program):FT->Prop
 |[]=>True
 |p::l=>P.funcs[p.1]?=some p.2/\FtAll P l
theorem FtAll.look{P:Program}:∀{l:FT},FtAll P l->∀f fn,fV l f=some fn->P.funcs[f]?=some fn
 |[],_,f,fn,h=>by simp[fV]at h
 |(k,x)::l,⟨h1,h2⟩,f,fn,h=>by
  simp only[fV]at h;split at h
  ·rename_i hb;have:=afq hb;subst this;injection h with h;subst h;exact h1
  ·exact FtAll.look h2 f fn h
abbrev KT:=Nat->Cfg->Option (List RV)
abbrev OLR:=Option (List RV)
@[reducible] def og(b:Bool)(r:OLR):OLR:=match b with
 |true=>r
 |false=>none
theorem abK(r:OLR):og true r=r:=rfl
theorem Z9{C:Ctx}{f:Nat}{args:List SV}{t:KT->OLR}{r:List RV}(e:∀k,go2 C.P C.F C.T C.E C.N k 4000 (p6 f args) (.node 0)=t k)(h:∃n,t (C.k n)=some r):C.Res f args r:=by
 obtain⟨n,h⟩:=h;exact⟨n,(Ap _ _ _ _ _ _ _ _ _).symm.trans ((e _).trans h)⟩
theorem adu{C:Ctx}{f p:Nat}{args:List SV}{t:KT->OLR}{r:List RV}(e:∀k,go2 C.P C.F C.T C.E C.N k 4000 (wB f p args) (.node 0)=t k)(h:∃n,t (C.k n)=some r):C.ResL f p args r:=by
 obtain⟨n,h⟩:=h;exact⟨n,(Ap _ _ _ _ _ _ _ _ _).symm.trans ((e _).trans h)⟩
theorem ad9{C:Ctx}{i:Nat}{c:Cfg}{t:KT->OLR}{r:List RV}(e:∀k,go2 C.P C.F C.T C.E C.N k 4000 {c with K:=.lp i::c.K} (.node (i+1))=t k)(h:∃n,t (C.k n)=some r):C.Runs i c r:=by
 obtain⟨n,h⟩:=h;exact⟨n+1,(Ap _ _ _ _ _ _ _ _ _).symm.trans ((e _).trans h)⟩
theorem aa0{C:Ctx}{i:Nat}{c:Cfg}{t:KT->OLR}{r:List RV}(e:∀k,go2 C.P C.F C.T C.E C.N k 4000 {c with K:=.lp i::c.K} (.node (i+1))=t k)(h:∃n0,∀n,n0<=n->t (C.k n)=some r):C.RunsE i c r:=by
 obtain⟨n0,h⟩:=h;refine⟨n0+1,λn hn=>?_⟩;obtain⟨q,rfl⟩:∃q,n=q+1:=⟨n-1,by omega⟩
 exact(Ap _ _ _ _ _ _ _ _ _).symm.trans ((e _).trans (h q (by omega)))
@[reducible] def DT:List Ty->Type
 |[]=>Unit
 |t::r=>t.D×DT r
def H7:(ts:List Ty)->List SV->Option (DT ts)
 |[],l=>match l with
  |[]=>some ()
  |_::_=>none
 |t::r,l=>match l with
  |.d u x::m=>match ff u t x with
   |some y=>match H7 r m with
    |some z=>some (y,z)
    |none=>none
   |none=>none
  |_=>none
def svs:(ts:List Ty)->DT ts->List SV
 |[],_=>[]
 |t::r,x=>.d t x.1::svs r x.2
theorem vW:∀{ts:List Ty} {l:List SV} {x:DT ts},H7 ts l=some x->l=svs ts x
 |[],l,x,h=>by
  cases l with
  |nil=>rfl
  |cons a b=>cases h
 |t::r,l,x,h=>by
  unfold H7 at h;split at h
  ·split at h
   ·rename_i e1;split at h
    ·rename_i e2;injection h with h;subst h;obtain⟨rfl,rfl⟩:=dl e1;rw[vW e2];rfl
    ·cases h
   ·cases h
  ·cases h
def spN(keep tame:Bool)(ts:List Ty)(pre:DT ts->Bool)(res:DT ts->List RV):dK:={keep:=keep,tame:=tame,run:=λ_ args k=>match H7 ts args with
 |some x=>match pre x with
  |true=>k (res x)
  |false=>none
 |none=>none}
theorem V7{P:Program}{f:Nat}{keep tame:Bool}{ts:List Ty}{pre:DT ts->Bool}{res:DT ts->List RV}(hc:dJ P f=true)(h:∀x,pre x=true->Con P f (svs ts x) (res x)):dJ P f=true/\Bp P f (spN keep tame ts pre res)/\(∀g,(spN keep tame ts pre res).mut_=some g->IJ P f g)/\Ag P f (spN keep tame ts pre res):=by
 refine⟨hc,λR args k r e=>?_,(λg e=>by cases e),λp g e=>by cases e⟩;unfold spN at e;dsimp only at e;split at e
 ·rename_i x e1;split at e
  ·rename_i e2;rw[vW e1];exact⟨_,e,h x e2⟩
  ·cases e
 ·cases e
theorem aeo{C:Ctx}(ok:C.Ok){f:Nat}{fn:Func}{args:List SV}{r r':List RV}{p:Prop}[Decidable p](e:∀k,go2 C.P C.F C.T C.E C.N k 4000 (p6 f args) (.node 0)=match decide p with|true=>some r'|false=>none)(hp:p)(hr:r'=r)(hfn:fV C.F f=some fn)(hk:okF fn args.length=true):Con C.P f args r:=by
 refine Ctx.Res.con ok (Z9 (t:=λ_=>match decide p with|true=>some r'|false=>none) e ⟨0,?_⟩) hfn hk;rw[afm hp,<-hr]
theorem aM{x:Int}(h1: -9223372036854775808<=x)(h2:x<=9223372036854775807):i64.wrap x=x:=IntWalk.i64_in x ⟨h1,h2⟩
theorem bH{k:Nat}(h:k+1<=9223372036854775807):i64.wrap ((k:Int)+1)=((k+1:Nat):Int):=by rw[aM (by omega) (by omega)];simp
theorem am{α:Type}(xs:List α)(k:Nat):aG xs (k:Int)=xs[k]?:=by unfold aG;rw[afm (by omega)];rfl
theorem zr{α:Type}(xs:List α):aG xs 0=xs[0]?:=am xs 0
theorem aY{k n:Nat}(h:k<n):decide ((k:Int)<(n:Int))=true:=afm (by omega)
theorem bO{k n:Nat}(h:n<=k):decide ((k:Int)<(n:Int))=false:=afo (by omega)
theorem gU{α:Type}{xs:List α}{k:Nat}(h:k<xs.length):xs.drop k=xs[k]::xs.drop (k+1):=afC h
theorem sR{α:Type}{xs:List α}{k:Nat}(h:xs.length<=k):xs.drop k=[]:=agh h
theorem aA(k:Nat):((k:Int)).toNat=k:=ahm k
theorem Xy{m b:Nat}(hb:b<=1000)(h:m<=1000000):decide ((m+1)*b<=140737488355328/\m+1<=140737488355328)=true:=by
 have:(m+1)*b<=1000001*1000:=ahj (by omega) hb;exact afm ⟨by omega,by omega⟩
theorem dT{p:Prop}{i:Decidable p}(h:p): @decide p i=true:=afm h
theorem dF{p:Prop}{i:Decidable p}(h:¬p): @decide p i=false:=afo h
def val:List Int->Int
 |[]=>0
 |x::xs=>x+1000000000*val xs
def Lim(l:List Int):Prop:=∀x∈l,0<=x/\x<1000000000
instance (l:List Int):Decidable (Lim l):=by unfold Lim;infer_instance
def pw(n:Nat):Int:=1000000000^n
theorem mK:pw 0=1:=rfl
theorem ce(n:Nat):pw (n+1)=pw n*1000000000:=by simp[pw,Int.pow_succ]
theorem co(n:Nat):0<pw n:=Int.pow_pos (by decide)
theorem fe(m n:Nat):pw (m+n)=pw m*pw n:=Int.pow_add _ _ _
theorem c8{m n:Nat}(h:m<=n):pw m<=pw n:=by
 obtain⟨k,rfl⟩:=Nat.exists_eq_add_of_le h;rw[fe];have h1:=co m;have h2:=co k;have:=afu (show 1<=pw k by omega) (af0 h1);omega
theorem Lim.nil:Lim []:=λ_ h=>by cases h
theorem Lim.cons{x:Int}{l:List Int}(h1:0<=x/\x<1000000000)(h2:Lim l):Lim (x::l):=λy hy=>by
 rcases afy.1 hy with rfl|hy
 ·exact h1
 ·exact h2 y hy
theorem Lim.head{x:Int}{l:List Int}(h:Lim (x::l)):0<=x/\x<1000000000:=h x (by simp)
theorem Lim.tail{x:Int}{l:List Int}(h:Lim (x::l)):Lim l:=λy hy=>h y (by simp[hy])
theorem Lim.append{a b:List Int}(h1:Lim a)(h2:Lim b):Lim (a++b):=λy hy=>by
 rcases afL.1 hy with hy|hy
 ·exact h1 y hy
 ·exact h2 y hy
theorem Lim.left{a b:List Int}(h:Lim (a++b)):Lim a:=λy hy=>h y (by simp[hy])
theorem Lim.right{a b:List Int}(h:Lim (a++b)):Lim b:=λy hy=>h y (by simp[hy])
theorem Lim.take{a:List Int}(h:Lim a)(n:Nat):Lim (a.take n):=λy hy=>h y (ahx hy)
theorem Lim.drop{a:List Int}(h:Lim a)(n:Nat):Lim (a.drop n):=λy hy=>h y (ahy hy)
theorem Lim.set{a:List Int}(h:Lim a)(n:Nat){y:Int}(hy:0<=y/\y<1000000000):Lim (a.set n y):=λz hz=>by
 rcases List.mem_or_eq_of_mem_set hz with hz|rfl
 ·exact h z hz
 ·exact hy
theorem Lim.get{a:List Int}(h:Lim a){n:Nat}(hn:n<a.length):0<=a[n]/\a[n]<1000000000:=h _ (afU hn)
theorem Lim.rep(n:Nat):Lim (List.replicate n 0):=λy hy=>by
 rw[List.eq_of_mem_replicate hy];decide
theorem dh(a b:List Int):val (a++b)=val a+pw a.length*val b:=by
 induction a with
 |nil=>simp[val,pw]
 |cons x a ih=>
  grind [val,ce]
theorem aN{l:List Int}(h:Lim l):0<=val l:=by
 induction l with
 |nil=>exact Int.le_refl _
 |cons x l ih=>
  grind [h.tail,h.head,val]
theorem b8{l:List Int}(h:Lim l):val l<pw l.length:=by
 induction l with
 |nil=>exact Int.zero_lt_one
 |cons x l ih=>
  grind [h.tail,h.head,val,ce]
theorem Ai:∀{a b:List Int},Lim a->Lim b->a.length=b.length->val a=val b->a=b
 |[],[],_,_,_,_=>rfl
 |[],_::_,_,_,h,_=>by simp at h
 |_::_,[],_,_,h,_=>by simp at h
 |x::a,y::b,h1,h2,hl,hv=>by
  have k1:=h1.head;have k2:=h2.head;simp only[val]at hv;have e:x=y:=by omega
  subst e;rw[Ai h1.tail h2.tail (by simpa using hl) (by omega)]
theorem gC(n:Nat):val (List.replicate n 0)=0:=by
 induction n with
 |zero=>rfl
 |succ n ih=>simp[List.replicate_succ,val,ih]
theorem aT{l:List Int}{n:Nat}(h:n<l.length):val (l.take (n+1))=val (l.take n)+pw n*l[n]:=by grind [List.take_succ_eq_append_getElem,dh,val]
theorem eP:∀{l:List Int} {n:Nat} (h:n<l.length) (y:Int),val (l.set n y)=val l+pw n*(y-l[n])
 |[],_,h,_=>by simp at h
 |x::l,0,_,y=>by simp only[List.set_cons_zero,val,mK,List.getElem_cons_zero];omega
 |x::l,n+1,h,y=>by
  have:=eP (l:=l) (n:=n) (by simpa using h) y;simp only[List.set_cons_succ,val,this,ce,List.getElem_cons_succ];grind
theorem fS(l:List Int)(n:Nat):val l=val (l.take n)+pw (min n l.length)*val (l.drop n):=by
 have:=dh (l.take n) (l.drop n);simp_all
def dig:Nat->Int->List Int
 |0,_=>[]
 |n+1,v=>v%1000000000::dig n (v/1000000000)
theorem iN:∀(n:Nat) (v:Int),(dig n v).length=n
 |0,_=>rfl
 |n+1,v=>by simp[dig,iN n]
theorem mN:∀(n:Nat) (v:Int),Lim (dig n v)
 |0,_=>Lim.nil
 |n+1,v=>Lim.cons (by omega) (mN n _)
theorem gY:∀(n:Nat) (v:Int),0<=v->v<pw n->val (dig n v)=v
 |0,v,h1,h2=>by simp only[mK]at h2;simp only[dig,val];omega
 |n+1,v,h1,h2=>by
  rw[ce]at h2;simp only[dig,val];rw[gY n (v/1000000000) (by omega) (by omega)];omega
theorem AH{l:List Int}{n:Nat}{v:Int}(h:Lim l)(hl:l.length=n)(hv:val l=v):l=dig n v:=by
 subst hl hv;grind [Ai,mN,iN,gY,aN,b8]
def lbF:Nat->Nat->List Int
 |0,_=>[]
 |f+1,n=>bif n==0 then []else((n%1000000000:Nat):Int)::lbF f (n/1000000000)
def ag(n:Nat):List Int:=lbF (n.log2+1) n
theorem sB(f:Nat):lbF f 0=[]:=by cases f<;>rfl
theorem Co:∀(f g n:Nat),n<2^f->n<2^g->lbF f n=lbF g n
 |0,g,n,h,_=>by
  have:n=0:=by simpa using h
  subst this;rw[sB,sB]
 |f+1,0,n,_,h=>by
  have:n=0:=by simpa using h
  subst this;rw[sB,sB]
 |f+1,g+1,n,h1,h2=>by
  rw[Nat.pow_succ]at h1 h2;simp only[lbF];rw[Co f g (n/1000000000) (by omega) (by omega)]
theorem LZ{f n:Nat}(h:n<2^f):ag n=lbF f n:=Co _ _ _ Nat.lt_log2_self h
theorem fG:ag 0=[]:=rfl
theorem iD{n:Nat}(h:n≠0):ag n=((n%1000000000:Nat):Int)::ag (n/1000000000):=by grind [Nat.lt_log2_self,LZ,ag,lbF]
theorem pi{motive:Nat->Prop}(h0:motive 0)(h1:∀n,n≠0->motive (n/1000000000)->motive n)(n:Nat):motive n:=by
 induction n using Nat.strongRecOn with
 |ind n ih=>
  grind
theorem cd(n:Nat):Lim (ag n):=by
 induction n using pi with
 |h0=>exact Lim.nil
 |h1 n hn ih=>rw[iD hn];exact Lim.cons (by omega) ih
theorem aZ(n:Nat):val (ag n)=(n:Int):=by
 induction n using pi with
 |h0=>rfl
 |h1 n hn ih=>rw[iD hn];simp only[val];omega
def can(l:List Int):Prop:=Lim l/\l.getLast?≠some 0
instance (l:List Int):Decidable (can l):=by unfold can;infer_instance
theorem dU(n:Nat):can (ag n):=by
 refine⟨cd n,?_⟩;induction n using pi with
 |h0=>simp[fG]
 |h1 n hn ih=>
  grind [iD]
theorem HG{x:Int}{l:List Int}(h:can (x::l)):can l:=by
 refine⟨h.1.tail,λe=>h.2 ?_⟩;grind
theorem eo:∀{l:List Int},can l->l≠[]->0<val l
 |[],_,h=>by cases h rfl
 |[x],h,_=>by
  have:=h.1.head;have h2:=h.2;simp at h2;simp only[val];omega
 |x::y::l,h,_=>by
  have:=eo (HG h) (by simp);have:=h.1.head;simp only[val]at*
  omega
theorem nJ:∀{l:List Int},can l->l=ag (val l).toNat
 |[],_=>rfl
 |x::l,h=>by
  have ih:=nJ (HG h);have hp:=eo h (by simp);have hx:=h.1.head;have hn:=aN h.1.tail;rw[iD (by omega)];simp only[val]at hp ⊢;rw[show(x+1000000000*val l).toNat%1000000000=x.toNat by omega,show(x+1000000000*val l).toNat/1000000000=(val l).toNat by omega,<-ih];rw[show((x.toNat:Nat):Int)=x by omega]
theorem c7{n k:Nat}(h:(n:Int)<pw k):(ag n).length<=k:=by
 induction k generalizing n with
 |zero=>
  have:n=0:=by simp only[mK]at h;omega
  subst this;simp[fG]
 |succ k ih=>
  rw[ce]at h;by_cases hn:n=0
  ·subst hn;simp[fG]
  ·rw[iD hn];have:=ih (n:=n/1000000000) (by omega);simp;omega
theorem Bo{n k:Nat}(h:pw k<=(n:Int)):k<(ag n).length:=by
 rcases afZ k (ag n).length with h1|h1
 ·grind
 ·have h2:=b8 (cd n);rw[aZ]at h2;have:=c8 h1;omega
theorem gO{n:Nat}:ag n=[]↔n=0:=by
 constructor
 ·grind [aZ,val]
 ·rintro rfl;rfl
def ai(z:Int):Bool×List Int:=(decide (z<0),ag z.natAbs)
def ae(x:Bool×List Int):Int:=bif x.1 then-val x.2 else val x.2
theorem dec_enc(z:Int):ae (ai z)=z:=by grind [ae,ai,aZ]
def cq(a b:Int):Int:=bif decide (a<b)then-1 else bif decide (b<a)then 1 else 0
abbrev y0Y:Ty:=.st (.pair .str (.int .u64))
abbrev y1Y:Ty:=.st (.pair (.int .i64) (.int .i64))
abbrev y2Y:Ty:=.st (.pair .bool (.sl (.int .u32)))
abbrev y3Y:Ty:=.st (.pair (.int .i64) (.pair (.int .i64) (.pair .bool (.int .u8))))
abbrev y4Y:Ty:=.st (.pair (.int .u8) (.pair (.int .u8) (.pair (.int .i8) (.pair (.int .i8) (.pair (.int .i8) (.pair (.int .i8) (.pair (.int .i8) (.int .i8))))))))
abbrev y5Y:Ty:=.st (.pair (.st (.pair y2Y y2Y)) (.st (.pair y2Y y2Y)))
abbrev y6Y:Ty:=.st (.pair (.st (.pair y2Y y2Y)) (.pair (.st (.pair y2Y y2Y)) (.st (.pair y2Y y2Y))))
abbrev y7Y:Ty:=.st (.pair y4Y (.pair y4Y (.int .u8)))
abbrev y8Y:Ty:=.st (.pair (.st (.pair y2Y y2Y)) (.pair (.st (.pair y2Y y2Y)) (.pair (.st (.pair y2Y y2Y)) (.pair (.st (.pair y2Y y2Y)) (.st (.pair y2Y y2Y))))))
abbrev y9Y:Ty:=.st (.pair (.st (.pair y2Y y2Y)) (.pair (.st (.pair y2Y y2Y)) (.pair (.st (.pair y2Y y2Y)) (.pair (.st (.pair y2Y y2Y)) (.pair (.st (.pair y2Y y2Y)) (.st (.pair y2Y y2Y)))))))
abbrev Xb:Ty:=.st (.pair .bool (.pair y6Y (.pair y6Y (.pair .bool (.pair y8Y y8Y)))))
abbrev aix:Ty:=.sl (.int .u32)
abbrev aiy:Ty:=.int .i64
abbrev aiz:Ty:=.int .u32
def tN(n:Nat)(t:Ty):Nat×TI:=(n,⟨t,[],0,0,0,true⟩)
def tU(n:Nat):Nat×TI:=(n,⟨.int .i64,[],0,0,0,false⟩)
def tS(n:Nat)(t:Ty)(l:List (Nat×Nat)):Nat×TI:=(n,⟨t,l,0,0,0,true⟩)
def tA(n:Nat)(t:Ty)(e l:Nat):Nat×TI:=(n,⟨t,[],e,l,0,true⟩)
def tLs(n:Nat)(t:Ty)(e b:Nat):Nat×TI:=(n,⟨t,[],e,0,b,true⟩)
def tys:TT:=[tU 1,
 tN 2 aiy,
 tN 3 aiy,
 tN 4 .bool,
 tN 5 (.int .u8),
 tN 6 (.int .u8),
 tS 7 y3Y [(0,1),(1,1),(2,1),(3,1)],
 tS 8 y3Y [(0,1),(1,1),(2,1),(3,1)],
 tN 9 .str,
 tN 10 .str,
 tN 11 .str,
 tN 12 (.int .u64),
 tS 13 y0Y [(0,1),(1,1)],
 tS 14 y0Y [(0,1),(1,1)],
 tU 15,
 tU 16,
 tU 17,
 tN 21 (.int .i32),
 tN 22 (.int .i8),
 tS 23 y4Y [(0,1),(1,1),(2,1),(3,1),(4,1),(5,1),(6,1),(7,1)],
 tS 24 y4Y [(0,1),(1,1),(2,1),(3,1),(4,1),(5,1),(6,1),(7,1)],
 tS 25 y7Y [(0,8),(8,8),(16,1)],
 tS 26 y7Y [(0,8),(8,8),(16,1)],
 tLs 27 aix 200 4,
 tS 28 y2Y [(0,1),(1,1)],
 tS 29 y2Y [(0,1),(1,1)],
 tS 30 (.st (.pair y2Y y2Y)) [(0,2),(2,2)],
 tS 31 (.st (.pair y2Y y2Y)) [(0,2),(2,2)],
 tS 32 y6Y [(0,4),(4,4),(8,4)],
 tS 33 y6Y [(0,4),(4,4),(8,4)],
 tS 34 y6Y [(0,4),(4,4),(8,4)],
 tS 35 y6Y [(0,4),(4,4),(8,4)],
 tS 36 y8Y [(0,4),(4,4),(8,4),(12,4),(16,4)],
 tS 37 y8Y [(0,4),(4,4),(8,4),(12,4),(16,4)],
 tS 38 Xb [(0,1),(1,12),(13,12),(25,1),(26,20),(46,20)],
 tS 39 Xb [(0,1),(1,12),(13,12),(25,1),(26,20),(46,20)],
 tU 41,
 tU 42,
 tLs 43 (.sl y8Y) 37 320,
 tU 45,
 tLs 46 (.sl Xb) 39 1040,
 tN 47 aiy,
 tU 49,
 tU 50,
 tU 51,
 tU 52,
 tU 53,
 tU 54,
 tU 55,
 tU 56,
 tU 57,
 tA 58 (.st (.pair (.int .i8) (.pair (.int .i8) (.pair (.int .i8) (.int .i8))))) 1 4,
 tS 59 y5Y [(0,4),(4,4)],
 tS 60 y5Y [(0,4),(4,4)],
 tU 61,
 tU 62,
 tU 63,
 tU 65,
 tU 66,
 tU 67,
 tU 68,
 tU 69,
 tS 70 y6Y [(0,4),(4,4),(8,4)],
 tU 72,
 tU 73,
 tU 74,
 tU 75,
 tU 76,
 tU 78,
 tU 79,
 tU 80,
 tU 81,
 tU 82,
 tU 83,
 tU 84,
 tU 85,
 tU 86,
 tU 87,
 tU 88,
 tU 89,
 tU 90,
 tU 91,
 tU 92,
 tU 93,
 tU 94,
 tU 95,
 tU 97,
 tU 98,
 tU 99,
 tU 101,
 tU 102,
 tU 103,
 tU 104,
 tU 106,
 tU 107,
 tU 108,
 tU 110,
 tU 111,
 tU 112,
 tU 113,
 tU 114,
 tU 115,
 tU 116,
 tU 117,
 tU 118,
 tU 119,
 tU 120,
 tU 121,
 tU 122,
 tU 123,
 tU 124,
 tU 125,
 tU 126,
 tU 127,
 tU 128,
 tU 129,
 tU 130,
 tU 131,
 tU 132,
 tU 133,
 tU 134,
 tU 135,
 tU 136,
 tU 137,
 tU 138,
 tU 139,
 tU 140,
 tU 141,
 tU 142,
 tU 143,
 tU 144,
 tU 145,
 tU 146,
 tU 147,
 tU 148,
 tU 149,
 tU 150,
 tU 151,
 tU 153,
 tU 154,
 tU 155,
 tU 156,
 tU 157,
 tU 158,
 tU 159,
 tU 160,
 tN 161 (.int .u64),
 tU 163,
 tU 164,
 tS 165 y9Y [(0,4),(4,4),(8,4),(12,4),(16,4),(20,4)],
 tS 166 y9Y [(0,4),(4,4),(8,4),(12,4),(16,4),(20,4)],
 tU 167,
 tU 168,
 tU 169,
 tU 170,
 tU 171,
 tU 172,
 tU 173,
 tU 174,
 tU 175,
 tU 176,
 tU 177,
 tU 178,
 tS 179 y5Y [(0,4),(4,4)],
 tS 180 y5Y [(0,4),(4,4)],
 tU 182,
 tU 183,
 tU 184,
 tU 185,
 tU 186,
 tU 187,
 tU 188,
 tU 189,
 tU 191,
 tU 193,
 tU 194,
 tU 195,
 tU 196,
 tU 197,
 tU 198,
 tU 199,
 tN 200 aiz,
 tU 202,
 tU 203,
 tU 205,
 tU 206,
 tU 207,
 tU 209,
 tU 210,
 tU 212,
 tU 213,
 tU 215,
 tU 216,
 tU 217,
 tU 218,
 tU 219,
 tU 220,
 tU 221,
 tU 222,
 tU 223,
 tLs 224 (.sl (.st (.pair y2Y y2Y))) 31 64,
 tU 225,
 tU 226,
 tU 227,
 tU 229,
 tU 230,
 tS 231 y1Y [(0,1),(1,1)],
 tS 232 y1Y [(0,1),(1,1)],
 tU 234,
 tU 235,
 tU 236,
 tU 237,
 tU 238,
 tU 239,
 tU 240,
 tU 241,
 tN 242 (.int .u64),
 tU 243,
 tS 244 (.st .bool) [(0,1)],
 tS 245 (.st .bool) [(0,1)],
 tU 246,
 tU 247,
 tU 248,
 tU 249,
 tU 250,
 tU 252,
 tU 253,
 tU 254,
 tLs 255 (.sl aiy) 2 8,
 tU 257,
 tU 258,
 tU 260,
 tU 261,
 tU 262,
 tN 268 (.int .u8),
 tN 269 (.int .u8),
 tU 270,
 tU 271,
 tN 272 (.int .i32),
 tN 273 (.int .i32)]
theorem Zq:eM Tryz.prog tys=true:=by kernel_rfl
theorem JZ:Tryz.prog.follows .mixedOrders=true:=by kernel_rfl
set_option maxRecDepth 100000 in
noncomputable def ft:FT:=[(2,Tryz.f2),(3,Tryz.f3),(4,Tryz.f4),(5,Tryz.f5),(6,Tryz.f6),(7,Tryz.f7),(8,Tryz.f8),(9,Tryz.f9),(10,Tryz.f10),(11,Tryz.f11),(12,Tryz.f12),(13,Tryz.f13),(14,Tryz.f14),(15,Tryz.f15),(16,Tryz.f16),(17,Tryz.f17),(18,Tryz.f18),(19,Tryz.f19),(20,Tryz.f20),(21,Tryz.f21),(22,Tryz.f22),(23,Tryz.f23),(24,Tryz.f24),(25,Tryz.f25),(26,Tryz.f26),(27,Tryz.f27),(28,Tryz.f28),(29,Tryz.f29),(30,Tryz.f30),(31,Tryz.f31),(32,Tryz.f32),(33,Tryz.f33),(34,Tryz.f34),(35,Tryz.f35),(36,Tryz.f36),(37,Tryz.f37),(38,Tryz.f38),(39,Tryz.f39),(40,Tryz.f40),(41,Tryz.f41),(42,Tryz.f42),(43,Tryz.f43),(44,Tryz.f44),(45,Tryz.f45),(46,Tryz.f46),(47,Tryz.f47),(48,Tryz.f48),(49,Tryz.f49),(50,Tryz.f50),(51,Tryz.f51),(52,Tryz.f52),(53,Tryz.f53),(54,Tryz.f54),(55,Tryz.f55),(56,Tryz.f56),(57,Tryz.f57),(58,Tryz.f58),(59,Tryz.f59),(60,Tryz.f60),(61,Tryz.f61),(62,Tryz.f62),(63,Tryz.f63),(64,Tryz.f64),(65,Tryz.f65),(66,Tryz.f66),(67,Tryz.f67),(68,Tryz.f68),(69,Tryz.f69),(70,Tryz.f70),(71,Tryz.f71),(72,Tryz.f72),(73,Tryz.f73),(74,Tryz.f74),(75,Tryz.f75),(76,Tryz.f76),(77,Tryz.f77),(78,Tryz.f78),(79,Tryz.f79),(80,Tryz.f80),(81,Tryz.f81),(82,Tryz.f82),(83,Tryz.f83),(84,Tryz.f84),(85,Tryz.f85),(86,Tryz.f86),(87,Tryz.f87),(88,Tryz.f88),(89,Tryz.f89),(90,Tryz.f90),(91,Tryz.f91),(92,Tryz.f92),(93,Tryz.f93),(94,Tryz.f94),(95,Tryz.f95),(96,Tryz.f96),(97,Tryz.f97),(98,Tryz.f98),(99,Tryz.f99),(100,Tryz.f100),(101,Tryz.f101),(102,Tryz.f102),(103,Tryz.f103),(104,Tryz.f104),(105,Tryz.f105),(106,Tryz.f106),(107,Tryz.f107),(108,Tryz.f108),(109,Tryz.f109),(110,Tryz.f110),(111,Tryz.f111),(112,Tryz.f112),(113,Tryz.f113),(114,Tryz.f114),(115,Tryz.f115),(116,Tryz.f116),(117,Tryz.f117),(118,Tryz.f118),(119,Tryz.f119),(120,Tryz.f120),(121,Tryz.f121),(122,Tryz.f122),(123,Tryz.f123),(124,Tryz.f124),(125,Tryz.f125),(126,Tryz.f126),(127,Tryz.f127),(128,Tryz.f128),(129,Tryz.f129),(130,Tryz.f130),(131,Tryz.f131),(132,Tryz.f132),(133,Tryz.f133),(134,Tryz.f134),(135,Tryz.f135),(136,Tryz.f136),(137,Tryz.f137),(138,Tryz.f138),(139,Tryz.f139),(140,Tryz.f140),(141,Tryz.f141),(142,Tryz.f142),(143,Tryz.f143),(144,Tryz.f144),(145,Tryz.f145),(146,Tryz.f146),(147,Tryz.f147),(148,Tryz.f148),(149,Tryz.f149),(150,Tryz.f150),(151,Tryz.f151),(152,Tryz.f152),(153,Tryz.f153),(154,Tryz.f154),(155,Tryz.f155),(156,Tryz.f156),(157,Tryz.f157),(158,Tryz.f158),(159,Tryz.f159),(160,Tryz.f160),(161,Tryz.f161),(162,Tryz.f162),(163,Tryz.f163),(164,Tryz.f164),(165,Tryz.f165),(166,Tryz.f166),(167,Tryz.f167),(168,Tryz.f168),(169,Tryz.f169),(170,Tryz.f170),(171,Tryz.f171),(172,Tryz.f172),(173,Tryz.f173),(174,Tryz.f174),(175,Tryz.f175),(176,Tryz.f176),(177,Tryz.f177),(178,Tryz.f178),(179,Tryz.f179),(180,Tryz.f180),(181,Tryz.f181),(182,Tryz.f182),(183,Tryz.f183),(184,Tryz.f184),(185,Tryz.f185),(186,Tryz.f186),(187,Tryz.f187),(188,Tryz.f188),(189,Tryz.f189),(190,Tryz.f190),(191,Tryz.f191),(192,Tryz.f192),(193,Tryz.f193),(194,Tryz.f194),(195,Tryz.f195),(196,Tryz.f196),(197,Tryz.f197),(198,Tryz.f198),(199,Tryz.f199),(200,Tryz.f200),(201,Tryz.f201),(202,Tryz.f202),(203,Tryz.f203),(204,Tryz.f204),(205,Tryz.f205),(206,Tryz.f206),(207,Tryz.f207),(208,Tryz.f208),(209,Tryz.f209),(210,Tryz.f210),(211,Tryz.f211),(212,Tryz.f212),(213,Tryz.f213),(214,Tryz.f214),(215,Tryz.f215),(216,Tryz.f216),(217,Tryz.f217),(218,Tryz.f218),(219,Tryz.f219),(220,Tryz.f220),(221,Tryz.f221),(222,Tryz.f222),(223,Tryz.f223),(224,Tryz.f224),(225,Tryz.f225),(226,Tryz.f226),(227,Tryz.f227),(228,Tryz.f228),(229,Tryz.f229),(230,Tryz.f230),(231,Tryz.f231),(232,Tryz.f232),(233,Tryz.f233),(234,Tryz.f234),(235,Tryz.f235),(236,Tryz.f236),(237,Tryz.f237),(238,Tryz.f238),(239,Tryz.f239),(240,Tryz.f240),(241,Tryz.f241),(242,Tryz.f242),(243,Tryz.f243),(244,Tryz.f244),(245,Tryz.f245),(246,Tryz.f246),(247,Tryz.f247),(248,Tryz.f248),(249,Tryz.f249),(250,Tryz.f250),(251,Tryz.f251),(252,Tryz.f252),(253,Tryz.f253),(254,Tryz.f254),(255,Tryz.f255),(256,Tryz.f256),(257,Tryz.f257),(258,Tryz.f258),(259,Tryz.f259),(260,Tryz.f260),(261,Tryz.f261),(262,Tryz.f262),(263,Tryz.f263),(264,Tryz.f264),(265,Tryz.f265),(266,Tryz.f266),(267,Tryz.f267),(268,Tryz.f268),(269,Tryz.f269),(270,Tryz.f270),(271,Tryz.f271),(272,Tryz.f272),(273,Tryz.f273),(274,Tryz.f274),(275,Tryz.f275),(276,Tryz.f276),(277,Tryz.f277),(278,Tryz.f278),(279,Tryz.f279),(280,Tryz.f280),(281,Tryz.f281),(282,Tryz.f282),(283,Tryz.f283),(284,Tryz.f284),(285,Tryz.f285),(286,Tryz.f286),(287,Tryz.f287),(288,Tryz.f288),(289,Tryz.f289),(290,Tryz.f290),(291,Tryz.f291),(292,Tryz.f292),(293,Tryz.f293),(294,Tryz.f294),(295,Tryz.f295),(296,Tryz.f296),(297,Tryz.f297),(298,Tryz.f298),(299,Tryz.f299),(300,Tryz.f300),(301,Tryz.f301),(302,Tryz.f302),(303,Tryz.f303),(304,Tryz.f304),(305,Tryz.f305),(306,Tryz.f306),(307,Tryz.f307),(308,Tryz.f308),(309,Tryz.f309),(310,Tryz.f310),(311,Tryz.f311),(312,Tryz.f312),(313,Tryz.f313),(314,Tryz.f314),(315,Tryz.f315),(316,Tryz.f316),(317,Tryz.f317),(318,Tryz.f318),(319,Tryz.f319),(320,Tryz.f320),(321,Tryz.f321),(322,Tryz.f322),(323,Tryz.f323),(324,Tryz.f324),(325,Tryz.f325),(326,Tryz.f326),(327,Tryz.f327),(328,Tryz.f328),(329,Tryz.f329),(330,Tryz.f330),(331,Tryz.f331),(332,Tryz.f332),(333,Tryz.f333),(334,Tryz.f334)]
set_option maxRecDepth 100000 in
theorem act:FtAll Tryz.prog ft:=⟨Tryz.func2,Tryz.func3,Tryz.func4,Tryz.func5,Tryz.func6,Tryz.func7,Tryz.func8,Tryz.func9,Tryz.func10,Tryz.func11,Tryz.func12,Tryz.func13,Tryz.func14,Tryz.func15,Tryz.func16,Tryz.func17,Tryz.func18,Tryz.func19,Tryz.func20,Tryz.func21,Tryz.func22,Tryz.func23,Tryz.func24,Tryz.func25,Tryz.func26,Tryz.func27,Tryz.func28,Tryz.func29,Tryz.func30,Tryz.func31,Tryz.func32,Tryz.func33,Tryz.func34,Tryz.func35,Tryz.func36,Tryz.func37,Tryz.func38,Tryz.func39,Tryz.func40,Tryz.func41,Tryz.func42,Tryz.func43,Tryz.func44,Tryz.func45,Tryz.func46,Tryz.func47,Tryz.func48,Tryz.func49,Tryz.func50,Tryz.func51,Tryz.func52,Tryz.func53,Tryz.func54,Tryz.func55,Tryz.func56,Tryz.func57,Tryz.func58,Tryz.func59,Tryz.func60,Tryz.func61,Tryz.func62,Tryz.func63,Tryz.func64,Tryz.func65,Tryz.func66,Tryz.func67,Tryz.func68,Tryz.func69,Tryz.func70,Tryz.func71,Tryz.func72,Tryz.func73,Tryz.func74,Tryz.func75,Tryz.func76,Tryz.func77,Tryz.func78,Tryz.func79,Tryz.func80,Tryz.func81,Tryz.func82,Tryz.func83,Tryz.func84,Tryz.func85,Tryz.func86,Tryz.func87,Tryz.func88,Tryz.func89,Tryz.func90,Tryz.func91,Tryz.func92,Tryz.func93,Tryz.func94,Tryz.func95,Tryz.func96,Tryz.func97,Tryz.func98,Tryz.func99,Tryz.func100,Tryz.func101,Tryz.func102,Tryz.func103,Tryz.func104,Tryz.func105,Tryz.func106,Tryz.func107,Tryz.func108,Tryz.func109,Tryz.func110,Tryz.func111,Tryz.func112,Tryz.func113,Tryz.func114,Tryz.func115,Tryz.func116,Tryz.func117,Tryz.func118,Tryz.func119,Tryz.func120,Tryz.func121,Tryz.func122,Tryz.func123,Tryz.func124,Tryz.func125,Tryz.func126,Tryz.func127,Tryz.func128,Tryz.func129,Tryz.func130,Tryz.func131,Tryz.func132,Tryz.func133,Tryz.func134,Tryz.func135,Tryz.func136,Tryz.func137,Tryz.func138,Tryz.func139,Tryz.func140,Tryz.func141,Tryz.func142,Tryz.func143,Tryz.func144,Tryz.func145,Tryz.func146,Tryz.func147,Tryz.func148,Tryz.func149,Tryz.func150,Tryz.func151,Tryz.func152,Tryz.func153,Tryz.func154,Tryz.func155,Tryz.func156,Tryz.func157,Tryz.func158,Tryz.func159,Tryz.func160,Tryz.func161,Tryz.func162,Tryz.func163,Tryz.func164,Tryz.func165,Tryz.func166,Tryz.func167,Tryz.func168,Tryz.func169,Tryz.func170,Tryz.func171,Tryz.func172,Tryz.func173,Tryz.func174,Tryz.func175,Tryz.func176,Tryz.func177,Tryz.func178,Tryz.func179,Tryz.func180,Tryz.func181,Tryz.func182,Tryz.func183,Tryz.func184,Tryz.func185,Tryz.func186,Tryz.func187,Tryz.func188,Tryz.func189,Tryz.func190,Tryz.func191,Tryz.func192,Tryz.func193,Tryz.func194,Tryz.func195,Tryz.func196,Tryz.func197,Tryz.func198,Tryz.func199,Tryz.func200,Tryz.func201,Tryz.func202,Tryz.func203,Tryz.func204,Tryz.func205,Tryz.func206,Tryz.func207,Tryz.func208,Tryz.func209,Tryz.func210,Tryz.func211,Tryz.func212,Tryz.func213,Tryz.func214,Tryz.func215,Tryz.func216,Tryz.func217,Tryz.func218,Tryz.func219,Tryz.func220,Tryz.func221,Tryz.func222,Tryz.func223,Tryz.func224,Tryz.func225,Tryz.func226,Tryz.func227,Tryz.func228,Tryz.func229,Tryz.func230,Tryz.func231,Tryz.func232,Tryz.func233,Tryz.func234,Tryz.func235,Tryz.func236,Tryz.func237,Tryz.func238,Tryz.func239,Tryz.func240,Tryz.func241,Tryz.func242,Tryz.func243,Tryz.func244,Tryz.func245,Tryz.func246,Tryz.func247,Tryz.func248,Tryz.func249,Tryz.func250,Tryz.func251,Tryz.func252,Tryz.func253,Tryz.func254,Tryz.func255,Tryz.func256,Tryz.func257,Tryz.func258,Tryz.func259,Tryz.func260,Tryz.func261,Tryz.func262,Tryz.func263,Tryz.func264,Tryz.func265,Tryz.func266,Tryz.func267,Tryz.func268,Tryz.func269,Tryz.func270,Tryz.func271,Tryz.func272,Tryz.func273,Tryz.func274,Tryz.func275,Tryz.func276,Tryz.func277,Tryz.func278,Tryz.func279,Tryz.func280,Tryz.func281,Tryz.func282,Tryz.func283,Tryz.func284,Tryz.func285,Tryz.func286,Tryz.func287,Tryz.func288,Tryz.func289,Tryz.func290,Tryz.func291,Tryz.func292,Tryz.func293,Tryz.func294,Tryz.func295,Tryz.func296,Tryz.func297,Tryz.func298,Tryz.func299,Tryz.func300,Tryz.func301,Tryz.func302,Tryz.func303,Tryz.func304,Tryz.func305,Tryz.func306,Tryz.func307,Tryz.func308,Tryz.func309,Tryz.func310,Tryz.func311,Tryz.func312,Tryz.func313,Tryz.func314,Tryz.func315,Tryz.func316,Tryz.func317,Tryz.func318,Tryz.func319,Tryz.func320,Tryz.func321,Tryz.func322,Tryz.func323,Tryz.func324,Tryz.func325,Tryz.func326,Tryz.func327,Tryz.func328,Tryz.func329,Tryz.func330,Tryz.func331,Tryz.func332,Tryz.func333,Tryz.func334,trivial⟩
section
def EnvAll(P:Program):Env->Prop
 |[]=>True
 |p::l=>(dJ P p.1=true/\Bp P p.1 p.2/\(∀g,p.2.mut_=some g->IJ P p.1 g)/\Ag P p.1 p.2)/\EnvAll P l
theorem EnvAll.ok{P:Program}:∀{l:Env},EnvAll P l->ln P l
 |[],_,f,fn,h=>by simp[l6]at h
 |(k,x)::l,⟨h1,h2⟩,f,fn,h=>by
  simp only[l6]at h;split at h
  ·rename_i hb;have:=afq hb;subst this;injection h with h;subst h;exact h1
  ·exact EnvAll.ok h2 f fn h
theorem Aj{E:Env}{N:NT}(h:EnvAll Tryz.prog E):(Ctx.mk Tryz.prog ft tys E N).Ok:=⟨Zq,h.ok,act.look,JZ⟩
def CX(E:Env)(N:NT):Ctx:=⟨Tryz.prog,ft,tys,E,N⟩
def RS(C:Ctx)(f:Nat)(args:List SV)(t:KT->OLR):Prop:=∀{r:List RV},(∃n,t (C.k n)=some r)->C.Res f args r
def RN(C:Ctx)(i:Nat)(c:Cfg)(t:KT->OLR):Prop:=∀{r:List RV},(∃n,t (C.k n)=some r)->C.Runs i c r
def RL(C:Ctx)(i:Nat)(c:Cfg)(t:KT->OLR):Prop:=∀{r:List RV},(∃n0,∀n,n0<=n->t (C.k n)=some r)->C.RunsE i c r
theorem rsX{E:Env}{N:NT}{f:Nat}{args:List SV}{t:KT->OLR}(e:∀k,go2 Tryz.prog ft tys E N k 4000 (p6 f args) (.node 0)=t k:=by intro k;kernel_rfl):RS (CX E N) f args t:=λh=>Z9 (C:=CX E N) e h
theorem rnX{E:Env}{N:NT}{i:Nat}{c:Cfg}{t:KT->OLR}(e:∀k,go2 Tryz.prog ft tys E N k 4000 {c with K:=.lp i::c.K} (.node (i+1))=t k:=by intro k;kernel_rfl):RN (CX E N) i c t:=λh=>ad9 (C:=CX E N) e h
theorem rlX{E:Env}{N:NT}{i:Nat}{c:Cfg}{t:KT->OLR}(e:∀k,go2 Tryz.prog ft tys E N k 4000 {c with K:=.lp i::c.K} (.node (i+1))=t k:=by intro k;kernel_rfl):RL (CX E N) i c t:=λh=>aa0 (C:=CX E N) e h
def AU(f k:Nat):Bool:=match fV ft f with
 |some fn=>okF fn k
 |none=>false
abbrev CQq7:=Con Tryz.prog
theorem fE{E:Env}{N:NT}{f:Nat}{args:List SV}{r:List RV}(ok:EnvAll Tryz.prog E)(h:(CX E N).Res f args r)(hk:AU f args.length=true:=by kernel_rfl):CQq7 f args r:=by
 unfold AU at hk;split at hk
 ·rename_i fn e;exact Ctx.Res.con (C:=CX E N) (Aj ok) h (fn:=fn) e hk
 ·cases hk
theorem ael{E:Env}{f:Nat}{args:List SV}{r:List RV}(ok:EnvAll Tryz.prog E)(t:KT->OLR)(h:∃n,t ((CX E []).k n)=some r)(e:∀k,go2 Tryz.prog ft tys E [] k 4000 (p6 f args) (.node 0)=t k:=by intro k;kernel_rfl)(hk:AU f args.length=true:=by kernel_rfl):CQq7 f args r:=fE ok (rsX e h) hk
def SpK(f:Nat)(s:dK):Prop:=dJ Tryz.prog f=true/\Bp Tryz.prog f s/\(∀g,s.mut_=some g->IJ Tryz.prog f g)/\Ag Tryz.prog f s
theorem spX{f:Nat}{keep tame:Bool}{ts:List Ty}{pre:DT ts->Bool}{res:DT ts->List RV}(h:∀x,pre x=true->CQq7 f (svs ts x) (res x))(hc:dJ Tryz.prog f=true:=by kernel_rfl):SpK f (spN keep tame ts pre res):=V7 hc h
theorem kx{E:Env}{f:Nat}{args:List SV}{r:List RV}(r':List RV){p:Prop}[Decidable p](ok:EnvAll Tryz.prog E)(h:p)(e:∀k,go2 Tryz.prog ft tys E [] k 4000 (p6 f args) (.node 0)=match decide p with|true=>some r'|false=>none:=by intro k;kernel_rfl)(hr:r'=r:=by simp only[bL])(hk:AU f args.length=true:=by kernel_rfl):CQq7 f args r:=by
 unfold AU at hk;split at hk
 ·rename_i fn g;exact aeo (C:=CX E []) (Aj ok) (p:=p) e h hr (fn:=fn) g hk
 ·cases hk
def hid{α:Type}(x:α):α:=Classical.choose (⟨x,rfl⟩:∃y,y=x)
theorem bL{α:Type}(x:α):hid x=x:=agN (⟨x,rfl⟩:∃y,y=x)
structure Lf (K:List SV->List RV->Prop) (args:List SV) where
 p:Prop
 d:Decidable p
 r:List RV
 h:p->K args r
def lf{K:List SV->List RV->Prop}{args:List SV}(p:Prop)[d:Decidable p](r:List RV)(h:p->K args r):Lf K args:=⟨p,d,r,h⟩
@[reducible] def CG(K:List SV->List RV->Prop):List Ty->(List SV->List SV)->Type
 |[],c=>Lf K (c [])
 |t::ts,c=>(x:t.D)->CG K ts λl=>c (.d t x::l)
def I5{K:List SV->List RV->Prop}{R:Type}(hd:RV->RV):(ts:List Ty)->(c:List SV->List SV)->CG K ts c->List SV->(List RV->Option R)->Option R
 |[],_,g,l,k=>match l with
  |[]=>match @decide g.p g.d with
   |true=>k (g.r.map hd)
   |false=>none
  |_::_=>none
 |t::ts,_,g,l,k=>match l with
  |.d u x::m=>match ff u t x with
   |some y=>I5 hd ts _ (g y) m k
   |none=>none
  |_=>none
theorem Ac{K:List SV->List RV->Prop}{R:Type}{hd:RV->RV}(hh:∀x,hd x=x){k:List RV->Option R}{r:R}:∀(ts:List Ty) (c:List SV->List SV) (g:CG K ts c) (l:List SV),I5 hd ts c g l k=some r->∃rs,k rs=some r/\K (c l) rs
 |[],c,g,l,h=>by
  unfold I5 at h;split at h
  ·split at h
   ·rename_i e;rw[show g.r.map hd=g.r by rw[show hd=id from funext hh,List.map_id]]at h;exact⟨_,h,g.h (@afp _ g.d e)⟩
   ·cases h
  ·cases h
 |t::ts,c,g,l,h=>by
  unfold I5 at h;split at h
  ·split at h
   ·rename_i e;obtain⟨rfl,rfl⟩:=dl e;have q:=Ac hh ts _ _ _ h;exact q
   ·cases h
  ·cases h
structure Cn (f:Nat) (ts:List Ty) where
 g:CG (CQq7 f) ts id
 c:dJ Tryz.prog f=true
def cn{f:Nat}{ts:List Ty}(g:CG (CQq7 f) ts id)(c:dJ Tryz.prog f=true:=by kernel_rfl):Cn f ts:=⟨g,c⟩
structure En where
 f:Nat
 s:dK
 ok:SpK f s
def enX(keep tame:Bool){hd:RV->RV}(hh:∀x,hd x=x){f:Nat}{ts:List Ty}(g:Cn f ts):En:=⟨f,{keep:=keep,tame:=tame,run:=λ_ args k=>I5 hd ts id g.g args k},g.c,λ_ args _ _ e=>Ac hh ts id g.g args e,(λ_ e=>by cases e),λ_ _ e=>by cases e⟩
def hdS:RV->RV
 |.d (.st t) x=>.d (.st t) (hid x)
 |r=>r
def hdA:RV->RV
 |.d t x=>.d t (hid x)
 |r=>r
theorem Kh(r:RV):hdS r=r:=by
 unfold hdS;split
 ·rw[bL]
 ·rfl
theorem YS(r:RV):hdA r=r:=by
 unfold hdA;split
 ·rw[bL]
 ·rfl
section
variable {f:Nat} {ts:List Ty} (g:Cn f ts)
def enT:En:=enX true true Kh g
def enL:En:=enX false true Kh g
def enA:En:=enX true true YS g
def enU:En:=enX true true (hd:=id) (λ_=>rfl) g
def enF:En:=enX true false (hd:=id) (λ_=>rfl) g
def enK:En:=enX false false (hd:=id) (λ_=>rfl) g
end
def enB{f:Nat}(p:Nat){ts:List Ty}(g:CG (ConL Tryz.prog f p) ts id)(c:dJ Tryz.prog f=true:=by kernel_rfl):En:=⟨f,{keep:=false,run:=λ_ _ _=>none,lent:=some (p,λ_ args k=>I5 id ts id g args k)},c,(λ_ _ _ _ e=>by cases e),(λ_ e=>by cases e),λ_ _ e=>by
 injection e with e;injection e with e1 e2;subst e1 e2;exact λR args k r e=>Ac (λ_=>rfl) ts id g args e⟩
def RSL(C:Ctx)(f p:Nat)(args:List SV)(t:KT->OLR):Prop:=∀{r:List RV},(∃n,t (C.k n)=some r)->C.ResL f p args r
theorem RO{E:Env}{N:NT}{f p:Nat}{args:List SV}{t:KT->OLR}(e:∀k,go2 Tryz.prog ft tys E N k 4000 (wB f p args) (.node 0)=t k:=by intro k;kernel_rfl):RSL (CX E N) f p args t:=λh=>adu (C:=CX E N) e h
def ens(l:List En):Env:=l.map λe=>(e.f,e.s)
theorem dk:∀l:List En,EnvAll Tryz.prog (ens l)
 |[]=>trivial
 |e::l=>⟨e.ok,dk l⟩
theorem DD(l:List En){N:NT}{f p:Nat}{args:List SV}{r:List RV}(h:(CX (ens l) N).ResL f p args r)(hk:AU f args.length=true:=by kernel_rfl):ConL Tryz.prog f p args r:=by
 unfold AU at hk;split at hk
 ·rename_i fn e;exact Ctx.ResL.con (C:=CX (ens l) N) (Aj (dk l)) h (fn:=fn) e hk
 ·cases hk
section
variable (l:List En) {N:NT} {f:Nat} {args:List SV} {r:List RV}
theorem dm(h:(CX (ens l) N).Res f args r)(hk:AU f args.length=true:=by kernel_rfl):CQq7 f args r:=fE (dk l) h hk
theorem az(t:KT->OLR)(h:∃n,t ((CX (ens l) []).k n)=some r)(e:∀k,go2 Tryz.prog ft tys (ens l) [] k 4000 (p6 f args) (.node 0)=t k:=by intro k;kernel_rfl)(hk:AU f args.length=true:=by kernel_rfl):CQq7 f args r:=ael (dk l) t h e hk
end
end
def aO(l:List Int):Prop:=Lim l/\l.length<=1000000000
instance (l:List Int):Decidable (aO l):=by unfold aO;infer_instance
theorem It{n:Nat}(h1:0<n)(h2:n<=9223372036854775807):i64.wrap ((n:Int)-1)=((n-1:Nat):Int):=by grind [aM]
theorem yE:∀{l:List Int},(∀j (hj:j<l.length),l[j]=0)->val l=0
 |[],_=>rfl
 |x::l,h=>by
  have h0:=h 0 (by simp);have:=yE (l:=l) λj hj=>h (j+1) (by simpa using hj);simp only[List.getElem_cons_zero]at h0;simp only[val];omega
theorem wd{l:List Int}{n:Nat}(h:∀j (hj:j<l.length),n<=j->l[j]=0):val (l.take n)=val l:=by
 rw[fS l n,yE (l:=l.drop n) λj hj=>by
  rw[List.getElem_drop];exact h _ _ (by omega)]
 simp
theorem mn{l:List Int}{n:Nat}(hl:Lim l)(hn:n<=l.length)(h:∀j (hj:j<l.length),n<=j->l[j]=0)(hz:n=0\/∃hj:n-1<l.length,l[n-1]≠0):l.take n=ag (val l).toNat:=by
 rw[<-wd h];apply nJ;refine⟨hl.take n,?_⟩;grind
def Wu:NT:=[((299,4),{keep:=[0],pure_:=[(0,.int .u32)],hl:=0})]
def ME:Ctx:=CX [] Wu
def Aw(s0:List Int):Cfg:=⟨299,[.blk 0,.seq 13],[(0,.d aix s0)],[],0,[]⟩
def abE(a:List Int)(k:KT):OLR:=k 4 (Aw a)
theorem acU(a:List Int):RS ME 299 [.d aix a] (abE a):=rsX
def wR(s0:List Int)(k:KT):OLR:=match decide ((s0.length:Int)>0)with|true=>(match aG s0 (i64.wrap ((s0.length:Int)-1))with|some x1=>(match x1==0 with|true=>(og (decide ((0:Int)<=0/\0<=i64.wrap ((s0.length:Int)-1)/\i64.wrap ((s0.length:Int)-1)<=(s0.length:Int))) (k 4 (Aw ((s0.take (i64.wrap ((s0.length:Int)-1)).toNat).drop (0:Int).toNat))))|false=>some [RV.d aix s0])|none=>none)|false=>some [RV.d aix s0]
theorem wh(s0:List Int):RN ME 4 (Aw s0) (wR s0):=rnX
def Xk:NT:=[((248,6),{keep:=[0,1,4,5],hl:=1})]
def Mo:Ctx:=CX [] Xk
def zU(neg:Bool)(l:List Int)(s5:Int):Cfg:=⟨248,[.blk 0,.seq 15],[(0,SB neg),(1,.d aix l),(4,.box 0 0),(5,SI s5)],[.box 29 [SB false,.nil]],0,[]⟩
def Z3(neg:Bool)(l:List Int)(k:KT):OLR:=k 6 (zU neg l (l.length:Int))
theorem acB(neg:Bool)(l:List Int):RS Mo 248 [SB neg,.d aix l] (Z3 neg l):=rsX
def rA(neg:Bool)(l:List Int)(s5:Int)(k:KT):OLR:=match decide (s5>0)with|true=>(match aG l (i64.wrap (s5-1))with|some x1=>(match x1==0 with|true=>k 6 (zU neg l (i64.wrap (s5-1)))|false=>(match neg with|true=>(og (decide ((0:Int)<=0/\0<=s5/\s5<=s5/\s5<=(l.length:Int))) (some [RV.d y2Y (decide (s5>0),(l.take (s5).toNat).drop (0:Int).toNat)]))|false=>(og (decide ((0:Int)<=0/\0<=s5/\s5<=s5/\s5<=(l.length:Int))) (some [RV.d y2Y (false,(l.take (s5).toNat).drop (0:Int).toNat)]))))|none=>none)|false=>(match neg with|true=>(og (decide ((0:Int)<=0/\0<=s5/\s5<=s5/\s5<=(l.length:Int))) (some [RV.d y2Y (decide (s5>0),(l.take (s5).toNat).drop (0:Int).toNat)]))|false=>(og (decide ((0:Int)<=0/\0<=s5/\s5<=s5/\s5<=(l.length:Int))) (some [RV.d y2Y (false,(l.take (s5).toNat).drop (0:Int).toNat)])))
theorem xj(neg:Bool)(l:List Int)(s5:Int):RN Mo 6 (zU neg l s5) (rA neg l s5):=rnX
def aaX:Ctx:=CX [] []
def T4(u:Int)(_k:KT):OLR:=some [RV.new 200 aiz ([u32.wrap (Int.tmod u 1000000000),u32.wrap (Int.tmod (u64.wrap (Int.tdiv u 1000000000)) 1000000000),u32.wrap (u64.wrap (Int.tdiv (u64.wrap (Int.tdiv u 1000000000)) 1000000000))])]
theorem acW(u:Int):RS aaX 287 [.d (.int .u64) u] (T4 u):=rsX
theorem Jq(l:List Int)(hl:Lim l)(hs:l.length<=1000000000):∀(n:Nat),n<=l.length->(∀j (hj:j<l.length),n<=j->l[j]=0)->ME.Runs 4 (Aw (l.take n)) [.d aix (ag (val l).toNat)]:=by
 intro n;induction n with
 |zero=>
  intro _ h;refine wh _ ⟨0,?_⟩;rw[<-mn hl (ahn _) h (.inl rfl)];rfl
 |succ n ih=>
  intro hn h;have hlen:(l.take (n+1)).length=n+1:=by rw[af3,af7 hn]
  have hget:(l.take (n+1))[n]?=some l[n]:=by rw[List.getElem?_take_of_lt (by omega),afn (by omega)]
  by_cases hz:l[n]=0
  ·obtain⟨q,hq⟩:=ih (by omega) λj hj hk=>by
    rcases Nat.eq_or_lt_of_le hk with e|e
    ·subst e;exact hz
    ·exact h j hj e
   refine wh _ ⟨q,?_⟩;unfold wR;rw[hlen,afm (by omega),It (by omega) (by omega),am,show n+1-1=n from rfl,hget];dsimp only;rw[hz,afm (show(0:Int)<=0/\(0:Int)<=(n:Int)/\(n:Int)<=((n+1:Nat):Int) by omega),aA,ah9,af7 (by omega)];exact hq
  ·refine wh _ ⟨0,?_⟩;unfold wR;rw[hlen,afm (by omega),It (by omega) (by omega),am,show n+1-1=n from rfl,hget];dsimp only;rw[show(l[n]==0)=false by simpa using hz,<-mn hl hn h (.inr ⟨Nat.lt_of_succ_le hn,hz⟩)]
theorem Qi(a:List Int)(h:aO a):CQq7 299 [.d aix a] [.d aix (ag (val a).toNat)]:=by
 obtain⟨q,hq⟩:=Jq a h.1 h.2 a.length (afs _) (λj hj hk=>by omega);rw[agC]at hq;exact fE (E:=[]) trivial (acU _ ⟨q,hq⟩)
def cf(neg:Bool)(v:Int):Int:=bif neg then-v else v
theorem mj(neg:Bool){v:Int}(h:0<=v):ai (cf neg v)=(neg&&decide (0<v),ag v.toNat):=by
 unfold ai cf;cases neg
 ·simp only[cond_false,Bool.false_and];rw[afo (by omega),show v.natAbs=v.toNat by omega]
 ·simp only[cond_true,agc];rw[show(-v).natAbs=v.toNat by omega];by_cases h0:0<v
  ·rw[afm h0,afm (by omega)]
  ·rw[afo h0,afo (by omega)]
theorem KA(neg:Bool)(l:List Int)(hl:Lim l)(hs:l.length<=1000000000):∀(n:Nat),n<=l.length->(∀j (hj:j<l.length),n<=j->l[j]=0)->Mo.Runs 6 (zU neg l (n:Int)) [.d y2Y (ai (cf neg (val l)))]:=by
 intro n;have hv:=aN hl;induction n with
 |zero=>
  intro _ h;refine xj _ _ _ ⟨0,?_⟩;rw[mj neg hv,<-mn hl (ahn _) h (.inl rfl)];have h0:val l=0:=by rw[<-wd h];rfl
  unfold rA;rw[afo (show ¬((0:Nat):Int)>0 by decide),afm (show(0:Int)<=0/\(0:Int)<=((0:Nat):Int)/\((0:Nat):Int)<=((0:Nat):Int)/\((0:Nat):Int)<=(l.length:Int) by omega),h0];cases neg<;>rfl
 |succ n ih=>
  intro hn h;by_cases hz:l[n]=0
  ·obtain⟨q,hq⟩:=ih (by omega) λj hj hk=>by
    rcases Nat.eq_or_lt_of_le hk with e|e
    ·subst e;exact hz
    ·exact h j hj e
   refine xj _ _ _ ⟨q,?_⟩;unfold rA;rw[afm (by omega),It (by omega) (by omega),am,show n+1-1=n from rfl,afn (by omega)];dsimp only;rw[hz];exact hq
  ·refine xj _ _ _ ⟨0,?_⟩;have hct:=mn hl hn h (.inr ⟨Nat.lt_of_succ_le hn,hz⟩)
   have hpos:0<val l:=by
    rcases afT 0 (val l)with h1|h1
    ·exact h1
    ·exfalso;rw[show(val l).toNat=0 by omega,fG]at hct;have:(l.take (n+1)).length=0:=by rw[hct];rfl
     rw[af3,af7 hn]at this;omega
   rw[mj neg hv,<-hct];unfold rA;rw[afm (show((n+1:Nat):Int)>0 by omega),It (by omega) (by omega),am,show n+1-1=n from rfl,afn (by omega)];dsimp only;rw[show(l[n]==0)=false by simpa using hz,afm (show(0:Int)<=0/\(0:Int)<=((n+1:Nat):Int)/\((n+1:Nat):Int)<=((n+1:Nat):Int)/\((n+1:Nat):Int)<=(l.length:Int) by omega),afm hpos,aA];cases neg<;>rfl
theorem Qa(neg:Bool)(l:List Int)(h:aO l):CQq7 248 [.d .bool neg,.d aix l] [.d y2Y (ai (cf neg (val l)))]:=by
 obtain⟨q,hq⟩:=KA neg l h.1 h.2 l.length (afs _) (λj hj hk=>by omega);exact fE (E:=[]) trivial (acB _ _ ⟨q,hq⟩)
def im(u:Int):Prop:=0<=u/\u<18446744073709551616
instance (u:Int):Decidable (im u):=by unfold im;infer_instance
theorem cU{x:Int}(h1:0<=x)(h2:x<4294967296):u32.wrap x=x:=by rw[IntKind.wrap_u32];omega
theorem a8{x:Int}(h1:0<=x)(h2:x<18446744073709551616):u64.wrap x=x:=by rw[aga];omega
theorem gR{a b:Int}(h:0<=a):Int.tdiv a b=a/b:=Int.tdiv_eq_ediv_of_nonneg h
theorem jl{a b:Int}(h:0<=a):Int.tmod a b=a%b:=Int.tmod_eq_emod_of_nonneg h
theorem Q8(u:Int)(h:im u):CQq7 287 [.d (.int .u64) u] [.new 200 aiz (dig 3 u)]:=by
 refine fE (E:=[]) trivial (acW _ ⟨0,?_⟩);obtain⟨h1,h2⟩:=h;unfold T4;rw[gR h1,jl h1,a8 (x:=u/1000000000) (by omega) (by omega),jl (by omega),gR (a:=u/1000000000) (by omega),cU (x:=u%1000000000) (by omega) (by omega),cU (x:=u/1000000000%1000000000) (by omega) (by omega),a8 (x:=u/1000000000/1000000000) (by omega) (by omega),cU (x:=u/1000000000/1000000000) (by omega) (by omega)]
 have e:dig 3 u=[u%1000000000,u/1000000000%1000000000,u/1000000000/1000000000]:=by
  simp only[dig];rw[show u/1000000000/1000000000%1000000000=u/1000000000/1000000000 by omega]
 rw[e]
def Eg:dK:=spN false false [aix] (λx=>decide (aO x.1)) (λx=>[RV.d aix (ag (val x.1).toNat)])
theorem C8:SpK 299 Eg:=spX λx h=>Qi x.1 (afp h)
def xZ:dK:=spN false false [.bool,aix] (λx=>decide (aO x.2.1)) (λx=>[RV.d y2Y (ai (cf x.1 (val x.2.1)))])
theorem sO:SpK 248 xZ:=spX λx h=>Qa x.1 x.2.1 (afp h)
def Bl:dK:=spN true false [(.int .u64)] (λx=>decide (im x.1)) (λx=>[RV.new 200 aiz (dig 3 x.1)])
theorem xD:SpK 287 Bl:=spX λx h=>Q8 x.1 (afp h)
def F0:Env:=[(299,Eg),(248,xZ),(287,Bl)]
theorem zA:EnvAll Tryz.prog F0:=⟨C8,sO,xD,trivial⟩
def adz:Ctx:=CX F0 []
def VE(n:Int)(_k:KT):OLR:=match decide (n<0)with|true=>(og (decide (im (u64.wrap (0-(u64.wrap n))))) (og (decide (aO (dig 3 (u64.wrap (0-(u64.wrap n)))))) (some [RV.d y2Y (ai (cf (decide (n<0)) (val (dig 3 (u64.wrap (0-(u64.wrap n)))))))])))|false=>(og (decide (im (u64.wrap n))) (og (decide (aO (dig 3 (u64.wrap n)))) (some [RV.d y2Y (ai (cf (decide (n<0)) (val (dig 3 (u64.wrap n)))))])))
theorem adh(n:Int):RS adz 223 [SI n] (VE n):=rsX
def W1:NT:=[((247,24),{keep:=[0,1,5],hl:=0})]
def HQ:Ctx:=CX F0 W1
def vJ(a b:List Int)(s5:Int):Cfg:=⟨247,[.blk 0,.seq 49],[(0,.d aix (ag (val a).toNat)),(1,.d aix (ag (val b).toNat)),(5,SI s5)],[],0,[]⟩
def OE(a b:List Int)(k:KT):OLR:=og (decide (aO a)) (og (decide (aO b)) (match((ag (val a).toNat).length:Int) !=((ag (val b).toNat).length:Int)with|true=>(match decide (((ag (val a).toNat).length:Int)<((ag (val b).toNat).length:Int))with|true=>some [RV.d aiy (-1)]|false=>some [RV.d aiy 1])|false=>k 24 (vJ a b (i64.wrap (((ag (val a).toNat).length:Int)-1)))))
theorem VU(a b:List Int):RS HQ 247 [.d aix a,.d aix b] (OE a b):=rsX
def mg(a b:List Int)(s5:Int)(k:KT):OLR:=match decide (s5>=0)with|true=>(match aG (ag (val a).toNat) s5 with|some x1=>(match aG (ag (val b).toNat) s5 with|some x2=>(match decide (x1<x2)with|true=>some [RV.d aiy (-1)]|false=>(match aG (ag (val a).toNat) s5 with|some x3=>(match aG (ag (val b).toNat) s5 with|some x4=>(match decide (x3>x4)with|true=>some [RV.d aiy 1]|false=>k 24 (vJ a b (i64.wrap (s5-1))))|none=>none)|none=>none))|none=>none)|none=>none)|false=>some [RV.d aiy 0]
theorem pE(a b:List Int)(s5:Int):RN HQ 24 (vJ a b s5) (mg a b s5):=rnX
def a9(n:Int):Prop:= -9223372036854775808<=n/\n<=9223372036854775807
instance (n:Int):Decidable (a9 n):=by unfold a9;infer_instance
theorem wN{u:Int}(h:im u):val (dig 3 u)=u:=gY 3 u h.1 (ahN h.2 (by decide))
theorem jn{n:Nat}(h:n<=1000000000)(v:Int):aO (dig n v):=⟨mN n v,by rw[iN];exact h⟩
theorem Ii(n:Int)(h:a9 n):CQq7 223 [.d aiy n] [.d y2Y (ai n)]:=by
 refine fE zA (adh _ ⟨0,?_⟩);obtain⟨h1,h2⟩:=h;unfold VE;by_cases hn:n<0
 ·have e:u64.wrap (0-u64.wrap n)= -n:=by rw[aga,aga];omega
  have hu:im (-n):=⟨by omega,by omega⟩
  rw[afm hn];dsimp only;rw[e,afm hu,afm (jn (n:=3) (by decide) (-n)),wN hu];simp[cf]
 ·have e:u64.wrap n=n:=a8 (by omega) (by omega);have hu:im n:=⟨by omega,by omega⟩
  rw[afo hn];dsimp only;rw[e,afm hu,afm (jn (n:=3) (by decide) n),wN hu];rfl
theorem OA{l:List Int}{n:Nat}(h:n<l.length):val l=val (l.take n)+pw n*(l[n]+1000000000*val (l.drop (n+1))):=by
 rw[fS l n,af7 (Nat.le_of_lt h),afC h];rfl
theorem AL{a b:List Int}(ha:Lim a)(hb:Lim b){n:Nat}(h1:n<a.length)(h2:n<b.length)(hd:a.drop (n+1)=b.drop (n+1))(hlt:a[n]<b[n]):val a<val b:=by
 rw[OA h1,OA h2,hd];have k1:=b8 (ha.take n);have k2:=aN (hb.take n);rw[af3,af7 (Nat.le_of_lt h1)]at k1;have hp:=co n;have:=afu (show a[n]+1000000000*val (b.drop (n+1))+1<=b[n]+1000000000*val (b.drop (n+1)) by omega) (af0 hp);rw[ait,ahX]at this;omega
theorem cW{a b:Int}(h:a<b):cq a b= -1:=by unfold cq;rw[afm h];rfl
theorem cH{a b:Int}(h:b<a):cq a b=1:=by unfold cq;rw[afo (by omega),afm h];rfl
theorem dO(a:Int):cq a a=0:=by unfold cq;rw[afo (by omega)];rfl
theorem vd{a b:Nat}(h:(ag a).length<(ag b).length):a<b:=by
 rcases afZ a b with h1|h1
 ·exact h1
 ·have:=c7 (n:=b) (k:=(ag a).length) (by
   have:=b8 (cd a);rw[aZ]at this;omega)
  omega
theorem Nq(a b:List Int)(hl:(ag (val a).toNat).length=(ag (val b).toNat).length)(ha:0<=val a)(hb:0<=val b)(hs:(ag (val a).toNat).length<=1000000000):∀(n:Nat),n<=(ag (val a).toNat).length->(ag (val a).toNat).drop n=(ag (val b).toNat).drop n->
  HQ.Runs 24 (vJ a b ((n:Int)-1)) [.d aiy (cq (val a) (val b))]:=by
 have va:=aZ (val a).toNat
 have vb:=aZ (val b).toNat
 have la:=cd (val a).toNat
 have lb:=cd (val b).toNat
 intro n;induction n with
 |zero=>
  intro _ h;refine pE _ _ _ ⟨0,?_⟩;have e:val a=val b:=by simp only[agQ]at h;rw[h]at va;omega
  unfold mg;rw[afo (by omega),e,dO]
 |succ n ih=>
  intro hn h;have h1:n<(ag (val a).toNat).length:=by omega
  have h2:n<(ag (val b).toNat).length:=by omega
  rcases Int.lt_trichotomy (ag (val a).toNat)[n] (ag (val b).toNat)[n]with hc|hc|hc
  ·refine pE _ _ _ ⟨0,?_⟩;have:=AL la lb h1 h2 h hc;unfold mg;rw[show((n+1:Nat):Int)-1=(n:Int) by omega,afm (by omega),am,am,afn h1,afn h2];dsimp only;rw[afm hc,cW (by omega)]
  ·obtain⟨q,hq⟩:=ih (by omega) (by rw[afC h1,afC h2,hc,h]);refine pE _ _ _ ⟨q,?_⟩;unfold mg;rw[show((n+1:Nat):Int)-1=(n:Int) by omega,afm (by omega),am,am,afn h1,afn h2];dsimp only;rw[afo (by omega),afo (by omega),aM (x:=(n:Int)-1) (by omega) (by omega)];exact hq
  ·refine pE _ _ _ ⟨0,?_⟩;have:=AL lb la h2 h1 h.symm hc;unfold mg;rw[show((n+1:Nat):Int)-1=(n:Int) by omega,afm (by omega),am,am,afn h1,afn h2];dsimp only;rw[afo (by omega),afm hc,cH (by omega)]
theorem jN{l:List Int}(h:Lim l):(ag (val l).toNat).length<=l.length:=c7 (by have:=b8 h;have:=aN h;omega)
theorem PT(a b:List Int)(h:aO a/\aO b):CQq7 247 [.d aix a,.d aix b] [.d aiy (cq (val a) (val b))]:=by
 refine fE zA (show HQ.Res _ _ _ from ?_);obtain⟨ha,hb⟩:=h;have la:=jN ha.1;have lb:=jN hb.1;have na:=aN ha.1;have nb:=aN hb.1;have hsa:=ha.2;have hsb:=hb.2;by_cases hl:(ag (val a).toNat).length=(ag (val b).toNat).length
 ·obtain⟨q,hq⟩:=Nq a b hl na nb (by omega) _ (afs _) (by rw[ahH,hl,ahH]);refine VU _ _ ⟨q,?_⟩;unfold OE;rw[afm ha,afm hb,show(((ag (val a).toNat).length:Int) !=((ag (val b).toNat).length:Int))=false by simp[hl],aM (x:=((ag (val a).toNat).length:Int)-1) (by omega) (by omega)];exact hq
 ·refine VU _ _ ⟨0,?_⟩;unfold OE;rw[afm ha,afm hb,show(((ag (val a).toNat).length:Int) !=((ag (val b).toNat).length:Int))=true by simp;omega];dsimp only;rcases Nat.lt_or_gt_of_ne hl with h1|h1
  ·have:=vd h1;rw[afm (by omega),cW (by omega)]
  ·have:=vd h1;rw[afo (by omega),cH (by omega)]
end Go.Proofs.YtagbmoohboleaaaGreat
end
