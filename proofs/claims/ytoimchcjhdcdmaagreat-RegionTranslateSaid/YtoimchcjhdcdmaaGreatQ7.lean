/- The pure machine is sound: the induction. -/
import Derived.Test.YtoimchcjhdcdmaaGreatQ6
noncomputable section
namespace Go.Proofs.YtoimchcjhdcdmaaGreat
open Go.RowKit Go.IntKind
open Bool renaming true->T',false->F'
open Option renaming some->S'
theorem aoP:type_of% @decide_eq_true:=@decide_eq_true
theorem aoR:type_of% @decide_eq_false:=@decide_eq_false
theorem aoW:type_of% @Int.mul_le_mul_of_nonneg_left:=@Int.mul_le_mul_of_nonneg_left
theorem apv:type_of% @Int.le_of_lt:=@Int.le_of_lt
theorem apV:type_of% @Bool.and_self:=@Bool.and_self
theorem ap0:type_of% @List.take_succ_eq_append_getElem:=@List.take_succ_eq_append_getElem
theorem aqn:type_of% @Classical.choose_spec:=@Classical.choose_spec
theorem aqP:type_of% @Region.noSelect_spec:=@Region.noSelect_spec
theorem ara:type_of% @Int.toNat_natCast:=@Int.toNat_natCast
theorem arm:type_of% @Nat.mul_le_mul:=@Nat.mul_le_mul
theorem ase:type_of% @Int.le_refl:=@Int.le_refl
section
theorem zo{P:Program}{fn:Func}{R:Ending->World->Prop}{B:Code}{K:List KI}{i:Nat}{a:Act}{w:World}(S:World->Prop){id:Nat}(hm:P.follows .mixedOrders=T')(hc:nth B i=.region id (aj (nth B i)) T')(h:AtG P fn R B K i S (aj (nth B i)).size [] a w.drew):At P fn R B K i a w:=by
 unfold At;rw[hc];refine wp_region_any hm (Fz (S0:=S) _ _ _ _ ?_);simpa [AtG,mkL,aj]using h
theorem BT{n s:Nat}:∀{D:List Nat},s∉D->s<n->(mkL n D).getD s T'=F'
 |[],_,h=>by simp[mkL,h]
 |j::D,hn,h=>by
  have h1:s≠j:=λe=>hn (by simp[e]);rw[mkL,aru T' (aqK h1)];exact BT (λhm=>hn (by simp[hm])) h
theorem C8{ops:Array Oper}:¬storeDone ops (mkL ops.size []):=by
 rintro ⟨s,os,h1,_,h3⟩
 have hlt:=(ao6.1 h1).1;simp_all [mkL]
section
variable {Z:Nat->Prop} {w0:World} {F:FT} {P:Program} {T:TT} {E:Env} {N:NT} {Fin:Nat->Cfg->Option (List RV)} {Rt:Ending->World->Prop} {r:List RV}
set_option maxHeartbeats 2000000 in
theorem yw(hT:eO P T=T')(hE:kY P E)(hI:inv w0)(hF:∀f fn,fT F f=S' fn->P.funcs[f]?=S' fn)(hm:P.follows .mixedOrders=T')
  (hRt:∀vs H G w ss tys,Ah T H ss tys=S' r->SR Z w0 H G w->bJ (Rel G (Av Z H G) w) ss vs->Rt (.returned (kS vs)) w)
  (hFin:∀i c G w a ats fn,Fin i c=S' r->CR Z F w0 c G w a ats->fT F c.f=S' fn->InLoop P (nth (ai F c.f) (i+1)) (iy P fn (fb P F Rt c.fs ats) (ai F c.f) (ii P fn (fb P F Rt c.fs ats) (ai F c.f) c.K)) a w):
  ∀(m:Nat) (c:Cfg) (p:Pos),go P F T E N Fin m c p=S' r->∀G w a ats fn,CR Z F w0 c G w a ats->fT F c.f=S' fn->iC P F Rt c fn G w a ats p:=by
 have headOk:∀i c,head N Fin i c=S' r->∀G w a ats fn,CR Z F w0 c G w a ats->fT F c.f=S' fn->InLoop P (nth (ai F c.f) (i+1)) (iy P fn (fb P F Rt c.fs ats) (ai F c.f) (ii P fn (fb P F Rt c.fs ats) (ai F c.f) c.K)) a w:=by
  intro i c h G w a ats fn hc hfn;unfold head at h;split at h
  ·obtain⟨y,h⟩:=LS h;split at h<;>try (cases h;done)
   rename_i c' hn;obtain⟨G',k1,k2,k3,k4⟩:=W9 hn hc;have:=hFin i c' G' w a ats fn h k1 (by rw[k2];exact hfn);rw[k2,k3,k4]at this;exact this
  ·exact hFin i c G w a ats fn h hc hfn
 intro m;induction m using Nat.strongRecOn with
 |ind m0 ihs=>
 cases m0 with
 |zero=>intro c p h;simp[WK]at h
 |succ m=>
  have ih:=ihs m (Nat.lt_succ_self m)
  have tail:∀(c:Cfg) (i:Nat) (la:List AlA) (ss:List AlS) (ats:List Act) (fn:Func) (n:Nat) (l:Array Bool) (L:SL) (G:List Value) (w:World) (a:Act),tT P F T E N Fin r c i la ss (m+1) n l L->mN c.H.length c.H->c.fl<=c.H.length->Region.noSelect (aj (nth (ai F c.f) i))=T'->Clo (aj (nth (ai F c.f) i)) l->l.size=(aj (nth (ai F c.f) i)).size->SR Z w0 (ct (dn l) ss (c.H++alX (dn l) la)) G w->FR Z (ntm F c.f) L (ct (dn l) ss (c.H++alX (dn l) la)) G w a->FrsOk Z F (ct (dn l) ss (c.H++alX (dn l) la)) G w c.fl c.fs ats->fT F c.f=S' fn->wpG P (aj (nth (ai F c.f) i)) (iy P fn (fb P F Rt c.fs ats) (ai F c.f) (ii P fn (fb P F Rt c.fs ats) (ai F c.f) c.K)) (λ_=>True) n l a w:=by
   intro c i la ss ats fn n l L G w a hf hlow hfl hns hcl hsz k1 k2 k3 hfn;rcases hf with⟨D',q,_,e1,rfl,rfl,rfl,e2,e3,e4,e5⟩|⟨D',q,L0,ss',q1,q2,q3,qW,qS,eC,e2,e3,e4,e5,e6,e7,e8⟩|⟨D',q,j,o,_,_,rfl,rfl,rfl,e2,e2',hrd,ho1,e4,e5⟩
   ·rw[show ct (dn (mkL (aj (nth (ai F c.f) i)).size D')) [] (c.H++alX (dn (mkL (aj (nth (ai F c.f) i)).size D')) [])=c.H from apj _]at k1 k2 k3;refine zh _ _ _ _ (ihs q (by omega) _ _ e5 G w a ats fn ⟨k1,k2,hfl,k3⟩ hfn c.H G w (.inr ⟨Agr.refl,λ_ _ hx=>hx,λ_=>⟨rfl,rfl,rfl⟩,?_⟩) hcl hns n e2);rintro ⟨s,os,h1,h2,h3⟩
    have hlt:=(ao6.1 h1).1
    have:s∈D':=by
     apply apb;intro hn;rw[BT hn hlt]at h3;cases h3
    have:=e3 s this os h1;rw[h2]at this;cases this
   ·have hst:ct (dn l) ss (c.H++alX (dn l) la)=ct (dn l) ss' (c.H++alX (dn l) la):=by
     rcases qS with⟨_,rfl,h⟩|⟨_,rfl,_⟩
     ·exact(qu (ss:=ss') h).symm
     ·rfl
    rw[hst]at k1 k2 k3;refine Xu (fl:=c.fl) (X:=λH G w=>FrsOk Z F H G w c.fl c.fs ats) hT hE hI q1 q2 q3 qW hlow e7 hfl (by rw[ij]) (λH G w H' G' w' hx hp=>hx.ev hp (aoU _)) (λn l G w a r1 r2 r3 r4 r5 r6 u1 u2 u3=>?_) n l e4 hsz e5 e6 hcl G w a k1 (k2.eqv e8) k3
    have hl:l=mkL (aj (nth (ai F c.f) i)).size ((la.map (·.i)++ss'.map (·.i))++D'):=by
     refine Array.ext (by rw[r2,ij]) λk h1 h2=>?_;rw[show l[k]=l.getD k T' by simp[h1],show(mkL (aj (nth (ai F c.f) i)).size ((la.map (·.i)++ss'.map (·.i))++D'))[k]=(mkL (aj (nth (ai F c.f) i)).size ((la.map (·.i)++ss'.map (·.i))++D')).getD k T' by rw[ap2,Array.getElem?_eq_getElem h2];rfl];by_cases hm:k∈(la.map (·.i)++ss'.map (·.i))++D'
     ·rw[Hu hm];rcases ape.1 hm with hm|hm
      ·exact r4 k hm
      ·have:=r3 k (by rw[jX (by rw[ij,<-r2];exact h1)];exact Hu hm);rw[jX h1]at this;exact this
     ·rw[fK hm (by rw[<-r2];exact h1)];cases hq:l.getD k true with
      |false=>rfl
      |true=>
       exfalso;rw[ape,not_or]at hm;rcases r5 k hq with h|h
       ·rw[fK hm.2 (by rw[<-r2];exact h1)]at h;cases h
       ·exact hm.1 h
    subst hl;have hcu:=Th (aj (nth (ai F c.f) i)).size ((la.map (·.i)++ss'.map (·.i))++D');refine Gk ((aj (nth (ai F c.f) i)).size-((la.map (·.i)++ss'.map (·.i))++D').length) n _ _ _ (by omega) (zh _ _ _ _ (ihs q (by omega) _ _ e3 G w a ats fn ⟨u1,u2,by rw[ud,apr];exact ao1 hfl (Nat.le_add_right _ _),u3⟩ hfn (ct (λ_=>T') ss' (c.H++alX (λ_=>T') la)) G w ?_ r6 hns ((aj (nth (ai F c.f) i)).size-((la.map (·.i)++ss'.map (·.i))++D').length) (Nat.sub_add_cancel eC)));by_cases hsd:storeDone (aj (nth (ai F c.f) i)) (mkL (aj (nth (ai F c.f) i)).size ((la.map (·.i)++ss'.map (·.i))++D'))
    ·exact .inl ⟨hsd,rfl⟩
    ·exact .inr ⟨Agr.refl,λ_ _ hx=>hx,λe=>(by cases e),hsd⟩
   ·rw[show ct (dn (mkL (aj (nth (ai F c.f) i)).size D')) [] (c.H++alX (dn (mkL (aj (nth (ai F c.f) i)).size D')) [])=c.H from apj _]at k1 k2 k3;have hjr:j∈Region.ready .any (aj (nth (ai F c.f) i)) (mkL (aj (nth (ai F c.f) i)).size D'):=by rw[hrd];simp
    obtain⟨n',rfl⟩:∃n',n=n'+1:=⟨n-1,by omega⟩
    have hn':n'=(aj (nth (ai F c.f) i)).size-(j::D').length:=by simp;omega
    refine qp hrd (by simp) λk hk=>?_;have hk:k=j:=by simpa using hk
    subst hk;unfold wpOp;simp only[ho1];rcases d8 k2 e5 with⟨L1,h1,hf1,hw⟩|⟨L1,h1,hf1,hw⟩
    ·rw[apB hw];refine .inl ?_;unfold Oper.wp;split at h1<;>try (cases h1;done)
     rename_i g ss hin;obtain⟨f,args,tys,fg,caps,e1,e2,e3,e4,e5,e6,e7⟩:=CA hf1 hin;have hcl2:cQ P g=true:=by unfold cQ;rw[hF g fg e2];simp only[e6,e7,apV]
     rw[jp hcl2 a.eval o f args tys caps e1 e3 w];obtain⟨B,hB⟩:=apD.1 e7;have hbf:ai F g=B:=by simp[ai,e2,hB]
     have hcal:Calls P g (args.map a.eval++caps) w (fb P F Rt ({f:=c.f,K:=c.K,i:=i,k:=k,L:=xI N c.f i L1,fl:=c.fl,d:=S' (k::D')}::c.fs) (a::ats)):=by
      have hto:args.map a.eval++caps=(args.map a.eval++caps).toList.toArray:=by simp
      rw[hto];refine enter (hF g fg e2) hB (apf (by rw[<-dw e4];exact e5)) λa2 hst=>?_
      have:=ihs q (by omega) _ _ h1 G w a2 (a::ats) fg ⟨k1,⟨hst.defers,by rw[hst.size];simp[ntm,e2],kq e4 hst.slot⟩,aoU _,⟨⟨hf1.defers,hf1.size,λt s hs=>hf1.slot t s (gE hs)⟩,λt s hs=>by obtain⟨v,_,hv⟩:=hf1.slot t s (gE hs);exact ko k1 hv,⟨hfl,⟨fn,hfn⟩,λD hD=>by
       injection hD with hD;subst hD;exact⟨hcl.set hjr,hns,by simpa using e2'⟩⟩,k3⟩⟩ e2
      simp only[iC,ii]at this;rw[hbf]at this;exact this
     refine asd hcal ?_;rintro e w' ⟨v,rfl,fn',o',q1,q2,_,q3⟩
     have q3:=q3 _ rfl;simp only at q1 q2 q3;rw[hfn]at q1;injection q1 with q1;subst q1;rw[ho1]at q2;injection q2 with q2;subst q2;refine⟨.inr trivial,?_⟩;rw[hn'];exact q3
    ·rw[aph (by rw[hw];simp)];split at h1<;>try (cases h1;done)
     rename_i L2 hp2;refine⟨.inr trivial,?_⟩;rw[hn'];exact ihs q (by omega) _ _ h1 G w (a.put o.dst undef) ats fn ⟨k1,hf1.put hp2 rfl,hfl,k3⟩ hfn (λ_=>True) (λ_ _ _ _=>trivial) (.inr trivial) (hcl.set hjr) hns _ (Nat.sub_add_cancel (by simpa using e2'))
  intro c p h G w a ats fn hc hfn;have h0:=h;rw[Xx]at h;unfold stC at h;split at h
  ·-- nrm
   split at h
   ·rename_i hK;have:=ih _ _ h G w a ats fn ⟨hc.sr,hc.fr,hc.fl,hc.frs⟩ hfn;simp only[iC]at this ⊢;rw[hK];exact this
   ·rename_i j K hK;have:=ih _ _ h G w a ats fn ⟨hc.sr,hc.fr,hc.fl,hc.frs⟩ hfn;simp only[iC]at this ⊢;rw[hK];exact this
   ·rename_i id K hK;have:=ih _ _ h G w a ats fn ⟨hc.sr,hc.fr,hc.fl,hc.frs⟩ hfn;simp only[iC]at this ⊢;rw[hK];exact this
   ·rename_i i K hK;have:=headOk i {c with K:=K} h G w a ats fn ⟨hc.sr,hc.fr,hc.fl,hc.frs⟩ hfn;simp only[iC];rw[hK];exact this
  ·-- node
   rename_i i;simp only[iC];split at h
   ·rename_i hn;exact Xr hn (ih _ _ h G w a ats fn hc hfn)
   ·rename_i x y hn;have:=ih _ _ h G w a ats fn ⟨hc.sr,hc.fr,hc.fl,hc.frs⟩ hfn;exact yL (W2 hn) this
   ·rename_i id x hn;have:=ih _ _ h G w a ats fn ⟨hc.sr,hc.fr,hc.fl,hc.frs⟩ hfn;exact Rz (My hn) this
   ·rename_i id hn;split at h<;>try (cases h;done)
    rename_i K hK;have:=ih _ _ h G w a ats fn ⟨hc.sr,hc.fr,hc.fl,hc.frs⟩ hfn;exact Xl hn (XK (wW hK) this)
   ·rename_i hn;exact IU hn (ih _ _ h G w a ats fn hc hfn)
   ·rename_i x p q hn;split at h<;>try (cases h;done)
    rename_i b hb;have hv:=sR (aF hc.fr hb);unfold At;rw[Vj hn];split at h
    ·exact wp_cond_true hv (ih _ _ h G w a ats fn hc hfn)
    ·exact wp_cond_false hv (ih _ _ h G w a ats fn hc hfn)
   ·rename_i x hn;unfold At;rw[T7 hn];exact(headOk i c h G w a ats fn hc hfn).wp
   ·rename_i id ops hn;have:=ih _ _ h G w a ats fn hc hfn;exact mD (id:=id) (by rw[hn];rfl) this
   ·rename_i id ops hn;split at h<;>try (cases h;done)
    rename_i hns;have hops:aj (nth (ai F c.f) i)=ops:=by rw[hn];rfl
    have hb:Below w.heap.size w w.drew:=(arl _ _).drew;have hsg:=uv hc.sr hb;have hev:Ev Z c.fl c.H G w c.H G w.drew:=λs v hs _=>cU hc.sr hsg hs;have hcr:CR Z F w0 c G w.drew a ats:=⟨LI hc.sr hb,hc.fr.keep λs v hs=>cU hc.sr hsg hs,hc.fl,hc.frs.ev hev (aoU _)⟩
    split at h
    ·refine zo (λ_=>True) hm (id:=id) (by rw[hn];rfl) ?_;split at h
     ·exact ih _ _ h G w.drew a ats fn hcr hfn rfl (by rw[hops];exact hns)
     ·exact ih _ _ h G w.drew a ats fn hcr hfn rfl (by rw[hops];exact hns)
    split at h
    ·refine zo (λ_=>True) hm (id:=id) (by rw[hn];rfl) ?_;exact ih _ _ h G w.drew a ats fn hcr hfn qF (by rw[hops];exact hns) _ (by simp)
    refine zo (Agr (!(ops.any λo=>vX o.op)) c.H G w.drew) hm (id:=id) (by rw[hn];rfl) ?_;exact ih _ _ h G w.drew a ats fn hcr hfn c.H G w.drew (.inr ⟨Agr.refl,λ_ _ hx=>hx,λ_=>⟨rfl,rfl,rfl⟩,C8⟩) qF (by rw[hops];exact hns) _ (by simp)
   ·cases h
  ·-- ops
   rename_i i k;simp only[iC];split at h
   ·rename_i hk;exact W1 hk (ih _ _ h G w a ats fn hc hfn)
   ·rename_i o hk;rcases d8 hc.fr h with⟨L1,h1,hf1,hw⟩|⟨L1,h1,hf1,hw⟩
    ·refine Yr hk hw ?_;split at h1
     ·split at h1<;>try (cases h1;done)
      rename_i hfz;obtain⟨g1,g2,g3,g4,g5⟩:=afs hc.sr hf1 hfz;obtain⟨s,v,h2,h3,h4⟩:=iE hT g1 g2 h1;split at h2<;>try (cases h2;done)
      rename_i L2 hp;rw[h4 w (λ_=>Agr.refl)];exact ih _ _ h2 G w (a.put o.dst v) ats fn ⟨g1,g2.put hp h3,ao1 hc.fl (Nat.le_of_eq g5),hc.frs.evF g3 (aoU _)⟩ hfn
     ·split at h1
      ·rename_i g ss hin;obtain⟨f,args,tys,fg,caps,e1,e2,e3,e4,e5,e6,e7⟩:=CA hf1 hin;have hcl:cQ P g=true:=by unfold cQ;rw[hF g fg e2];simp only[e6,e7,apV]
       rw[jp hcl a.eval o f args tys caps e1 e3 w];obtain⟨B,hB⟩:=apD.1 e7;have hbf:ai F g=B:=by simp[ai,e2,hB]
       have hcal:Calls P g (args.map a.eval++caps) w (fb P F Rt ({f:=c.f,K:=c.K,i:=i,k:=k,L:=xI N c.f i (xI N c.f (i+1000*(k+1)) L1),fl:=c.fl}::c.fs) (a::ats)):=by
        have hto:args.map a.eval++caps=(args.map a.eval++caps).toList.toArray:=by simp
        rw[hto];refine enter (hF g fg e2) hB (apf (by rw[<-dw e4];exact e5)) λa2 hst=>?_;have:=ih _ _ h1 G w a2 (a::ats) fg ⟨hc.sr,⟨hst.defers,by rw[hst.size];simp[ntm,e2],kq e4 hst.slot⟩,aoU _,⟨⟨hf1.defers,hf1.size,λt s hs=>hf1.slot t s (gE (gE hs))⟩,λt s hs=>by obtain⟨v,_,hv⟩:=hf1.slot t s (gE (gE hs));exact ko hc.sr hv,⟨hc.fl,⟨fn,hfn⟩,λD hD=>by cases hD⟩,hc.frs⟩⟩ e2;simp only[iC,ii]at this;rw[hbf]at this;exact this
       refine asd hcal ?_;rintro e w' ⟨v,rfl,fn',o',q1,q2,q3,_⟩
       have q3:=q3 rfl;simp only at q1 q2 q3;rw[hfn]at q1;injection q1 with q1;subst q1;rw[hk]at q2;injection q2 with q2;subst q2;exact q3
      ·refine qx hT hE hI hc.sr hf1 h1 λs H' L2 G' w' v h2 h3 h4 h5 h6=>?_;split at h2<;>try (cases h2;done)
       rename_i L3 hp;exact ih _ _ h2 G' w' (a.put o.dst v) ats fn ⟨h3,h4.put hp h5,ao1 hc.fl h6.len,hc.frs.evF h6.pres (aoU _)⟩ hfn
    ·refine ago hk hw ?_;split at h1<;>try (cases h1;done)
     rename_i L2 hp;exact ih _ _ h1 G w (a.put o.dst undef) ats fn ⟨hc.sr,hf1.put hp rfl,hc.fl,hc.frs⟩ hfn
  ·-- drw
   rename_i i rw eff D;simp only[iC];intro Hs Gs ws hinv hclo hns m' hm';split at h
   ·exact ih _ _ h G w a ats fn hc hfn (Agr rw Hs Gs ws) (λw w' hw ho=>⟨ao1 hw.1 ho.1,λb hb hor=>(ho.2 b (aqI hb hw.1)).trans (hw.2 b hb hor)⟩) (hinv.elim (λh=>.inl h.1) (λh=>.inr h.1)) hclo hns m' hm'
   split at h
   ·rename_i hrd;exact ui hrd (ih _ _ h G w a ats fn hc hfn) _
   ·rename_i rs hrd;split at h<;>try (cases h;done)
    rename_i hlen;have hlen:=aoV hlen;obtain⟨m'',rfl⟩:∃m'',m'=m''+1:=⟨m'-1,by omega⟩
    have hsst:Sst (aj (nth (ai F c.f) i)) (Agr rw Hs Gs ws) (mkL (aj (nth (ai F c.f) i)).size D) w:=hinv.elim (λh=>.inl h.1) (λh=>.inr h.1);split at h
    ·rename_i j hj;obtain⟨j1,o,j2,j3,j4,j5,j6⟩:=xO hj;have j1:=VO j1;rw[j2]at h;dsimp only at h;have hns1:dO o.op=false:=CO j3;have hclo':Clo (aj (nth (ai F c.f) i)) (mkL (aj (nth (ai F c.f) i)).size (j::D)):=hclo.set j1
     have hinv':(storeDone (aj (nth (ai F c.f) i)) (mkL (aj (nth (ai F c.f) i)).size (j::D))/\eff=T')\/(Agr rw Hs Gs ws w/\(∀b,b<ws.heap.size->fW c.H G b->fW Hs Gs b)/\(eff=F'->c.H=Hs/\G=Gs/\w=ws)/\¬storeDone (aj (nth (ai F c.f) i)) (mkL (aj (nth (ai F c.f) i)).size (j::D))):=
      hinv.elim (λh=>.inl ⟨h.1.set j,h.2⟩) λh=>.inr ⟨h.1,h.2.1,h.2.2.1,λh'=>h.2.2.2 (h'.unset j2 hns1)⟩
     have take:∀{v:Value},YieldsIf P (aj (nth (ai F c.f) i)) (λw'=>nJ o.op=T'->Agr rw Hs Gs ws w') o v a->AtG P fn (fb P F Rt c.fs ats) (ai F c.f) (ii P fn (fb P F Rt c.fs ats) (ai F c.f) c.K) i (Agr rw Hs Gs ws) m'' (j::D) (a.put o.dst v) w->AtG P fn (fb P F Rt c.fs ats) (ai F c.f) (ii P fn (fb P F Rt c.fs ats) (ai F c.f) c.K) i (Agr rw Hs Gs ws) (m''+1) D a w:=by
      intro v hy hk;cases hl:nJ o.op with
      |true=>
       obtain⟨he,haw⟩:=j4 hl;obtain⟨hagr,_,_,hun⟩:=hinv.resolve_left (λh=>by rw[he]at h;cases h.2);have hy':YieldsIf P (aj (nth (ai F c.f) i)) (Agr rw Hs Gs ws) o v a:=hy.imp (λh=>⟨h.1,λw' hS=>h.2 w' λ_=>hS⟩) id;exact M7 j2 (aqP hns) (λcc a w hq=>j8 _ cc a _ _ w hq) hns1 haw m'' _ a w (ap5 j2 j6) hclo hun j1 hy' hagr hk
      |false=>
       have hy':YieldsIf P (aj (nth (ai F c.f) i)) (λ_=>True) o v a:=hy.imp (λh=>⟨h.1,λw' _=>h.2 w' λh'=>by rw[hl]at h';cases h'⟩) id;exact sI j2 (aqP hns) (λcc a w hq=>j8 _ cc a _ _ w hq) hns1 m'' _ a w (ap5 j2 j6) j1 hy' hsst hk
     rcases d8 hc.fr h with⟨L1,h1,hf1,hw⟩|⟨L1,h1,hf1,hw⟩
     ·obtain⟨s,v,h2,h3,h4⟩:=iE hT hc.sr hf1 h1;split at h2<;>try (cases h2;done)
      rename_i L2 hp;refine take (v:=v) (.inl ⟨hw,λw' hS=>h4 w' λhl=>?_⟩) ?_
      ·obtain⟨he,_⟩:=j4 hl;obtain⟨_,_,heff,_⟩:=hinv.resolve_left (λh=>by rw[he]at h;cases h.2);obtain⟨e1,e2,e3⟩:=heff he;rw[e1,e2,e3];exact hS hl
      ·exact ih _ _ h2 G w (a.put o.dst v) ats fn ⟨hc.sr,hf1.put hp h3,hc.fl,hc.frs⟩ hfn Hs Gs ws hinv' hclo' hns m'' (by simp;omega)
     ·split at h1<;>try (cases h1;done)
      rename_i L2 hp;refine take (v:=undef) (.inr ⟨hw,rfl⟩) ?_;exact ih _ _ h1 G w (a.put o.dst undef) ats fn ⟨hc.sr,hf1.put hp rfl,hc.fl,hc.frs⟩ hfn Hs Gs ws hinv' hclo' hns m'' (by simp;omega)
    ·refine qp (rs:=Region.ready .any (aj (nth (ai F c.f) i)) (mkL (aj (nth (ai F c.f) i)).size D)) rfl (by assumption) λk hk=>?_;have h:=u7 h k hk;split at h<;>try (cases h;done)
     rename_i o j2;have hclo':Clo (aj (nth (ai F c.f) i)) (mkL (aj (nth (ai F c.f) i)).size (k::D)):=hclo.set hk;have hsst':Sst (aj (nth (ai F c.f) i)) (Agr rw Hs Gs ws) (mkL (aj (nth (ai F c.f) i)).size (k::D)) w:=hsst.set k;have sdone:dO o.op=T'->storeDone (aj (nth (ai F c.f) i)) (mkL (aj (nth (ai F c.f) i)).size (k::D)):=λh=>⟨k,o,j2,h,qO _ _⟩
     have hinv':dO o.op=F'->(storeDone (aj (nth (ai F c.f) i)) (mkL (aj (nth (ai F c.f) i)).size (k::D))/\eff=T')\/(Agr rw Hs Gs ws w/\(∀b,b<ws.heap.size->fW c.H G b->fW Hs Gs b)/\(eff=F'->c.H=Hs/\G=Gs/\w=ws)/\¬storeDone (aj (nth (ai F c.f) i)) (mkL (aj (nth (ai F c.f) i)).size (k::D))):=
      λhns1=>hinv.elim (λh=>.inl ⟨h.1.set k,h.2⟩) λh=>.inr ⟨h.1,h.2.1,h.2.2.1,λh'=>h.2.2.2 (h'.unset j2 hns1)⟩
     unfold wpOp;simp only[j2];rcases d8 hc.fr h with⟨L1,h1,hf1,hw⟩|⟨L1,h1,hf1,hw⟩
     ·rw[apB hw];refine .inl ?_;unfold Oper.wp;split at h1
      ·rename_i hq;have hns1:dO o.op=false:=CO hq;obtain⟨s,v,h2,h3,h4⟩:=iE hT hc.sr hf1 h1;split at h2<;>try (cases h2;done)
       rename_i L2 hp;rw[h4 w (λ_=>Agr.refl)];exact⟨hsst',ih _ _ h2 G w (a.put o.dst v) ats fn ⟨hc.sr,hf1.put hp h3,hc.fl,hc.frs⟩ hfn Hs Gs ws (hinv' hns1) hclo' hns m'' (by simp;omega)⟩
      ·split at h1<;>try (cases h1;done)
       rename_i hcond;simp only[arI]at hcond;obtain⟨hst1,hst2⟩:=hcond;simp only[Bool.and_eq_false_iff]at hst2;refine qx hT hE hI hc.sr hf1 h1 λs H' L2 G' w' v h2 h3 h4 h5 h6=>?_;split at h2<;>try (cases h2;done)
       rename_i L3 hp;have hcr:CR Z F w0 {c with L:=L3,H:=H'} G' w' (a.put o.dst v) ats:=⟨h3,h4.put hp h5,ao1 hc.fl h6.len,hc.frs.evF h6.pres (aoU _)⟩
       cases hiss:dO o.op with
       |true=>exact⟨.inl (sdone hiss),ih _ _ h2 G' w' (a.put o.dst v) ats fn hcr hfn Hs Gs ws (.inl ⟨sdone hiss,rfl⟩) hclo' hns m'' (by simp;omega)⟩
       |false=>
        rcases hinv with hinv|⟨hagr,hrows,heff,hun⟩
        ·exact⟨.inl (hinv.1.set k),ih _ _ h2 G' w' (a.put o.dst v) ats fn hcr hfn Hs Gs ws (.inl ⟨hinv.1.set k,rfl⟩) hclo' hns m'' (by simp;omega)⟩
        ·have hag:=h6.agr.resolve_left (by rw[hiss,hst1];simp)
         have hagr':Agr rw Hs Gs ws w':=by
          refine⟨ao1 hagr.1 hag.1.1,λb hb hor=>?_⟩;rw[<-hagr.2 b hb hor];refine hag.1.2 b (aqI hb hagr.1) ?_;rcases hst2 with h7|h7
          ·left;rw[h7];rfl
          ·right;rcases hor with hor|hor
           ·rw[h7]at hor;cases hor
           ·exact λhx=>hor (hrows b hb hx)
         exact⟨.inr hagr',ih _ _ h2 G' w' (a.put o.dst v) ats fn hcr hfn Hs Gs ws (.inr ⟨hagr',λb hb hx=>hrows b hb (hag.2 b (aqI hb hagr.1) hx),(λe=>by cases e),λh'=>hun (h'.unset j2 hiss)⟩) hclo' hns m'' (by simp;omega)⟩
     ·rw[aph (by rw[hw];simp)];split at h1<;>try (cases h1;done)
      rename_i L2 hp;refine⟨hsst',ih _ _ h1 G w (a.put o.dst undef) ats fn ⟨hc.sr,hf1.put hp rfl,hc.fl,hc.frs⟩ hfn Hs Gs ws ?_ hclo' hns m'' (by simp;omega)⟩;cases hiss:dO o.op with
      |true=>exact .inl ⟨sdone hiss,by simp⟩
      |false=>simpa using hinv' hiss
  ·-- tam
   rename_i i D;clear h;simp only[iC];intro hD0 hns;subst hD0
   have hlow:∀t s,aK c.L t=S' s->s.refsT c.H.length=true:=λt s hs=>by
    obtain⟨v,_,hv⟩:=hc.fr.slot t s hs;exact ko hc.sr hv
   obtain⟨la,ss,hp,hnew,hrun⟩:=JC hT hE (c:=c) (m+1) [] c.L h0 (by rw[IT];rfl) (λj hj=>by cases hj) hlow qF
   obtain⟨G1,g1,g2,g3⟩:=yi (dn (mkL (aj (nth (ai F c.f) i)).size [])) (la:=la) (λx hx=>by
    obtain⟨⟨o,ho,_⟩,_⟩:=hp.la2 x hx;exact fK (by simp) (ao6.1 ho).1) hc.sr hc.fr
   have hst0:ct (dn (mkL (aj (nth (ai F c.f) i)).size [])) ss (c.H++alX (dn (mkL (aj (nth (ai F c.f) i)).size [])) la)=c.H++alX (dn (mkL (aj (nth (ai F c.f) i)).size [])) la:=qu λs hs=>by
    obtain⟨⟨o,ho,_⟩,_⟩:=hp.ss1 s hs;exact fK (by simp) (ao6.1 ho).1
   refine TRun.sound (T:=T) (S0:=λ_=>True) (λ_ _ h _=>h) (λ_ _=>trivial) (fl:=c.fl) (X:=λH G w=>FrsOk Z F H G w c.fl c.fs ats) hT hE hI (aqP hns) (j8 _) xm I1 hp hnew (tc hc.sr) hc.fl (λH G w H' G' w' hx hp=>hx.ev hp (aoU _)) (λn l L G w a hf ho hcl hsz hL k1 k2 k3=>?_) _ _ _ hrun qF (by rw[ij]) (λt s hs=>.inl (hlow t s hs)) G1 w a (by rw[hst0];exact g1) (by rw[hst0];exact g2) (by rw[hst0];exact hc.frs.ev (λs v h _=>g3 s v h) (aoU _)) trivial;exact tail c i la ss ats fn n l L G w a (hf.resolve_right λh=>h.1) (tc hc.sr) hc.fl hns hcl hsz k1 k2 k3 hfn
  ·-- tbx
   rename_i i D;clear h;simp only[iC];intro hD0 hns;subst hD0
   have hlow:∀t s,aK c.L t=S' s->s.refsT c.H.length=true:=λt s hs=>by
    obtain⟨v,_,hv⟩:=hc.fr.slot t s hs;exact ko hc.sr hv
   obtain⟨la,ss,Φ,hstr,hp,hnew,hdd,hrun⟩:=VD hT hE (c:=c) (m+1) [] c.L c.H h0 (by rw[IT];rfl) (λj hj=>by cases hj) hlow qF
   obtain⟨G1,g1,g2,g3⟩:=yi (dn (mkL (aj (nth (ai F c.f) i)).size [])) (la:=la) (λx hx=>by
    obtain⟨⟨o,ho,_⟩,_⟩:=hp.la2 x hx;exact fK (by simp) (ao6.1 ho).1) hc.sr hc.fr
   have hst0:ct (dn (mkL (aj (nth (ai F c.f) i)).size [])) ss (c.H++alX (dn (mkL (aj (nth (ai F c.f) i)).size [])) la)=c.H++alX (dn (mkL (aj (nth (ai F c.f) i)).size [])) la:=qu λs hs=>by
    obtain⟨⟨o,ho,_⟩,_⟩:=hp.ss1 s hs;exact fK (by simp) (ao6.1 ho).1
   have hml:(c.H.map ddJ).length=c.H.length:=apW _;have hlen:(Φ c.H).length=c.H.length:=by rw[<-apW (f:=ddJ),hdd,hml]
   have hlowΦ:mN (Φ c.H).length (Φ c.H):=by rw[hlen];exact K0 (by rw[hdd];exact EZ (tc hc.sr))
   have hlate:∀(j:Nat) (oj:Oper),(aj (nth (ai F c.f) i))[j]?=S' oj->bz oj=T'->eE E (aj (nth (ai F c.f) i)) j=false:=λj oj hoj hal=>by
    unfold eE;rw[hoj];dsimp only;rw[hal];simp
   have hclΦ:c.fl<=(Φ c.H).length:=by rw[hlen];exact hc.fl
   refine TRunB.sound (T:=T) (Hf:=Φ c.H) (fl:=c.fl) (X:=λH G w=>FrsOk Z F H G w c.fl c.fs ats) hT hE hI (λn l L j oj hf hcl hj ho hoj hal=>?_) (λhlo=>by rw[hstr]at hlo;cases hlo) hp (λs hs=>by rw[hml];exact hnew s hs) (by rw[hml];exact EZ (tc hc.sr)) (by rw[hml];exact hc.fl) (λH G w H' G' w' hx hp=>hx.ev hp (aoU _)) (λn l L G w a ho hf hcl hsz hL k1 k2 k3=>?_) _ _ _ _ hrun c.H rfl rfl qF (by rw[ij]) (λt s hs=>.inl (by rw[hml];exact hlow t s hs)) G1 w a (by rw[hst0];exact g1) (by rw[hst0];exact g2) (by rw[hst0];exact hc.frs.ev (λs v h _=>g3 s v h) (aoU _))
   ·obtain⟨n',r',x,L',e1,e2,e3,e4,e5,e6,e7,e8⟩:=xm n l L j oj hf hj ho hoj hal;have hon:=Bg ho j (hlate j oj hoj hal);exact⟨n',r',x,L',e1,e2,e3,e4,e5,e6,(by rw[hml,<-hlen];exact e7),hon,e8.fin hon (hcl.set hj)⟩
   exact tail {c with H:=Φ c.H} i la ss ats fn n l L G w a hf hlowΦ hclΦ hns hcl hsz k1 k2 k3 hfn
  ·-- tal
   rename_i i D;clear h;simp only[iC];intro S0 hS0 hSt hclo hns m' hm'
   have hlow:∀t s,aK c.L t=S' s->s.refsT c.H.length=true:=λt s hs=>by
    obtain⟨v,_,hv⟩:=hc.fr.slot t s hs;exact ko hc.sr hv
   have hrun:=W4 hT hE (c:=c) (m+1) D c.L h0 (by omega);have e:m'=(aj (nth (ai F c.f) i)).size-D.length:=by omega
   subst e
   have key:∀S1:World->Prop,(∀w w',S1 w->Old w w'->S1 w')->S1 w->wpG P (aj (nth (ai F c.f) i)) (iy P fn (fb P F Rt c.fs ats) (ai F c.f) (ii P fn (fb P F Rt c.fs ats) (ai F c.f) c.K)) S1 ((aj (nth (ai F c.f) i)).size-D.length) (mkL (aj (nth (ai F c.f) i)).size D) a w:=λS1 hS1 hw1=>by
    refine TRun.sound (T:=T) (S0:=S1) (la:=[]) (ss:=[]) hS1 (λh=>(h rfl).elim) (fl:=c.fl) (X:=λH G w=>FrsOk Z F H G w c.fl c.fs ats) hT hE hI (aqP hns) (j8 _) (λ_ _ _ _ _ h=>h.elim) (λ_ _ _ _ _ _ h=>h.elim) (N:=ntm F c.f) ⟨List.Pairwise.nil,λa ha=>(by cases ha),λs hs=>(by cases hs),List.Pairwise.nil⟩ (λs hs=>by cases hs) (tc hc.sr) hc.fl (λH G w H' G' w' hx hp=>hx.ev hp (aoU _)) (λn l L G w a hf ho hcl hsz hL k1 k2 k3=>?_) _ _ _ hrun hclo (by rw[ij]) (λt s hs=>.inl (hlow t s hs)) G w a (by rw[show ct (dn (mkL (aj (nth (ai F c.f) i)).size D)) [] (c.H++alX (dn (mkL (aj (nth (ai F c.f) i)).size D)) [])=c.H from apj _];exact hc.sr) (by rw[show ct (dn (mkL (aj (nth (ai F c.f) i)).size D)) [] (c.H++alX (dn (mkL (aj (nth (ai F c.f) i)).size D)) [])=c.H from apj _];exact hc.fr) (by rw[show ct (dn (mkL (aj (nth (ai F c.f) i)).size D)) [] (c.H++alX (dn (mkL (aj (nth (ai F c.f) i)).size D)) [])=c.H from apj _];exact hc.frs) hw1;rcases hf with h|⟨⟨q,hq,hgo⟩,hrd⟩
    ·exact h.elim
    ·rw[show ct (dn l) [] (c.H++alX (dn l) [])=c.H from apj _]at k1 k2 k3;exact ui hrd (ihs q (by omega) _ _ hgo G w a ats fn ⟨k1,k2,hc.fl,k3⟩ hfn) _
   rcases hSt with h|h
   ·exact OS _ _ _ _ h (key (λ_=>True) (λ_ _ _ _=>trivial) trivial)
   ·exact key S0 hS0 h
  ·-- cal
   rename_i i D;simp only[iC];intro hclo hns m' hm';split at h
   ·exact ih _ _ h G w a ats fn hc hfn (λ_=>True) (λ_ _ _ _=>trivial) (.inr trivial) hclo hns m' hm'
   split at h
   ·rename_i hrd;exact ui hrd (ih _ _ h G w a ats fn hc hfn) _
   ·rename_i rs hrd;split at h<;>try (cases h;done)
    rename_i hlen;have hlen:=aoV hlen;obtain⟨m'',rfl⟩:∃m'',m'=m''+1:=⟨m'-1,by omega⟩
    have hsst:∀l w,Sst (aj (nth (ai F c.f) i)) (λ_=>True) l w:=λ_ _=>.inr trivial;split at h
    ·rename_i j hj;obtain⟨j1,o,j2,j3,j4,j5,j6⟩:=xO hj;rw[j2]at h;dsimp only at h;have hns1:dO o.op=false:=CO j3;have hclo':Clo (aj (nth (ai F c.f) i)) (mkL (aj (nth (ai F c.f) i)).size (j::D)):=hclo.set j1;rcases d8 hc.fr h with⟨L1,h1,hf1,hw⟩|⟨L1,h1,hf1,hw⟩
     ·obtain⟨s,v,h2,h3,h4⟩:=iE hT hc.sr hf1 h1;split at h2<;>try (cases h2;done)
      rename_i L2 hp;have hy:YieldsIf P (aj (nth (ai F c.f) i)) (λ_=>True) o v a:=.inl ⟨hw,λw' _=>h4 w' λhl=>by have:=(j4 hl).1;cases this⟩;exact sI j2 (aqP hns) (λcc a w hq=>j8 _ cc a _ _ w hq) hns1 m'' _ a w (ap5 j2 j6) j1 hy (hsst _ _) (ih _ _ h2 G w (a.put o.dst v) ats fn ⟨hc.sr,hf1.put hp h3,hc.fl,hc.frs⟩ hfn hclo' hns m'' (by simp;omega))
     ·split at h1<;>try (cases h1;done)
      rename_i L2 hp;have hy:YieldsIf P (aj (nth (ai F c.f) i)) (λ_=>True) o undef a:=.inr ⟨hw,rfl⟩;exact sI j2 (aqP hns) (λcc a w hq=>j8 _ cc a _ _ w hq) hns1 m'' _ a w (ap5 j2 j6) j1 hy (hsst _ _) (ih _ _ h1 G w (a.put o.dst undef) ats fn ⟨hc.sr,hf1.put hp rfl,hc.fl,hc.frs⟩ hfn hclo' hns m'' (by simp;omega))
    ·split at h
     ·rename_i j hcw;have hrd1:=NX hcw;have hjr:j∈Region.ready .any (aj (nth (ai F c.f) i)) (mkL (aj (nth (ai F c.f) i)).size D):=by rw[hrd1];simp
      split at h<;>try (cases h;done)
      rename_i o ho1;refine qp hrd1 (by simp) λk hk=>?_;have hk:k=j:=by simpa using hk
      subst hk;unfold wpOp;simp only[ho1];rcases d8 hc.fr h with⟨L1,h1,hf1,hw⟩|⟨L1,h1,hf1,hw⟩
      ·rw[apB hw];refine .inl ?_;unfold Oper.wp;split at h1<;>try (cases h1;done)
       rename_i g ss hin;obtain⟨f,args,tys,fg,caps,e1,e2,e3,e4,e5,e6,e7⟩:=CA hf1 hin;have hcl2:cQ P g=true:=by unfold cQ;rw[hF g fg e2];simp only[e6,e7,apV]
       rw[jp hcl2 a.eval o f args tys caps e1 e3 w];obtain⟨B,hB⟩:=apD.1 e7;have hbf:ai F g=B:=by simp[ai,e2,hB]
       have hcal:Calls P g (args.map a.eval++caps) w (fb P F Rt ({f:=c.f,K:=c.K,i:=i,k:=k,L:=xI N c.f i L1,fl:=c.fl,d:=S' (k::D)}::c.fs) (a::ats)):=by
        have hto:args.map a.eval++caps=(args.map a.eval++caps).toList.toArray:=by simp
        rw[hto];refine enter (hF g fg e2) hB (apf (by rw[<-dw e4];exact e5)) λa2 hst=>?_
        have:=ih _ _ h1 G w a2 (a::ats) fg ⟨hc.sr,⟨hst.defers,by rw[hst.size];simp[ntm,e2],kq e4 hst.slot⟩,aoU _,⟨⟨hf1.defers,hf1.size,λt s hs=>hf1.slot t s (gE hs)⟩,λt s hs=>by obtain⟨v,_,hv⟩:=hf1.slot t s (gE hs);exact ko hc.sr hv,⟨hc.fl,⟨fn,hfn⟩,λD hD=>by
         injection hD with hD;subst hD;exact⟨hclo.set hjr,hns,by simpa using hlen⟩⟩,hc.frs⟩⟩ e2
        simp only[iC,ii]at this;rw[hbf]at this;exact this
       refine asd hcal ?_;rintro e w' ⟨v,rfl,fn',o',q1,q2,_,q3⟩
       have q3:=q3 _ rfl;simp only at q1 q2 q3;rw[hfn]at q1;injection q1 with q1;subst q1;rw[ho1]at q2;injection q2 with q2;subst q2;refine⟨.inr trivial,?_⟩;rw[show m''=(aj (nth (ai F c.f) i)).size-(k::D).length by simp;omega];exact q3
      ·rw[aph (by rw[hw];simp)];split at h1<;>try (cases h1;done)
       rename_i L2 hp2;exact⟨.inr trivial,ih _ _ h1 G w (a.put o.dst undef) ats fn ⟨hc.sr,hf1.put hp2 rfl,hc.fl,hc.frs⟩ hfn (hclo.set hjr) hns m'' (by simp;omega)⟩
     ·refine qp (rs:=Region.ready .any (aj (nth (ai F c.f) i)) (mkL (aj (nth (ai F c.f) i)).size D)) rfl (by assumption) λk hk=>?_;have h:=u7 h k hk;split at h<;>try (cases h;done)
      rename_i o j2;have hclo':Clo (aj (nth (ai F c.f) i)) (mkL (aj (nth (ai F c.f) i)).size (k::D)):=hclo.set hk;unfold wpOp;simp only[j2];rcases d8 hc.fr h with⟨L1,h1,hf1,hw⟩|⟨L1,h1,hf1,hw⟩
      ·rw[apB hw];refine .inl ?_;unfold Oper.wp;split at h1
       ·obtain⟨s,v,h2,h3,h4⟩:=iE hT hc.sr hf1 h1;split at h2<;>try (cases h2;done)
        rename_i L2 hp;rw[h4 w (λ_=>Agr.refl)];exact⟨.inr trivial,ih _ _ h2 G w (a.put o.dst v) ats fn ⟨hc.sr,hf1.put hp h3,hc.fl,hc.frs⟩ hfn hclo' hns m'' (by simp;omega)⟩
       ·refine qx hT hE hI hc.sr hf1 h1 λs H' L2 G' w' v h2 h3 h4 h5 h6=>?_;split at h2<;>try (cases h2;done)
        rename_i L3 hp;have hcr:CR Z F w0 {c with L:=L3,H:=H'} G' w' (a.put o.dst v) ats:=⟨h3,h4.put hp h5,ao1 hc.fl h6.len,hc.frs.evF h6.pres (aoU _)⟩
        exact⟨.inr trivial,ih _ _ h2 G' w' (a.put o.dst v) ats fn hcr hfn hclo' hns m'' (by simp;omega)⟩
      ·rw[aph (by rw[hw];simp)];split at h1<;>try (cases h1;done)
       rename_i L2 hp;exact⟨.inr trivial,ih _ _ h1 G w (a.put o.dst undef) ats fn ⟨hc.sr,hf1.put hp rfl,hc.fl,hc.frs⟩ hfn hclo' hns m'' (by simp;omega)⟩
  ·-- ret
   simp only[iC];rw[hfn]at h;dsimp only at h;split at h<;>try (cases h;done)
   rename_i ss hss;split at h
   ·rename_i hfs;rw[hfs]
    have hats:ats=[]:=by
     have:=hc.frs;rw[hfs]at this;cases ats with
     |nil=>rfl
     |cons=>exact this.elim
    subst hats;exact OD hT hc.sr hc.fr hss λvs hvs=>hRt vs _ _ _ _ _ h hc.sr hvs
   ·rename_i g K2 i2 q2 L3 fl2 d2 fs hfs;split at h<;>try (cases h;done)
    rename_i o ho;split at h<;>try (cases h;done)
    rename_i L2 hp hgood;have hfrs:=hc.frs;rw[hfs]at hfrs ⊢;match ats,hfrs with
    |a0::ats,⟨k1,k2,k3,k4⟩=>
     obtain⟨k3,⟨fn',hfn'⟩,k5⟩:=k3;refine OD hT hc.sr hc.fr hss λvs hvs=>⟨_,rfl,fn',o,hfn',ho,?_⟩
     have hb:=TJ (λs hs l e=>by subst e;have:=apa.1 hgood _ hs;simp[SV.good]at this) hvs;split at h
     ·exact⟨λ_=>ih _ _ h G w (a0.put o.dst _) ats fn' ⟨hc.sr,k1.put hp hb,ao1 k3 hc.fl,k4⟩ hfn',λD hD=>by cases hD⟩
     ·rename_i D;refine⟨λhD=>(by cases hD),λD' hD=>?_⟩;injection hD with hD;subst hD;obtain⟨d1,d2,d3⟩:=k5 D rfl;split at h
      ·exact ih _ _ h G w (a0.put o.dst _) ats fn' ⟨hc.sr,k1.put hp hb,ao1 k3 hc.fl,k4⟩ hfn' (λ_=>True) (λ_ _ _ _=>trivial) (.inr trivial) d1 d2 _ (Nat.sub_add_cancel d3)
      ·exact ih _ _ h G w (a0.put o.dst _) ats fn' ⟨hc.sr,k1.put hp hb,ao1 k3 hc.fl,k4⟩ hfn' d1 d2 _ (Nat.sub_add_cancel d3)
end
end
structure Ctx where
 P:Program
 F:FT
 T:TT
 E:Env
 N:NT
structure Ctx.Ok (C:Ctx):Prop where
 T:eO C.P C.T=T'
 E:kY C.P C.E
 F:∀f fn,fT C.F f=S' fn->C.P.funcs[f]?=S' fn
 m:C.P.follows .mixedOrders=T'
def Ctx.k(C:Ctx)(n:Nat):Nat->Cfg->Option (List RV):=run C.P C.F C.T C.E C.N n
def Ctx.Runs(C:Ctx)(i:Nat)(c:Cfg)(r:List RV):Prop:=∃n,C.k n i c=S' r
def Ctx.RunsE(C:Ctx)(i:Nat)(c:Cfg)(r:List RV):Prop:=∃n0,∀n,n0<=n->C.k n i c=S' r
def Ctx.go(C:Ctx)(n:Nat)(c:Cfg)(p:Pos):Option (List RV):=Proofs.YtoimchcjhdcdmaaGreat.go C.P C.F C.T C.E C.N (C.k n) 4000 c p
def Ctx.Res(C:Ctx)(f:Nat)(args:List SV)(r:List RV):Prop:=∃n,C.go n (nh f args) (.node 0)=S' r
theorem Ctx.Runs.step{C:Ctx}{i:Nat}{c:Cfg}{r:List RV}(h:∃n,C.go n {c with K:=.lp i::c.K} (.node (i+1))=S' r):C.Runs i c r:=by
 obtain⟨n,h⟩:=h;exact⟨n+1,h⟩
def okF(fn:Func)(k:Nat):Bool:=fn.body.isSome&&Nat.ble k fn.ntmps
theorem AX{C:Ctx}(ok:C.Ok){Z:Nat->Prop}{w0:World}(hI:inv w0){Rt:Ending->World->Prop}{r:List RV}(hRt:∀vs H G w ss tys,Ah C.T H ss tys=S' r->SR Z w0 H G w->bJ (Rel G (Av Z H G) w) ss vs->Rt (.returned (kS vs)) w):
  ∀n i c G w a ats fn,run C.P C.F C.T C.E C.N n i c=S' r->CR Z C.F w0 c G w a ats->fT C.F c.f=S' fn->InLoop C.P (nth (ai C.F c.f) (i+1)) (iy C.P fn (fb C.P C.F Rt c.fs ats) (ai C.F c.f) (ii C.P fn (fb C.P C.F Rt c.fs ats) (ai C.F c.f) c.K)) a w:=by
 intro n;induction n with
 |zero=>intro i c G w a ats fn h;simp[run]at h
 |succ n ih=>
  intro i c G w a ats fn h hc hfn;have:=yw ok.T ok.E hI ok.F ok.m hRt (λi c G w a ats fn h1 h2 h3=>ih i c G w a ats fn h1 h2 h3) 4000 _ _ h G w a ats fn ⟨hc.sr,hc.fr,hc.fl,hc.frs⟩ hfn;exact InLoop.step this
theorem Ctx.Res.con{C:Ctx}(ok:C.Ok){f:Nat}{fn:Func}{args:List SV}{r:List RV}(h:C.Res f args r)(hfn:fT C.F f=S' fn)(hk:okF fn args.length=T'):Con C.P f args r:=by
 intro A w vs hI ha;obtain⟨n,h⟩:=h;simp only[okF,aoT]at hk;obtain⟨B,hB⟩:=apD.1 hk.1;have hbf:ai C.F f=B:=by simp[ai,hfn,hB]
 let Z:Nat->Prop:=λb=>A b\/w.heap.size<=b
 have hkp:Keeps A (Av Z [] []) w w:=⟨aoU _,λb _ hA=>⟨.inl hA,λj it g h=>by simp at h⟩,λ_ _ _=>rfl⟩
 have ha2:bJ (Rel [] (Av Z [] []) w) args vs:=a8 (λs v h=>dN (h.keep hkp λj g _ h=>h)) ha;refine enter (ok.F f fn hfn) hB (apf (by rw[<-dw ha];exact aoV hk.2)) λa hst=>?_;have hsr:SR Z w [] [] w:=⟨rfl,arl _ _,λj it g h=>by simp at h,λi j it jt g h b _ h1=>by simp at h1,λb hb=>.inr hb⟩
 let Rt:Ending->World->Prop:=λe w'=>∃v,e=.returned v/\Below w.heap.size w w'/\rn Z w.heap.size w' r v
 have hRt:∀vs H G w' ss tys,Ah C.T H ss tys=S' r->SR Z w H G w'->bJ (Rel G (Av Z H G) w') ss vs->Rt (.returned (kS vs)) w':=λvs H G w' ss tys h1 h2 h3=>⟨_,rfl,h2.below,Ob ok.T h2 h1 h3⟩
 have:=yw ok.T ok.E hI ok.F ok.m hRt (λi c G w a ats fn h1 h2 h3=>AX ok hI hRt n i c G w a ats fn h1 h2 h3) 4000 _ _ h [] w a [] fn ⟨hsr,⟨hst.defers,by rw[hst.size];simp[ntm,nh,hfn],kq ha2 hst.slot⟩,aoU _,trivial⟩ hfn;simp only[iC,nh]at this;rwa [hbf]at this
def uz(f p:Nat)(args:List SV):Cfg:=match args[p]? with
 |some (.d (.sl e) xs)=>{f:=f,K:=[],L:=qU 0 (args.set p (.own 0)),H:=[.len e xs],fl:=0,fs:=[]}
 |_=>nh f args
def Ctx.ResL(C:Ctx)(f p:Nat)(args:List SV)(r:List RV):Prop:=∃n,C.go n (uz f p args) (.node 0)=S' r
theorem zB{A:Nat->Prop}{w:World}:∀{p:Nat} {args:List SV} {vs:List Value},XJ A w p args vs->∃s g,args[p]?=S' s/\vs[p]?=S' g/\Kz A w s g/\∀R:SV->Value->Prop,(∀s v,Rel1 [] A w s v->R s v)->R (.own 0) g->bJ R (args.set p (.own 0)) vs
 |0,s::l,v::vs,⟨h1,h2⟩=>⟨s,v,rfl,rfl,h1,λR k1 k2=>⟨k2,a8 k1 h2⟩⟩
 |p+1,s::l,v::vs,⟨h1,h2⟩=>by
  obtain⟨s',g,g1,g2,g3,g4⟩:=zB h2;exact⟨s',g,g1,g2,g3,λR k1 k2=>⟨k1 _ _ h1,g4 R k1 k2⟩⟩
theorem Ctx.ResL.con{C:Ctx}(ok:C.Ok){f p:Nat}{fn:Func}{args:List SV}{r:List RV}(h:C.ResL f p args r)(hfn:fT C.F f=S' fn)(hk:okF fn args.length=T'):Iq C.P f p args r:=by
 intro A w vs hI ha;obtain⟨n,h⟩:=h;obtain⟨_,g,a1,a2,⟨e,xs,et,css,rfl,ho,hrd,hn,hA⟩,a4⟩:=zB ha;simp only[okF,aoT]at hk;obtain⟨B,hB⟩:=apD.1 hk.1;have hbf:ai C.F f=B:=by simp[ai,hfn,hB]
 have hs:uz f p args={f:=f,K:=[],L:=qU 0 (args.set p (.own 0)),H:=[.len e xs],fl:=0,fs:=[]}:=by simp only[uz,a1]
 let Z:Nat->Prop:=λb=>A b\/w.heap.size<=b
 have one:∀(j:Nat) (it:Item) (x:Value),[Item.len e xs][j]?=S' it->[g][j]?=S' x->j=0/\it=.len e xs/\x=g:=λj it x h1 h2=>by
  cases j with
  |zero=>simp at h1 h2;exact⟨rfl,h1.symm,h2.symm⟩
  |succ j=>simp at h1
 have hkp:Keeps A (Av Z [.len e xs] [g]) w w:=⟨aoU _,λb _ hb=>⟨.inl hb,λj it x h1 _ h3 h4=>by
  obtain⟨_,_,rfl⟩:=one j it x h1 h3;exact hA b h4 hb⟩,λ_ _ _=>rfl⟩
 have ha2:bJ (Rel [g] (Av Z [.len e xs] [g]) w) (args.set p (.own 0)) vs:=a4 _ (λs v h=>dN (h.keep hkp λj g _ h=>by simp at h)) (show [g][0]?=S' g from rfl);refine enter (ok.F f fn hfn) hB (apf (by rw[<-dw ha2,ap3];exact aoV hk.2)) λa hst=>?_
 have hsr:SR Z w [.len e xs] [g] w:=by
  refine⟨rfl,arl _ _,λj it x h1 h2=>?_,λi j it jt x y b hij h1 h2 _ _ h3 h4=>?_,λb hb=>.inr hb⟩
  ·obtain⟨_,rfl,rfl⟩:=one j it x h1 h2;exact⟨et,css,ho,a8 (λ_ _ h=>Ty.rd_keep hkp h) hrd,hn⟩
  ·exact absurd ((one i it x h1 h3).1.trans (one j jt y h2 h4).1.symm) hij
 let Rt:Ending->World->Prop:=λe w'=>∃v,e=.returned v/\Below w.heap.size w w'/\rn Z w.heap.size w' r v
 have hRt:∀vs H G w' ss tys,Ah C.T H ss tys=S' r->SR Z w H G w'->bJ (Rel G (Av Z H G) w') ss vs->Rt (.returned (kS vs)) w':=λvs H G w' ss tys h1 h2 h3=>⟨_,rfl,h2.below,Ob ok.T h2 h1 h3⟩
 rw[hs]at h;have:=yw ok.T ok.E hI ok.F ok.m hRt (λi c G w a ats fn h1 h2 h3=>AX ok hI hRt n i c G w a ats fn h1 h2 h3) 4000 _ _ h [g] w a [] fn ⟨hsr,⟨hst.defers,by rw[hst.size];simp[ntm,hfn],kq ha2 hst.slot⟩,arh _,trivial⟩ hfn;simp only[iC]at this;rwa [hbf]at this
def FtAll(P:Program):FT->Prop
 |[]=>True
 |p::l=>P.funcs[p.1]?=some p.2/\FtAll P l
theorem FtAll.look{P:Program}:∀{l:FT},FtAll P l->∀f fn,fT l f=S' fn->P.funcs[f]?=S' fn
 |[],_,f,fn,h=>by simp[fT]at h
 |(k,x)::l,⟨h1,h2⟩,f,fn,h=>by
  simp only[fT]at h;split at h
  ·rename_i hb;have:=aoS hb;subst this;injection h with h;subst h;exact h1
  ·exact FtAll.look h2 f fn h
abbrev KT:=Nat->Cfg->Option (List RV)
abbrev OLR:=Option (List RV)
@[reducible] def og(b:Bool)(r:OLR):OLR:=match b with
 |true=>r
 |false=>none
theorem ahJ(r:OLR):og T' r=r:=rfl
theorem amE{C:Ctx}{f:Nat}{args:List SV}{t:KT->OLR}{r:List RV}(e:∀k,go2 C.P C.F C.T C.E C.N k 4000 (nh f args) (.node 0)=t k)(h:∃n,t (C.k n)=S' r):C.Res f args r:=by
 obtain⟨n,h⟩:=h;exact⟨n,(n8 _ _ _ _ _ _ _ _ _).symm.trans ((e _).trans h)⟩
theorem ajx{C:Ctx}{f p:Nat}{args:List SV}{t:KT->OLR}{r:List RV}(e:∀k,go2 C.P C.F C.T C.E C.N k 4000 (uz f p args) (.node 0)=t k)(h:∃n,t (C.k n)=S' r):C.ResL f p args r:=by
 obtain⟨n,h⟩:=h;exact⟨n,(n8 _ _ _ _ _ _ _ _ _).symm.trans ((e _).trans h)⟩
theorem anU{C:Ctx}{i:Nat}{c:Cfg}{t:KT->OLR}{r:List RV}(e:∀k,go2 C.P C.F C.T C.E C.N k 4000 {c with K:=.lp i::c.K} (.node (i+1))=t k)(h:∃n,t (C.k n)=S' r):C.Runs i c r:=by
 obtain⟨n,h⟩:=h;exact⟨n+1,(n8 _ _ _ _ _ _ _ _ _).symm.trans ((e _).trans h)⟩
theorem amI{C:Ctx}{i:Nat}{c:Cfg}{t:KT->OLR}{r:List RV}(e:∀k,go2 C.P C.F C.T C.E C.N k 4000 {c with K:=.lp i::c.K} (.node (i+1))=t k)(h:∃n0,∀n,n0<=n->t (C.k n)=S' r):C.RunsE i c r:=by
 obtain⟨n0,h⟩:=h;refine⟨n0+1,λn hn=>?_⟩;obtain⟨q,rfl⟩:∃q,n=q+1:=⟨n-1,by omega⟩
 exact(n8 _ _ _ _ _ _ _ _ _).symm.trans ((e _).trans (h q (by omega)))
@[reducible] def DT:List Ty->Type
 |[]=>Unit
 |t::r=>t.D×DT r
def JR:(ts:List Ty)->List SV->Option (DT ts)
 |[],l=>match l with
  |[]=>some ()
  |_::_=>none
 |t::r,l=>match l with
  |.d u x::m=>match eU u t x with
   |some y=>match JR r m with
    |some z=>some (y,z)
    |none=>none
   |none=>none
  |_=>none
def svs:(ts:List Ty)->DT ts->List SV
 |[],_=>[]
 |t::r,x=>.d t x.1::svs r x.2
theorem yl:∀{ts:List Ty} {l:List SV} {x:DT ts},JR ts l=S' x->l=svs ts x
 |[],l,x,h=>by
  cases l with
  |nil=>rfl
  |cons a b=>cases h
 |t::r,l,x,h=>by
  unfold JR at h;split at h
  ·split at h
   ·rename_i e1;split at h
    ·rename_i e2;injection h with h;subst h;obtain⟨rfl,rfl⟩:=cZ e1;rw[yl e2];rfl
    ·cases h
   ·cases h
  ·cases h
def spN(keep tame:Bool)(ts:List Ty)(pre:DT ts->Bool)(res:DT ts->List RV):cE:={keep:=keep,tame:=tame,run:=λ_ args k=>match JR ts args with
 |some x=>match pre x with
  |true=>k (res x)
  |false=>none
 |none=>none}
theorem ad3{P:Program}{f:Nat}{keep tame:Bool}{ts:List Ty}{pre:DT ts->Bool}{res:DT ts->List RV}(hc:cQ P f=T')(h:∀x,pre x=T'->Con P f (svs ts x) (res x)):cQ P f=T'/\CK P f (spN keep tame ts pre res)/\(∀g,(spN keep tame ts pre res).mut_=S' g->M1 P f g)/\DQ P f (spN keep tame ts pre res):=by
 refine⟨hc,λR args k r e=>?_,(λg e=>by cases e),λp g e=>by cases e⟩;unfold spN at e;dsimp only at e;split at e
 ·rename_i x e1;split at e
  ·rename_i e2;rw[yl e1];exact⟨_,e,h x e2⟩
  ·cases e
 ·cases e
theorem an2{C:Ctx}(ok:C.Ok){f:Nat}{fn:Func}{args:List SV}{r r':List RV}{p:Prop}[Decidable p](e:∀k,go2 C.P C.F C.T C.E C.N k 4000 (nh f args) (.node 0)=match decide p with|T'=>S' r'|F'=>none)(hp:p)(hr:r'=r)(hfn:fT C.F f=S' fn)(hk:okF fn args.length=T'):Con C.P f args r:=by
 refine Ctx.Res.con ok (amE (t:=λ_=>match decide p with|T'=>S' r'|F'=>none) e ⟨0,?_⟩) hfn hk;rw[aoP hp,<-hr]
abbrev y0Y:Ty:=.st (.pair .str (.int .u64))
abbrev y1Y:Ty:=.st (.pair (.int .i8) (.int .i8))
abbrev y2Y:Ty:=.st (.pair (.int .i64) (.int .i64))
abbrev y3Y:Ty:=.st (.pair .bool (.sl (.int .u32)))
abbrev y4Y:Ty:=.st (.pair (.int .i16) (.pair (.int .i16) (.int .u8)))
abbrev y5Y:Ty:=.st (.pair (.int .i64) (.pair (.int .i64) (.pair .bool (.int .u8))))
abbrev y6Y:Ty:=.st (.pair (.int .i64) (.pair (.int .i64) (.pair (.int .i64) (.pair (.int .i64) .bool))))
abbrev y7Y:Ty:=.st (.pair (.int .i16) (.pair (.int .i16) (.pair (.int .i16) (.pair (.int .i16) (.pair (.int .u16) (.int .u8))))))
abbrev y8Y:Ty:=.st (.pair (.int .u8) (.pair (.int .u8) (.pair (.int .i8) (.pair (.int .i8) (.pair (.int .i8) (.pair (.int .i8) (.sl y1Y)))))))
abbrev y9Y:Ty:=.st (.pair (.st (.pair y3Y y3Y)) (.st (.pair y3Y y3Y)))
abbrev Gi:Ty:=.st (.pair (.st (.pair y3Y y3Y)) (.pair (.st (.pair y3Y y3Y)) (.st (.pair y3Y y3Y))))
abbrev Ws:Ty:=.st (.pair (.int .i64) Gi)
abbrev aij:Ty:=.st (.pair (.st (.pair y3Y y3Y)) (.pair (.st (.pair y3Y y3Y)) (.pair (.st (.pair y3Y y3Y)) (.st (.pair y3Y y3Y)))))
abbrev HA:Ty:=.st (.pair (.st (.pair y3Y y3Y)) (.pair (.st (.pair y3Y y3Y)) (.pair (.st (.pair y3Y y3Y)) (.pair (.st (.pair y3Y y3Y)) (.st (.pair y3Y y3Y))))))
abbrev Wl:Ty:=.st (.pair HA (.pair (.int .i64) .bool))
abbrev aj5:Ty:=.st (.pair (.st (.pair y3Y y3Y)) (.pair (.st (.pair y3Y y3Y)) (.pair (.st (.pair y3Y y3Y)) (.pair (.st (.pair y3Y y3Y)) (.pair (.st (.pair y3Y y3Y)) (.st (.pair y3Y y3Y)))))))
abbrev PU:Ty:=.st (.pair .bool (.pair Gi (.pair Gi (.pair .bool (.pair HA HA)))))
abbrev asj:Ty:=.sl (.int .u32)
abbrev ask:Ty:=.int .i64
abbrev asl:Ty:=.int .u32
def tN(n:Nat)(t:Ty):Nat×TI:=(n,⟨t,[],0,0,0,T'⟩)
def tU(n:Nat):Nat×TI:=(n,⟨.int .i64,[],0,0,0,F'⟩)
def tS(n:Nat)(t:Ty)(l:List (Nat×Nat)):Nat×TI:=(n,⟨t,l,0,0,0,T'⟩)
def tA(n:Nat)(t:Ty)(e l:Nat):Nat×TI:=(n,⟨t,[],e,l,0,T'⟩)
def tLs(n:Nat)(t:Ty)(e b:Nat):Nat×TI:=(n,⟨t,[],e,0,b,T'⟩)
def tys:TT:=[tU 1,
 tN 2 ask,
 tN 3 ask,
 tN 4 .bool,
 tN 5 (.int .u8),
 tN 6 (.int .u8),
 tS 7 y5Y [(0,1),(1,1),(2,1),(3,1)],
 tS 8 y5Y [(0,1),(1,1),(2,1),(3,1)],
 tN 9 .str,
 tN 10 .str,
 tN 11 .str,
 tN 12 (.int .u64),
 tS 13 y0Y [(0,1),(1,1)],
 tS 14 y0Y [(0,1),(1,1)],
 tU 15,
 tU 16,
 tU 17,
 tN 21 (.int .i32),
 tLs 22 (.sl y8Y) 110 32,
 tLs 23 (.sl y8Y) 110 32,
 tN 24 (.int .i16),
 tN 25 (.int .u16),
 tS 26 y7Y [(0,1),(1,1),(2,1),(3,1),(4,1),(5,1)],
 tS 27 y7Y [(0,1),(1,1),(2,1),(3,1),(4,1),(5,1)],
 tLs 28 (.sl PU) 48 1040,
 tS 29 (.st (.sl PU)) [(0,1)],
 tS 30 (.st (.sl PU)) [(0,1)],
 tU 32,
 tU 33,
 tLs 34 asj 194 4,
 tS 35 y3Y [(0,1),(1,1)],
 tS 36 y3Y [(0,1),(1,1)],
 tS 37 (.st (.pair y3Y y3Y)) [(0,2),(2,2)],
 tS 38 (.st (.pair y3Y y3Y)) [(0,2),(2,2)],
 tS 39 HA [(0,4),(4,4),(8,4),(12,4),(16,4)],
 tS 40 HA [(0,4),(4,4),(8,4),(12,4),(16,4)],
 tU 41,
 tLs 42 (.sl HA) 40 320,
 tS 43 Gi [(0,4),(4,4),(8,4)],
 tS 44 Gi [(0,4),(4,4),(8,4)],
 tS 45 Gi [(0,4),(4,4),(8,4)],
 tS 46 Gi [(0,4),(4,4),(8,4)],
 tS 47 PU [(0,1),(1,12),(13,12),(25,1),(26,20),(46,20)],
 tS 48 PU [(0,1),(1,12),(13,12),(25,1),(26,20),(46,20)],
 tU 49,
 tU 50,
 tS 51 y4Y [(0,1),(1,1),(2,1)],
 tS 52 y4Y [(0,1),(1,1),(2,1)],
 tS 53 y9Y [(0,4),(4,4)],
 tS 54 y9Y [(0,4),(4,4)],
 tU 55,
 tN 56 ask,
 tU 58,
 tS 59 aij [(0,4),(4,4),(8,4),(12,4)],
 tS 60 aij [(0,4),(4,4),(8,4),(12,4)],
 tU 61,
 tU 62,
 tU 63,
 tU 64,
 tU 65,
 tU 66,
 tU 67,
 tU 68,
 tU 69,
 tU 70,
 tU 71,
 tU 72,
 tU 73,
 tU 75,
 tU 76,
 tU 77,
 tU 78,
 tU 79,
 tU 80,
 tU 81,
 tS 82 Gi [(0,4),(4,4),(8,4)],
 tU 84,
 tU 85,
 tU 87,
 tU 88,
 tU 90,
 tU 92,
 tU 93,
 tU 94,
 tU 95,
 tU 96,
 tU 97,
 tU 98,
 tU 99,
 tU 100,
 tU 101,
 tU 102,
 tU 103,
 tU 104,
 tU 105,
 tU 106,
 tN 107 (.int .i8),
 tLs 108 (.sl y1Y) 160 2,
 tS 109 y8Y [(0,1),(1,1),(2,1),(3,1),(4,1),(5,1),(6,1)],
 tS 110 y8Y [(0,1),(1,1),(2,1),(3,1),(4,1),(5,1),(6,1)],
 tU 111,
 tU 112,
 tU 113,
 tU 114,
 tU 115,
 tU 116,
 tLs 117 (.sl (.sl Wl)) 119 24,
 tU 118,
 tLs 119 (.sl Wl) 168 336,
 tU 120,
 tLs 121 (.sl y9Y) 54 128,
 tU 123,
 tU 125,
 tU 127,
 tU 128,
 tU 130,
 tU 131,
 tU 132,
 tU 133,
 tU 134,
 tU 135,
 tU 136,
 tU 137,
 tU 138,
 tU 139,
 tU 140,
 tS 141 aj5 [(0,4),(4,4),(8,4),(12,4),(16,4),(20,4)],
 tS 142 aj5 [(0,4),(4,4),(8,4),(12,4),(16,4),(20,4)],
 tU 143,
 tU 144,
 tU 145,
 tU 147,
 tU 148,
 tU 149,
 tU 150,
 tU 151,
 tU 152,
 tU 154,
 tU 155,
 tU 156,
 tU 157,
 tU 158,
 tU 159,
 tA 160 y1Y 1 2,
 tU 161,
 tU 162,
 tU 163,
 tN 164 (.int .u64),
 tU 165,
 tU 166,
 tS 167 Wl [(0,20),(20,1),(21,1)],
 tS 168 Wl [(0,20),(20,1),(21,1)],
 tU 170,
 tU 172,
 tU 173,
 tU 174,
 tU 175,
 tU 176,
 tU 177,
 tU 179,
 tU 180,
 tU 182,
 tU 183,
 tU 184,
 tU 185,
 tU 186,
 tU 187,
 tU 188,
 tU 189,
 tU 190,
 tU 191,
 tU 192,
 tU 193,
 tN 194 asl,
 tU 195,
 tU 197,
 tU 198,
 tU 199,
 tU 200,
 tU 201,
 tU 202,
 tU 203,
 tLs 204 (.sl (.st (.pair y3Y y3Y))) 38 64,
 tU 205,
 tU 206,
 tU 207,
 tLs 208 (.sl ask) 3 8,
 tLs 209 (.sl .bool) 4 1,
 tLs 210 (.sl y6Y) 212 40,
 tS 211 y6Y [(0,1),(1,1),(2,1),(3,1),(4,1)],
 tS 212 y6Y [(0,1),(1,1),(2,1),(3,1),(4,1)],
 tU 213,
 tLs 214 (.sl (.sl HA)) 42 24,
 tU 215,
 tU 216,
 tU 217,
 tU 218,
 tU 219,
 tU 220,
 tU 221,
 tU 222,
 tU 224,
 tU 225,
 tS 226 y2Y [(0,1),(1,1)],
 tS 227 y2Y [(0,1),(1,1)],
 tU 229,
 tU 230,
 tU 231,
 tU 232,
 tU 233,
 tU 234,
 tU 235,
 tU 236,
 tU 237,
 tU 238,
 tU 239,
 tU 241,
 tU 242,
 tU 243,
 tU 244,
 tS 245 Ws [(0,1),(1,12)],
 tS 246 Ws [(0,1),(1,12)],
 tU 247,
 tU 248,
 tU 249,
 tU 250,
 tU 251,
 tN 252 (.int .u64),
 tU 253,
 tU 254,
 tU 255,
 tU 257,
 tU 258,
 tU 259,
 tU 260,
 tU 261,
 tU 262,
 tU 263,
 tS 264 (.st .bool) [(0,1)],
 tS 265 (.st .bool) [(0,1)],
 tU 266,
 tU 268,
 tU 269,
 tU 270,
 tLs 271 (.sl ask) 2 8,
 tU 273,
 tU 274,
 tU 275,
 tU 276,
 tU 277,
 tU 278,
 tU 279,
 tU 280,
 tU 281,
 tU 282,
 tU 283,
 tU 284,
 tU 285,
 tU 286,
 tU 287,
 tS 288 Ws [(0,1),(1,12)],
 tS 289 Ws [(0,1),(1,12)],
 tU 290,
 tN 291 ask,
 tU 293,
 tU 294,
 tU 295,
 tU 296,
 tU 297,
 tU 298,
 tU 299,
 tU 300,
 tU 301,
 tU 302,
 tU 303,
 tU 304,
 tU 305,
 tU 306,
 tU 308,
 tU 309,
 tU 310,
 tU 311,
 tU 312,
 tN 313 (.int .u64),
 tU 314,
 tU 315,
 tU 316,
 tU 317,
 tU 318,
 tU 319,
 tU 321,
 tU 322,
 tU 328,
 tN 329 (.int .u8),
 tN 330 (.int .u8),
 tU 331,
 tU 332,
 tN 333 (.int .i32),
 tN 334 (.int .i32)]
theorem agH:eO Tryz.prog tys=true:=by kernel_rfl
theorem T2:Tryz.prog.follows .mixedOrders=true:=by kernel_rfl
set_option maxRecDepth 100000 in
noncomputable def ft:FT:=[(2,Tryz.f2),(3,Tryz.f3),(4,Tryz.f4),(5,Tryz.f5),(6,Tryz.f6),(7,Tryz.f7),(8,Tryz.f8),(9,Tryz.f9),(10,Tryz.f10),(11,Tryz.f11),(12,Tryz.f12),(13,Tryz.f13),(14,Tryz.f14),(15,Tryz.f15),(16,Tryz.f16),(17,Tryz.f17),(18,Tryz.f18),(19,Tryz.f19),(20,Tryz.f20),(21,Tryz.f21),(22,Tryz.f22),(23,Tryz.f23),(24,Tryz.f24),(25,Tryz.f25),(26,Tryz.f26),(27,Tryz.f27),(28,Tryz.f28),(29,Tryz.f29),(30,Tryz.f30),(31,Tryz.f31),(32,Tryz.f32),(33,Tryz.f33),(34,Tryz.f34),(35,Tryz.f35),(36,Tryz.f36),(37,Tryz.f37),(38,Tryz.f38),(39,Tryz.f39),(40,Tryz.f40),(41,Tryz.f41),(42,Tryz.f42),(43,Tryz.f43),(44,Tryz.f44),(45,Tryz.f45),(46,Tryz.f46),(47,Tryz.f47),(48,Tryz.f48),(49,Tryz.f49),(50,Tryz.f50),(51,Tryz.f51),(52,Tryz.f52),(53,Tryz.f53),(54,Tryz.f54),(55,Tryz.f55),(56,Tryz.f56),(57,Tryz.f57),(58,Tryz.f58),(59,Tryz.f59),(60,Tryz.f60),(61,Tryz.f61),(62,Tryz.f62),(63,Tryz.f63),(64,Tryz.f64),(65,Tryz.f65),(66,Tryz.f66),(67,Tryz.f67),(68,Tryz.f68),(69,Tryz.f69),(70,Tryz.f70),(71,Tryz.f71),(72,Tryz.f72),(73,Tryz.f73),(74,Tryz.f74),(75,Tryz.f75),(76,Tryz.f76),(77,Tryz.f77),(78,Tryz.f78),(79,Tryz.f79),(80,Tryz.f80),(81,Tryz.f81),(82,Tryz.f82),(83,Tryz.f83),(84,Tryz.f84),(85,Tryz.f85),(86,Tryz.f86),(87,Tryz.f87),(88,Tryz.f88),(89,Tryz.f89),(90,Tryz.f90),(91,Tryz.f91),(92,Tryz.f92),(93,Tryz.f93),(94,Tryz.f94),(95,Tryz.f95),(96,Tryz.f96),(97,Tryz.f97),(98,Tryz.f98),(99,Tryz.f99),(100,Tryz.f100),(101,Tryz.f101),(102,Tryz.f102),(103,Tryz.f103),(104,Tryz.f104),(105,Tryz.f105),(106,Tryz.f106),(107,Tryz.f107),(108,Tryz.f108),(109,Tryz.f109),(110,Tryz.f110),(111,Tryz.f111),(112,Tryz.f112),(113,Tryz.f113),(114,Tryz.f114),(115,Tryz.f115),(116,Tryz.f116),(117,Tryz.f117),(118,Tryz.f118),(119,Tryz.f119),(120,Tryz.f120),(121,Tryz.f121),(122,Tryz.f122),(123,Tryz.f123),(124,Tryz.f124),(125,Tryz.f125),(126,Tryz.f126),(127,Tryz.f127),(128,Tryz.f128),(129,Tryz.f129),(130,Tryz.f130),(131,Tryz.f131),(132,Tryz.f132),(133,Tryz.f133),(134,Tryz.f134),(135,Tryz.f135),(136,Tryz.f136),(137,Tryz.f137),(138,Tryz.f138),(139,Tryz.f139),(140,Tryz.f140),(141,Tryz.f141),(142,Tryz.f142),(143,Tryz.f143),(144,Tryz.f144),(145,Tryz.f145),(146,Tryz.f146),(147,Tryz.f147),(148,Tryz.f148),(149,Tryz.f149),(150,Tryz.f150),(151,Tryz.f151),(152,Tryz.f152),(153,Tryz.f153),(154,Tryz.f154),(155,Tryz.f155),(156,Tryz.f156),(157,Tryz.f157),(158,Tryz.f158),(159,Tryz.f159),(160,Tryz.f160),(161,Tryz.f161),(162,Tryz.f162),(163,Tryz.f163),(164,Tryz.f164),(165,Tryz.f165),(166,Tryz.f166),(167,Tryz.f167),(168,Tryz.f168),(169,Tryz.f169),(170,Tryz.f170),(171,Tryz.f171),(172,Tryz.f172),(173,Tryz.f173),(174,Tryz.f174),(175,Tryz.f175),(176,Tryz.f176),(177,Tryz.f177),(178,Tryz.f178),(179,Tryz.f179),(180,Tryz.f180),(181,Tryz.f181),(182,Tryz.f182),(183,Tryz.f183),(184,Tryz.f184),(185,Tryz.f185),(186,Tryz.f186),(187,Tryz.f187),(188,Tryz.f188),(189,Tryz.f189),(190,Tryz.f190),(191,Tryz.f191),(192,Tryz.f192),(193,Tryz.f193),(194,Tryz.f194),(195,Tryz.f195),(196,Tryz.f196),(197,Tryz.f197),(198,Tryz.f198),(199,Tryz.f199),(200,Tryz.f200),(201,Tryz.f201),(202,Tryz.f202),(203,Tryz.f203),(204,Tryz.f204),(205,Tryz.f205),(206,Tryz.f206),(207,Tryz.f207),(208,Tryz.f208),(209,Tryz.f209),(210,Tryz.f210),(211,Tryz.f211),(212,Tryz.f212),(213,Tryz.f213),(214,Tryz.f214),(215,Tryz.f215),(216,Tryz.f216),(217,Tryz.f217),(218,Tryz.f218),(219,Tryz.f219),(220,Tryz.f220),(221,Tryz.f221),(222,Tryz.f222),(223,Tryz.f223),(224,Tryz.f224),(225,Tryz.f225),(226,Tryz.f226),(227,Tryz.f227),(228,Tryz.f228),(229,Tryz.f229),(230,Tryz.f230),(231,Tryz.f231),(232,Tryz.f232),(233,Tryz.f233),(234,Tryz.f234),(235,Tryz.f235),(236,Tryz.f236),(237,Tryz.f237),(238,Tryz.f238),(239,Tryz.f239),(240,Tryz.f240),(241,Tryz.f241),(242,Tryz.f242),(243,Tryz.f243),(244,Tryz.f244),(245,Tryz.f245),(246,Tryz.f246),(247,Tryz.f247),(248,Tryz.f248),(249,Tryz.f249),(250,Tryz.f250),(251,Tryz.f251),(252,Tryz.f252),(253,Tryz.f253),(254,Tryz.f254),(255,Tryz.f255),(256,Tryz.f256),(257,Tryz.f257),(258,Tryz.f258),(259,Tryz.f259),(260,Tryz.f260),(261,Tryz.f261),(262,Tryz.f262),(263,Tryz.f263),(264,Tryz.f264),(265,Tryz.f265),(266,Tryz.f266),(267,Tryz.f267),(268,Tryz.f268),(269,Tryz.f269),(270,Tryz.f270),(271,Tryz.f271),(272,Tryz.f272),(273,Tryz.f273),(274,Tryz.f274),(275,Tryz.f275),(276,Tryz.f276),(277,Tryz.f277),(278,Tryz.f278),(279,Tryz.f279),(280,Tryz.f280),(281,Tryz.f281),(282,Tryz.f282),(283,Tryz.f283),(284,Tryz.f284),(285,Tryz.f285),(286,Tryz.f286),(287,Tryz.f287),(288,Tryz.f288),(289,Tryz.f289),(290,Tryz.f290),(291,Tryz.f291),(292,Tryz.f292),(293,Tryz.f293),(294,Tryz.f294),(295,Tryz.f295),(296,Tryz.f296),(297,Tryz.f297),(298,Tryz.f298),(299,Tryz.f299),(300,Tryz.f300),(301,Tryz.f301),(302,Tryz.f302),(303,Tryz.f303),(304,Tryz.f304),(305,Tryz.f305),(306,Tryz.f306),(307,Tryz.f307),(308,Tryz.f308),(309,Tryz.f309),(310,Tryz.f310),(311,Tryz.f311),(312,Tryz.f312),(313,Tryz.f313),(314,Tryz.f314),(315,Tryz.f315),(316,Tryz.f316),(317,Tryz.f317),(318,Tryz.f318),(319,Tryz.f319),(320,Tryz.f320),(321,Tryz.f321),(322,Tryz.f322),(323,Tryz.f323),(324,Tryz.f324),(325,Tryz.f325),(326,Tryz.f326),(327,Tryz.f327),(328,Tryz.f328),(329,Tryz.f329),(330,Tryz.f330),(331,Tryz.f331),(332,Tryz.f332),(333,Tryz.f333),(334,Tryz.f334),(335,Tryz.f335),(336,Tryz.f336),(337,Tryz.f337),(338,Tryz.f338),(339,Tryz.f339),(340,Tryz.f340),(341,Tryz.f341),(342,Tryz.f342),(343,Tryz.f343),(344,Tryz.f344),(345,Tryz.f345),(346,Tryz.f346),(347,Tryz.f347),(348,Tryz.f348),(349,Tryz.f349),(350,Tryz.f350),(351,Tryz.f351),(352,Tryz.f352),(353,Tryz.f353),(354,Tryz.f354),(355,Tryz.f355),(356,Tryz.f356),(357,Tryz.f357),(358,Tryz.f358),(359,Tryz.f359),(360,Tryz.f360),(361,Tryz.f361),(362,Tryz.f362),(363,Tryz.f363),(364,Tryz.f364),(365,Tryz.f365),(366,Tryz.f366),(367,Tryz.f367),(368,Tryz.f368),(369,Tryz.f369),(370,Tryz.f370),(371,Tryz.f371),(372,Tryz.f372),(373,Tryz.f373),(374,Tryz.f374),(375,Tryz.f375),(376,Tryz.f376),(377,Tryz.f377),(378,Tryz.f378),(379,Tryz.f379),(380,Tryz.f380),(381,Tryz.f381),(382,Tryz.f382),(383,Tryz.f383),(384,Tryz.f384),(385,Tryz.f385),(386,Tryz.f386),(387,Tryz.f387),(388,Tryz.f388),(389,Tryz.f389),(390,Tryz.f390),(391,Tryz.f391),(392,Tryz.f392),(393,Tryz.f393)]
set_option maxRecDepth 100000 in
theorem ak1:FtAll Tryz.prog ft:=⟨Tryz.func2,Tryz.func3,Tryz.func4,Tryz.func5,Tryz.func6,Tryz.func7,Tryz.func8,Tryz.func9,Tryz.func10,Tryz.func11,Tryz.func12,Tryz.func13,Tryz.func14,Tryz.func15,Tryz.func16,Tryz.func17,Tryz.func18,Tryz.func19,Tryz.func20,Tryz.func21,Tryz.func22,Tryz.func23,Tryz.func24,Tryz.func25,Tryz.func26,Tryz.func27,Tryz.func28,Tryz.func29,Tryz.func30,Tryz.func31,Tryz.func32,Tryz.func33,Tryz.func34,Tryz.func35,Tryz.func36,Tryz.func37,Tryz.func38,Tryz.func39,Tryz.func40,Tryz.func41,Tryz.func42,Tryz.func43,Tryz.func44,Tryz.func45,Tryz.func46,Tryz.func47,Tryz.func48,Tryz.func49,Tryz.func50,Tryz.func51,Tryz.func52,Tryz.func53,Tryz.func54,Tryz.func55,Tryz.func56,Tryz.func57,Tryz.func58,Tryz.func59,Tryz.func60,Tryz.func61,Tryz.func62,Tryz.func63,Tryz.func64,Tryz.func65,Tryz.func66,Tryz.func67,Tryz.func68,Tryz.func69,Tryz.func70,Tryz.func71,Tryz.func72,Tryz.func73,Tryz.func74,Tryz.func75,Tryz.func76,Tryz.func77,Tryz.func78,Tryz.func79,Tryz.func80,Tryz.func81,Tryz.func82,Tryz.func83,Tryz.func84,Tryz.func85,Tryz.func86,Tryz.func87,Tryz.func88,Tryz.func89,Tryz.func90,Tryz.func91,Tryz.func92,Tryz.func93,Tryz.func94,Tryz.func95,Tryz.func96,Tryz.func97,Tryz.func98,Tryz.func99,Tryz.func100,Tryz.func101,Tryz.func102,Tryz.func103,Tryz.func104,Tryz.func105,Tryz.func106,Tryz.func107,Tryz.func108,Tryz.func109,Tryz.func110,Tryz.func111,Tryz.func112,Tryz.func113,Tryz.func114,Tryz.func115,Tryz.func116,Tryz.func117,Tryz.func118,Tryz.func119,Tryz.func120,Tryz.func121,Tryz.func122,Tryz.func123,Tryz.func124,Tryz.func125,Tryz.func126,Tryz.func127,Tryz.func128,Tryz.func129,Tryz.func130,Tryz.func131,Tryz.func132,Tryz.func133,Tryz.func134,Tryz.func135,Tryz.func136,Tryz.func137,Tryz.func138,Tryz.func139,Tryz.func140,Tryz.func141,Tryz.func142,Tryz.func143,Tryz.func144,Tryz.func145,Tryz.func146,Tryz.func147,Tryz.func148,Tryz.func149,Tryz.func150,Tryz.func151,Tryz.func152,Tryz.func153,Tryz.func154,Tryz.func155,Tryz.func156,Tryz.func157,Tryz.func158,Tryz.func159,Tryz.func160,Tryz.func161,Tryz.func162,Tryz.func163,Tryz.func164,Tryz.func165,Tryz.func166,Tryz.func167,Tryz.func168,Tryz.func169,Tryz.func170,Tryz.func171,Tryz.func172,Tryz.func173,Tryz.func174,Tryz.func175,Tryz.func176,Tryz.func177,Tryz.func178,Tryz.func179,Tryz.func180,Tryz.func181,Tryz.func182,Tryz.func183,Tryz.func184,Tryz.func185,Tryz.func186,Tryz.func187,Tryz.func188,Tryz.func189,Tryz.func190,Tryz.func191,Tryz.func192,Tryz.func193,Tryz.func194,Tryz.func195,Tryz.func196,Tryz.func197,Tryz.func198,Tryz.func199,Tryz.func200,Tryz.func201,Tryz.func202,Tryz.func203,Tryz.func204,Tryz.func205,Tryz.func206,Tryz.func207,Tryz.func208,Tryz.func209,Tryz.func210,Tryz.func211,Tryz.func212,Tryz.func213,Tryz.func214,Tryz.func215,Tryz.func216,Tryz.func217,Tryz.func218,Tryz.func219,Tryz.func220,Tryz.func221,Tryz.func222,Tryz.func223,Tryz.func224,Tryz.func225,Tryz.func226,Tryz.func227,Tryz.func228,Tryz.func229,Tryz.func230,Tryz.func231,Tryz.func232,Tryz.func233,Tryz.func234,Tryz.func235,Tryz.func236,Tryz.func237,Tryz.func238,Tryz.func239,Tryz.func240,Tryz.func241,Tryz.func242,Tryz.func243,Tryz.func244,Tryz.func245,Tryz.func246,Tryz.func247,Tryz.func248,Tryz.func249,Tryz.func250,Tryz.func251,Tryz.func252,Tryz.func253,Tryz.func254,Tryz.func255,Tryz.func256,Tryz.func257,Tryz.func258,Tryz.func259,Tryz.func260,Tryz.func261,Tryz.func262,Tryz.func263,Tryz.func264,Tryz.func265,Tryz.func266,Tryz.func267,Tryz.func268,Tryz.func269,Tryz.func270,Tryz.func271,Tryz.func272,Tryz.func273,Tryz.func274,Tryz.func275,Tryz.func276,Tryz.func277,Tryz.func278,Tryz.func279,Tryz.func280,Tryz.func281,Tryz.func282,Tryz.func283,Tryz.func284,Tryz.func285,Tryz.func286,Tryz.func287,Tryz.func288,Tryz.func289,Tryz.func290,Tryz.func291,Tryz.func292,Tryz.func293,Tryz.func294,Tryz.func295,Tryz.func296,Tryz.func297,Tryz.func298,Tryz.func299,Tryz.func300,Tryz.func301,Tryz.func302,Tryz.func303,Tryz.func304,Tryz.func305,Tryz.func306,Tryz.func307,Tryz.func308,Tryz.func309,Tryz.func310,Tryz.func311,Tryz.func312,Tryz.func313,Tryz.func314,Tryz.func315,Tryz.func316,Tryz.func317,Tryz.func318,Tryz.func319,Tryz.func320,Tryz.func321,Tryz.func322,Tryz.func323,Tryz.func324,Tryz.func325,Tryz.func326,Tryz.func327,Tryz.func328,Tryz.func329,Tryz.func330,Tryz.func331,Tryz.func332,Tryz.func333,Tryz.func334,Tryz.func335,Tryz.func336,Tryz.func337,Tryz.func338,Tryz.func339,Tryz.func340,Tryz.func341,Tryz.func342,Tryz.func343,Tryz.func344,Tryz.func345,Tryz.func346,Tryz.func347,Tryz.func348,Tryz.func349,Tryz.func350,Tryz.func351,Tryz.func352,Tryz.func353,Tryz.func354,Tryz.func355,Tryz.func356,Tryz.func357,Tryz.func358,Tryz.func359,Tryz.func360,Tryz.func361,Tryz.func362,Tryz.func363,Tryz.func364,Tryz.func365,Tryz.func366,Tryz.func367,Tryz.func368,Tryz.func369,Tryz.func370,Tryz.func371,Tryz.func372,Tryz.func373,Tryz.func374,Tryz.func375,Tryz.func376,Tryz.func377,Tryz.func378,Tryz.func379,Tryz.func380,Tryz.func381,Tryz.func382,Tryz.func383,Tryz.func384,Tryz.func385,Tryz.func386,Tryz.func387,Tryz.func388,Tryz.func389,Tryz.func390,Tryz.func391,Tryz.func392,Tryz.func393,trivial⟩
section
def EnvAll(P:Program):Env->Prop
 |[]=>True
 |p::l=>(cQ P p.1=true/\CK P p.1 p.2/\(∀g,p.2.mut_=some g->M1 P p.1 g)/\DQ P p.1 p.2)/\EnvAll P l
theorem EnvAll.ok{P:Program}:∀{l:Env},EnvAll P l->kY P l
 |[],_,f,fn,h=>by simp[lG]at h
 |(k,x)::l,⟨h1,h2⟩,f,fn,h=>by
  simp only[lG]at h;split at h
  ·rename_i hb;have:=aoS hb;subst this;injection h with h;subst h;exact h1
  ·exact EnvAll.ok h2 f fn h
theorem D9{E:Env}{N:NT}(h:EnvAll Tryz.prog E):(Ctx.mk Tryz.prog ft tys E N).Ok:=⟨agH,h.ok,ak1.look,T2⟩
def CX(E:Env)(N:NT):Ctx:=⟨Tryz.prog,ft,tys,E,N⟩
def RS(C:Ctx)(f:Nat)(args:List SV)(t:KT->OLR):Prop:=∀{r:List RV},(∃n,t (C.k n)=S' r)->C.Res f args r
def RN(C:Ctx)(i:Nat)(c:Cfg)(t:KT->OLR):Prop:=∀{r:List RV},(∃n,t (C.k n)=S' r)->C.Runs i c r
def RL(C:Ctx)(i:Nat)(c:Cfg)(t:KT->OLR):Prop:=∀{r:List RV},(∃n0,∀n,n0<=n->t (C.k n)=S' r)->C.RunsE i c r
theorem rsX{E:Env}{N:NT}{f:Nat}{args:List SV}{t:KT->OLR}(e:∀k,go2 Tryz.prog ft tys E N k 4000 (nh f args) (.node 0)=t k:=by intro k;kernel_rfl):RS (CX E N) f args t:=λh=>amE (C:=CX E N) e h
theorem rnX{E:Env}{N:NT}{i:Nat}{c:Cfg}{t:KT->OLR}(e:∀k,go2 Tryz.prog ft tys E N k 4000 {c with K:=.lp i::c.K} (.node (i+1))=t k:=by intro k;kernel_rfl):RN (CX E N) i c t:=λh=>anU (C:=CX E N) e h
theorem rlX{E:Env}{N:NT}{i:Nat}{c:Cfg}{t:KT->OLR}(e:∀k,go2 Tryz.prog ft tys E N k 4000 {c with K:=.lp i::c.K} (.node (i+1))=t k:=by intro k;kernel_rfl):RL (CX E N) i c t:=λh=>amI (C:=CX E N) e h
def DP(f k:Nat):Bool:=match fT ft f with
 |some fn=>okF fn k
 |none=>false
abbrev CQq7:=Con Tryz.prog
theorem fI{E:Env}{N:NT}{f:Nat}{args:List SV}{r:List RV}(ok:EnvAll Tryz.prog E)(h:(CX E N).Res f args r)(hk:DP f args.length=true:=by kernel_rfl):CQq7 f args r:=by
 unfold DP at hk;split at hk
 ·rename_i fn e;exact Ctx.Res.con (C:=CX E N) (D9 ok) h (fn:=fn) e hk
 ·cases hk
theorem aom{E:Env}{f:Nat}{args:List SV}{r:List RV}(ok:EnvAll Tryz.prog E)(t:KT->OLR)(h:∃n,t ((CX E []).k n)=S' r)(e:∀k,go2 Tryz.prog ft tys E [] k 4000 (nh f args) (.node 0)=t k:=by intro k;kernel_rfl)(hk:DP f args.length=true:=by kernel_rfl):CQq7 f args r:=fI ok (rsX e h) hk
def SpK(f:Nat)(s:cE):Prop:=cQ Tryz.prog f=T'/\CK Tryz.prog f s/\(∀g,s.mut_=S' g->M1 Tryz.prog f g)/\DQ Tryz.prog f s
theorem spX{f:Nat}{keep tame:Bool}{ts:List Ty}{pre:DT ts->Bool}{res:DT ts->List RV}(h:∀x,pre x=T'->CQq7 f (svs ts x) (res x))(hc:cQ Tryz.prog f=true:=by kernel_rfl):SpK f (spN keep tame ts pre res):=ad3 hc h
theorem qN{E:Env}{f:Nat}{args:List SV}{r:List RV}(r':List RV){p:Prop}[Decidable p](ok:EnvAll Tryz.prog E)(h:p)(e:∀k,go2 Tryz.prog ft tys E [] k 4000 (nh f args) (.node 0)=match decide p with|T'=>S' r'|F'=>none:=by intro k;kernel_rfl)(hr:r'=r:=by simp only[aQ])(hk:DP f args.length=true:=by kernel_rfl):CQq7 f args r:=by
 unfold DP at hk;split at hk
 ·rename_i fn g;exact an2 (C:=CX E []) (D9 ok) (p:=p) e h hr (fn:=fn) g hk
 ·cases hk
def hid{α:Type}(x:α):α:=Classical.choose (⟨x,rfl⟩:∃y,y=x)
theorem aQ{α:Type}(x:α):hid x=x:=aqn (⟨x,rfl⟩:∃y,y=x)
structure Lf (K:List SV->List RV->Prop) (args:List SV) where
 p:Prop
 d:Decidable p
 r:List RV
 h:p->K args r
def lf{K:List SV->List RV->Prop}{args:List SV}(p:Prop)[d:Decidable p](r:List RV)(h:p->K args r):Lf K args:=⟨p,d,r,h⟩
@[reducible] def CG(K:List SV->List RV->Prop):List Ty->(List SV->List SV)->Type
 |[],c=>Lf K (c [])
 |t::ts,c=>(x:t.D)->CG K ts λl=>c (.d t x::l)
def F8{K:List SV->List RV->Prop}{R:Type}(hd:RV->RV):(ts:List Ty)->(c:List SV->List SV)->CG K ts c->List SV->(List RV->Option R)->Option R
 |[],_,g,l,k=>match l with
  |[]=>match @decide g.p g.d with
   |true=>k (g.r.map hd)
   |false=>none
  |_::_=>none
 |t::ts,_,g,l,k=>match l with
  |.d u x::m=>match eU u t x with
   |some y=>F8 hd ts _ (g y) m k
   |none=>none
  |_=>none
theorem tL{K:List SV->List RV->Prop}{R:Type}{hd:RV->RV}(hh:∀x,hd x=x){k:List RV->Option R}{r:R}:∀(ts:List Ty) (c:List SV->List SV) (g:CG K ts c) (l:List SV),F8 hd ts c g l k=S' r->∃rs,k rs=S' r/\K (c l) rs
 |[],c,g,l,h=>by
  unfold F8 at h;split at h
  ·split at h
   ·rename_i e;rw[show g.r.map hd=g.r by rw[show hd=id from funext hh,List.map_id]]at h;exact⟨_,h,g.h (@aoQ _ g.d e)⟩
   ·cases h
  ·cases h
 |t::ts,c,g,l,h=>by
  unfold F8 at h;split at h
  ·split at h
   ·rename_i e;obtain⟨rfl,rfl⟩:=cZ e;have q:=tL hh ts _ _ _ h;exact q
   ·cases h
  ·cases h
structure Cn (f:Nat) (ts:List Ty) where
 g:CG (CQq7 f) ts id
 c:cQ Tryz.prog f=T'
def cn{f:Nat}{ts:List Ty}(g:CG (CQq7 f) ts id)(c:cQ Tryz.prog f=true:=by kernel_rfl):Cn f ts:=⟨g,c⟩
structure En where
 f:Nat
 s:cE
 ok:SpK f s
def enX(keep tame:Bool){hd:RV->RV}(hh:∀x,hd x=x){f:Nat}{ts:List Ty}(g:Cn f ts):En:=⟨f,{keep:=keep,tame:=tame,run:=λ_ args k=>F8 hd ts id g.g args k},g.c,λ_ args _ _ e=>tL hh ts id g.g args e,(λ_ e=>by cases e),λ_ _ e=>by cases e⟩
def hdS:RV->RV
 |.d (.st t) x=>.d (.st t) (hid x)
 |r=>r
def hdA:RV->RV
 |.d t x=>.d t (hid x)
 |r=>r
theorem TC(r:RV):hdS r=r:=by
 unfold hdS;split
 ·rw[aQ]
 ·rfl
theorem adD(r:RV):hdA r=r:=by
 unfold hdA;split
 ·rw[aQ]
 ·rfl
section
variable {f:Nat} {ts:List Ty} (g:Cn f ts)
def enT:En:=enX T' T' TC g
def enL:En:=enX F' T' TC g
def enA:En:=enX T' T' adD g
def enU:En:=enX T' T' (hd:=id) (λ_=>rfl) g
def enF:En:=enX T' F' (hd:=id) (λ_=>rfl) g
def enK:En:=enX F' F' (hd:=id) (λ_=>rfl) g
def enV:En:=enX F' T' (hd:=id) (λ_=>rfl) g
end
def enB{f:Nat}(p:Nat){ts:List Ty}(g:CG (Iq Tryz.prog f p) ts id)(c:cQ Tryz.prog f=true:=by kernel_rfl):En:=⟨f,{keep:=F',run:=λ_ _ _=>none,lent:=S' (p,λ_ args k=>F8 id ts id g args k)},c,(λ_ _ _ _ e=>by cases e),(λ_ e=>by cases e),λ_ _ e=>by
 injection e with e;injection e with e1 e2;subst e1 e2;exact λR args k r e=>tL (λ_=>rfl) ts id g args e⟩
theorem Con.capt{P:Program}{f:Nat}{l:List SV}{s:SV}{rs:List RV}(h:Con P f (l++[.dead]) rs):Con P f (l++[s]) rs:=λA w vs hI hv=>h A w vs hI (by
 have:∀(l:List SV) (vs:List Value),bJ (Rel1 [] A w) (l++[s]) vs->bJ (Rel1 [] A w) (l++[.dead]) vs:=λl=>by
  induction l with
  |nil=>intro vs h;match vs,h with|[_],⟨_,h⟩=>exact⟨trivial,h⟩
  |cons x l ih=>intro vs h;match vs,h with|_::_,⟨h1,h2⟩=>exact⟨h1,ih _ h2⟩
 exact this _ _ hv)
def enC{f:Nat}{ts:List Ty}(g:CG (CQq7 f) ts (·++[.dead]))(c:cQ Tryz.prog f=true:=by kernel_rfl):En:=⟨f,{keep:=T',run:=λ_ args k=>match args.getLast? with|S' _=>F8 id ts (·++[.dead]) g args.dropLast k|none=>none},c,(λ_ args _ _ e=>by
 dsimp only at e;split at e
 ·rename_i h;obtain⟨ys,rfl⟩:=List.getLast?_eq_some_iff.1 h;rw[List.dropLast_concat]at e;exact(tL (λ_=>rfl) ts _ g _ e).imp λ_ h=>⟨h.1,h.2.capt⟩
 ·cases e),(λ_ e=>by cases e),λ_ _ e=>by cases e⟩
def Vl(l:List SV):List SV:=match l.getLast? with
 |some (.d (.int .i64) x)=>l.dropLast++[.elt ask x 0]
 |_=>l
def enM{f:Nat}{ts:List Ty}(g:CG (CQq7 f) ts Vl)(c:cQ Tryz.prog f=true:=by kernel_rfl):En:=⟨f,{keep:=T',run:=λ_ args k=>match args.getLast? with|S' (.elt (.int .i64) x 0)=>F8 id ts Vl g (args.dropLast++[.d ask x]) k|_=>none},c,(λ_ args _ _ e=>by
 dsimp only at e;split at e
 ·rename_i x h;obtain⟨ys,rfl⟩:=List.getLast?_eq_some_iff.1 h;rw[List.dropLast_concat]at e;have hc:Vl (ys++[.d ask x])=ys++[.elt ask x 0]:=by unfold Vl;simp
  have:=tL (λ_=>rfl) ts _ g _ e;rwa [hc]at this
 ·cases e),(λ_ e=>by cases e),λ_ _ e=>by cases e⟩
def RSL(C:Ctx)(f p:Nat)(args:List SV)(t:KT->OLR):Prop:=∀{r:List RV},(∃n,t (C.k n)=S' r)->C.ResL f p args r
theorem an3{E:Env}{N:NT}{f p:Nat}{args:List SV}{t:KT->OLR}(e:∀k,go2 Tryz.prog ft tys E N k 4000 (uz f p args) (.node 0)=t k:=by intro k;kernel_rfl):RSL (CX E N) f p args t:=λh=>ajx (C:=CX E N) e h
def ens(l:List En):Env:=l.map λe=>(e.f,e.s)
theorem eL:∀l:List En,EnvAll Tryz.prog (ens l)
 |[]=>trivial
 |e::l=>⟨e.ok,eL l⟩
theorem EY(l:List En){N:NT}{f p:Nat}{args:List SV}{r:List RV}(h:(CX (ens l) N).ResL f p args r)(hk:DP f args.length=true:=by kernel_rfl):Iq Tryz.prog f p args r:=by
 unfold DP at hk;split at hk
 ·rename_i fn e;exact Ctx.ResL.con (C:=CX (ens l) N) (D9 (eL l)) h (fn:=fn) e hk
 ·cases hk
section
variable (l:List En) {N:NT} {f:Nat} {args:List SV} {r:List RV}
theorem aX(h:(CX (ens l) N).Res f args r)(hk:DP f args.length=true:=by kernel_rfl):CQq7 f args r:=fI (eL l) h hk
theorem aA(t:KT->OLR)(h:∃n,t ((CX (ens l) []).k n)=S' r)(e:∀k,go2 Tryz.prog ft tys (ens l) [] k 4000 (nh f args) (.node 0)=t k:=by intro k;kernel_rfl)(hk:DP f args.length=true:=by kernel_rfl):CQq7 f args r:=aom (eL l) t h e hk
end
end
def NK(P:Program)(F:FT)(T:TT)(E:Env)(N:NT):Nat->Nat->Cfg->OLR
 |0,_,_=>none
 |n+1,i,c=>go2 P F T E N (NK P F T E N n) 4000 {c with K:=.lp i::c.K} (.node (i+1))
theorem Jr(P:Program)(F:FT)(T:TT)(E:Env)(N:NT):∀n,NK P F T E N n=run P F T E N n
 |0=>rfl
 |n+1=>by funext i c;simp only[NK,run];rw[Jr P F T E N n,n8]
theorem aoi{C:Ctx}{f n:Nat}{args:List SV}{t:OLR}{r:List RV}(e:go2 C.P C.F C.T C.E C.N (NK C.P C.F C.T C.E C.N n) 4000 (nh f args) (.node 0)=t)(h:t=S' r):C.Res f args r:=by
 rw[Jr,n8]at e;exact⟨n,e.trans h⟩
def RT(C:Ctx)(f:Nat)(args:List SV)(t:OLR):Prop:=∀{r:List RV},t=S' r->C.Res f args r
theorem rtX{E:Env}{N:NT}{f:Nat}{args:List SV}{t:OLR}(e:go2 Tryz.prog ft tys E N (NK Tryz.prog ft tys E N 99) 4000 (nh f args) (.node 0)=t:=by kernel_rfl):RT (CX E N) f args t:=λh=>aoi (C:=CX E N) e h
theorem aM{x:Int}(h1: -9223372036854775808<=x)(h2:x<=9223372036854775807):i64.wrap x=x:=IntWalk.i64_in x ⟨h1,h2⟩
theorem aS{k:Nat}(h:k+1<=9223372036854775807):i64.wrap ((k:Int)+1)=((k+1:Nat):Int):=by rw[aM (by omega) (by omega)];simp
theorem ak{α:Type}(xs:List α)(k:Nat):aH xs (k:Int)=xs[k]?:=by unfold aH;rw[aoP (by omega)];rfl
theorem AO{α:Type}(xs:List α):aH xs 0=xs[0]?:=ak xs 0
theorem aO{k n:Nat}(h:k<n):decide ((k:Int)<(n:Int))=true:=aoP (by omega)
theorem bg{k n:Nat}(h:n<=k):decide ((k:Int)<(n:Int))=false:=aoR (by omega)
theorem jw{α:Type}{xs:List α}{k:Nat}(h:k<xs.length):xs.drop k=xs[k]::xs.drop (k+1):=ao5 h
theorem yy{α:Type}{xs:List α}{k:Nat}(h:xs.length<=k):xs.drop k=[]:=apx h
theorem aE(k:Nat):((k:Int)).toNat=k:=ara k
theorem afC{m b:Nat}(hb:b<=1000)(h:m<=1000000):decide ((m+1)*b<=140737488355328/\m+1<=140737488355328)=true:=by
 have:(m+1)*b<=1000001*1000:=arm (by omega) hb;exact aoP ⟨by omega,by omega⟩
theorem dT{p:Prop}{i:Decidable p}(h:p): @decide p i=true:=aoP h
theorem dF{p:Prop}{i:Decidable p}(h:¬p): @decide p i=false:=aoR h
def val:List Int->Int
 |[]=>0
 |x::xs=>x+1000000000*val xs
def Lim(l:List Int):Prop:=∀x∈l,0<=x/\x<1000000000
instance (l:List Int):Decidable (Lim l):=by unfold Lim;infer_instance
def pw(n:Nat):Int:=1000000000^n
theorem nL:pw 0=1:=rfl
theorem bW(n:Nat):pw (n+1)=pw n*1000000000:=by simp[pw,Int.pow_succ]
theorem cf(n:Nat):0<pw n:=Int.pow_pos (by decide)
theorem fk(m n:Nat):pw (m+n)=pw m*pw n:=Int.pow_add _ _ _
theorem dm{m n:Nat}(h:m<=n):pw m<=pw n:=by
 obtain⟨k,rfl⟩:=Nat.exists_eq_add_of_le h;rw[fk];have h1:=cf m;have h2:=cf k;have:=aoW (show 1<=pw k by omega) (apv h1);omega
theorem Lim.nil:Lim []:=λ_ h=>by cases h
theorem Lim.cons{x:Int}{l:List Int}(h1:0<=x/\x<1000000000)(h2:Lim l):Lim (x::l):=λy hy=>by
 rcases ao7.1 hy with rfl|hy
 ·exact h1
 ·exact h2 y hy
theorem Lim.head{x:Int}{l:List Int}(h:Lim (x::l)):0<=x/\x<1000000000:=h x (by simp)
theorem Lim.tail{x:Int}{l:List Int}(h:Lim (x::l)):Lim l:=λy hy=>h y (by simp[hy])
theorem Lim.append{a b:List Int}(h1:Lim a)(h2:Lim b):Lim (a++b):=λy hy=>by
 rcases ape.1 hy with hy|hy
 ·exact h1 y hy
 ·exact h2 y hy
theorem Lim.left{a b:List Int}(h:Lim (a++b)):Lim a:=λy hy=>h y (by simp[hy])
theorem Lim.right{a b:List Int}(h:Lim (a++b)):Lim b:=λy hy=>h y (by simp[hy])
theorem Lim.take{a:List Int}(h:Lim a)(n:Nat):Lim (a.take n):=λy hy=>h y (ap8 hy)
theorem Lim.drop{a:List Int}(h:Lim a)(n:Nat):Lim (a.drop n):=λy hy=>h y (aqu hy)
theorem Lim.set{a:List Int}(h:Lim a)(n:Nat){y:Int}(hy:0<=y/\y<1000000000):Lim (a.set n y):=λz hz=>by
 rcases aq6 hz with hz|rfl
 ·exact h z hz
 ·exact hy
theorem Lim.get{a:List Int}(h:Lim a){n:Nat}(hn:n<a.length):0<=a[n]/\a[n]<1000000000:=h _ (aoY hn)
theorem Lim.rep(n:Nat):Lim (List.replicate n 0):=λy hy=>by
 rw[List.eq_of_mem_replicate hy];decide
theorem dz(a b:List Int):val (a++b)=val a+pw a.length*val b:=by
 induction a with
 |nil=>simp[val,pw]
 |cons x a ih=>
  grind [val,bW]
theorem aP{l:List Int}(h:Lim l):0<=val l:=by
 induction l with
 |nil=>exact ase _
 |cons x l ih=>
  grind [h.tail,h.head,val]
theorem bU{l:List Int}(h:Lim l):val l<pw l.length:=by
 induction l with
 |nil=>exact Int.zero_lt_one
 |cons x l ih=>
  grind [h.tail,h.head,val,bW]
theorem Ek:∀{a b:List Int},Lim a->Lim b->a.length=b.length->val a=val b->a=b
 |[],[],_,_,_,_=>rfl
 |[],_::_,_,_,h,_=>by simp at h
 |_::_,[],_,_,h,_=>by simp at h
 |x::a,y::b,h1,h2,hl,hv=>by
  have k1:=h1.head;have k2:=h2.head;simp only[val]at hv;have e:x=y:=by omega
  subst e;rw[Ek h1.tail h2.tail (by simpa using hl) (by omega)]
theorem gf(n:Nat):val (List.replicate n 0)=0:=by
 induction n with
 |zero=>rfl
 |succ n ih=>simp[List.replicate_succ,val,ih]
theorem bi{l:List Int}{n:Nat}(h:n<l.length):val (l.take (n+1))=val (l.take n)+pw n*l[n]:=by grind [ap0,dz,val]
theorem eV:∀{l:List Int} {n:Nat} (h:n<l.length) (y:Int),val (l.set n y)=val l+pw n*(y-l[n])
 |[],_,h,_=>by simp at h
 |x::l,0,_,y=>by simp only[List.set_cons_zero,val,nL,List.getElem_cons_zero];omega
 |x::l,n+1,h,y=>by
  have:=eV (l:=l) (n:=n) (by simpa using h) y;simp only[List.set_cons_succ,val,this,bW,List.getElem_cons_succ];grind
theorem fO(l:List Int)(n:Nat):val l=val (l.take n)+pw (min n l.length)*val (l.drop n):=by
 have:=dz (l.take n) (l.drop n);simp_all
def dig:Nat->Int->List Int
 |0,_=>[]
 |n+1,v=>v%1000000000::dig n (v/1000000000)
theorem je:∀(n:Nat) (v:Int),(dig n v).length=n
 |0,_=>rfl
 |n+1,v=>by simp[dig,je n]
theorem nQ:∀(n:Nat) (v:Int),Lim (dig n v)
 |0,_=>Lim.nil
 |n+1,v=>Lim.cons (by omega) (nQ n _)
theorem ic:∀(n:Nat) (v:Int),0<=v->v<pw n->val (dig n v)=v
 |0,v,h1,h2=>by simp only[nL]at h2;simp only[dig,val];omega
 |n+1,v,h1,h2=>by
  rw[bW]at h2;simp only[dig,val];rw[ic n (v/1000000000) (by omega) (by omega)];omega
theorem Dv{l:List Int}{n:Nat}{v:Int}(h:Lim l)(hl:l.length=n)(hv:val l=v):l=dig n v:=by
 subst hl hv;grind [Ek,nQ,je,ic,aP,bU]
def lbF:Nat->Nat->List Int
 |0,_=>[]
 |f+1,n=>bif n==0 then []else((n%1000000000:Nat):Int)::lbF f (n/1000000000)
def ae(n:Nat):List Int:=lbF (n.log2+1) n
theorem sJ(f:Nat):lbF f 0=[]:=by cases f<;>rfl
theorem F1:∀(f g n:Nat),n<2^f->n<2^g->lbF f n=lbF g n
 |0,g,n,h,_=>by
  have:n=0:=by simpa using h
  subst this;rw[sJ,sJ]
 |f+1,0,n,_,h=>by
  have:n=0:=by simpa using h
  subst this;rw[sJ,sJ]
 |f+1,g+1,n,h1,h2=>by
  rw[Nat.pow_succ]at h1 h2;simp only[lbF];rw[F1 f g (n/1000000000) (by omega) (by omega)]
theorem UF{f n:Nat}(h:n<2^f):ae n=lbF f n:=F1 _ _ _ Nat.lt_log2_self h
theorem fA:ae 0=[]:=rfl
theorem iN{n:Nat}(h:n≠0):ae n=((n%1000000000:Nat):Int)::ae (n/1000000000):=by grind [Nat.lt_log2_self,UF,ae,lbF]
theorem qe{motive:Nat->Prop}(h0:motive 0)(h1:∀n,n≠0->motive (n/1000000000)->motive n)(n:Nat):motive n:=by
 induction n using Nat.strongRecOn with
 |ind n ih=>
  grind
theorem bV(n:Nat):Lim (ae n):=by
 induction n using qe with
 |h0=>exact Lim.nil
 |h1 n hn ih=>rw[iN hn];exact Lim.cons (by omega) ih
theorem bG(n:Nat):val (ae n)=(n:Int):=by
 induction n using qe with
 |h0=>rfl
 |h1 n hn ih=>rw[iN hn];simp only[val];omega
def can(l:List Int):Prop:=Lim l/\l.getLast?≠S' 0
instance (l:List Int):Decidable (can l):=by unfold can;infer_instance
theorem dW(n:Nat):can (ae n):=by
 refine⟨bV n,?_⟩;induction n using qe with
 |h0=>simp[fA]
 |h1 n hn ih=>
  grind [iN]
theorem JX{x:Int}{l:List Int}(h:can (x::l)):can l:=by
 refine⟨h.1.tail,λe=>h.2 ?_⟩;grind
theorem eu:∀{l:List Int},can l->l≠[]->0<val l
 |[],_,h=>by cases h rfl
 |[x],h,_=>by
  have:=h.1.head;have h2:=h.2;simp at h2;simp only[val];omega
 |x::y::l,h,_=>by
  have:=eu (JX h) (by simp);have:=h.1.head;simp only[val]at*
  omega
theorem p7:∀{l:List Int},can l->l=ae (val l).toNat
 |[],_=>rfl
 |x::l,h=>by
  have ih:=p7 (JX h);have hp:=eu h (by simp);have hx:=h.1.head;have hn:=aP h.1.tail;rw[iN (by omega)];simp only[val]at hp ⊢;rw[show(x+1000000000*val l).toNat%1000000000=x.toNat by omega,show(x+1000000000*val l).toNat/1000000000=(val l).toNat by omega,<-ih];rw[show((x.toNat:Nat):Int)=x by omega]
theorem dq{n k:Nat}(h:(n:Int)<pw k):(ae n).length<=k:=by
 induction k generalizing n with
 |zero=>
  have:n=0:=by simp only[nL]at h;omega
  subst this;simp[fA]
 |succ k ih=>
  rw[bW]at h;by_cases hn:n=0
  ·subst hn;simp[fA]
  ·rw[iN hn];have:=ih (n:=n/1000000000) (by omega);simp;omega
theorem Di{n k:Nat}(h:pw k<=(n:Int)):k<(ae n).length:=by
 rcases apu k (ae n).length with h1|h1
 ·grind
 ·have h2:=bU (bV n);rw[bG]at h2;have:=dm h1;omega
theorem gF{n:Nat}:ae n=[]↔n=0:=by
 constructor
 ·grind [bG,val]
 ·rintro rfl;rfl
def ah(z:Int):Bool×List Int:=(decide (z<0),ae z.natAbs)
def ab(x:Bool×List Int):Int:=bif x.1 then-val x.2 else val x.2
theorem dec_enc(z:Int):ab (ah z)=z:=by grind [ab,ah,bG]
def b9(a b:Int):Int:=bif decide (a<b)then-1 else bif decide (b<a)then 1 else 0
end Go.Proofs.YtoimchcjhdcdmaaGreat
end
