/- The pure machine is sound: the induction. -/
import Derived.Test.YtgddhgcjmddjfaaGreatC5
noncomputable section
namespace Go.Proofs.YtgddhgcjmddjfaaGreat
open Go.RowKit Go.IntKind
theorem atT:type_of% @decide_eq_true:=@decide_eq_true
theorem atV:type_of% @decide_eq_false:=@decide_eq_false
theorem atX:type_of% @Bool.true_and:=@Bool.true_and
theorem atY:type_of% @Bool.and_self:=@Bool.and_self
theorem aua:type_of% @Int.mul_le_mul_of_nonneg_left:=@Int.mul_le_mul_of_nonneg_left
theorem auA:type_of% @Int.lt_or_le:=@Int.lt_or_le
theorem auB:type_of% @List.getElem_mem:=@List.getElem_mem
theorem auF:type_of% @Nat.min_eq_left:=@Nat.min_eq_left
theorem auH:type_of% @Int.le_of_lt:=@Int.le_of_lt
theorem auU:type_of% @IntKind.wrap_u64:=@IntKind.wrap_u64
theorem avM:type_of% @Int.toNat_natCast:=@Int.toNat_natCast
theorem avZ:type_of% @Int.lt_trichotomy:=@Int.lt_trichotomy
theorem av7:type_of% @Nat.mul_le_mul:=@Nat.mul_le_mul
theorem awk:type_of% @Int.mul_one:=@Int.mul_one
theorem awm:type_of% @List.drop_length:=@List.drop_length
theorem awr:type_of% @Nat.sub_add_cancel:=@Nat.sub_add_cancel
theorem aws:type_of% @Int.lt_of_lt_of_le:=@Int.lt_of_lt_of_le
theorem awJ:type_of% @Region.noSelect_spec:=@Region.noSelect_spec
theorem aw1:type_of% @Int.mul_add:=@Int.mul_add
theorem aw7:type_of% @List.take_take:=@List.take_take
section
theorem F6{P:Program}{fn:Func}{R:Ending→World→Prop}{B:Code}{K:List KI}{i:Nat}{a:Act}{w:World}(S:World→Prop){id:Nat}(hm:P.follows .mixedOrders=true)(hc:nth B i=.region id (ao (nth B i)) true)(h:AtG P fn R B K i S (ao (nth B i)).size [] a w.drew):At P fn R B K i a w:=by
 unfold At;rw[hc]
 refine wp_region_any hm (ES (S0:=S) _ _ _ _ ?_)
 simpa [AtG,mkL,ao]using h
theorem uP{n s:Nat}:∀{D:List Nat},s∉D→s<n→(mkL n D).getD s true=false
 |[],_,h=>by simp[mkL,h]
 |j::D,hn,h=>by
  have h1:s≠j:=fun e=>hn (by simp[e])
  rw[mkL,avL true (avr h1)]
  exact uP (fun hm=>hn (by simp[hm])) h
theorem Ef{ops:Array Oper}:¬storeDone ops (mkL ops.size []):=by
 rintro ⟨s,os,h1,_,h3⟩
 have hlt:=(aue.1 h1).1
 simp[mkL,hlt]at h3
section
variable {Z:Nat→Prop} {w0:World} {F:FT} {P:Program} {T:TT} {E:Env} {N:NT} {Fin:Nat→Cfg→Option (List RV)} {Rt:Ending→World→Prop} {r:List RV}
set_option maxHeartbeats 2000000 in
theorem E3(hT:fc P T=true)(hE:ld P E)(hI:inv w0)(hF:∀f fn,gQ F f=some fn→P.funcs[f]?=some fn)(hm:P.follows .mixedOrders=true)
  (hRt:∀vs H G w ss tys,Ao T H ss tys=some r→SR Z w0 H G w→cJ (Rel G (Av Z H G) w) ss vs→Rt (.returned (lW vs)) w)
  (hFin:∀i c G w a ats fn,Fin i c=some r→CR Z F w0 c G w a ats→gQ F c.f=some fn→InLoop P (nth (am F c.f) (i+1)) (iD P fn (f0 P F Rt c.fs ats) (am F c.f) (im P fn (f0 P F Rt c.fs ats) (am F c.f) c.K)) a w):
  ∀(m:Nat) (c:Cfg) (p:Pos),go P F T E N Fin m c p=some r→∀G w a ats fn,CR Z F w0 c G w a ats→gQ F c.f=some fn→jF P F Rt c fn G w a ats p:=by
 have headOk:∀i c,head N Fin i c=some r→∀G w a ats fn,CR Z F w0 c G w a ats→gQ F c.f=some fn→InLoop P (nth (am F c.f) (i+1)) (iD P fn (f0 P F Rt c.fs ats) (am F c.f) (im P fn (f0 P F Rt c.fs ats) (am F c.f) c.K)) a w:=by
  intro i c h G w a ats fn hc hfn
  unfold head at h
  split at h
  ·split at h<;>try (cases h;done)
   rename_i c' hn
   obtain⟨G',k1,k2,k3,k4⟩:=abG hn hc
   have:=hFin i c' G' w a ats fn h k1 (by rw[k2];exact hfn)
   rw[k2,k3,k4]at this
   exact this
  ·exact hFin i c G w a ats fn h hc hfn
 intro m
 induction m using Nat.strongRecOn with
 |ind m0 ihs=>
 cases m0 with
 |zero=>intro c p h;simp[go]at h
 |succ m=>
  have ih:=ihs m (Nat.lt_succ_self m)
  intro c p h G w a ats fn hc hfn
  have h0:=h
  simp only[go]at h
  split at h
  ·-- nrm
   split at h
   ·rename_i hK
    have:=ih _ _ h G w a ats fn hc hfn
    simp only[jF]at this ⊢
    rw[hK]
    exact this
   ·rename_i j K hK
    have:=ih _ _ h G w a ats fn ⟨hc.sr,hc.fr,hc.fl,hc.frs⟩ hfn
    simp only[jF]at this ⊢
    rw[hK]
    exact this
   ·rename_i id K hK
    have:=ih _ _ h G w a ats fn ⟨hc.sr,hc.fr,hc.fl,hc.frs⟩ hfn
    simp only[jF]at this ⊢
    rw[hK]
    exact this
   ·rename_i i K hK
    have:=headOk i {c with K:=K} h G w a ats fn ⟨hc.sr,hc.fr,hc.fl,hc.frs⟩ hfn
    simp only[jF]
    rw[hK]
    exact this
  ·-- node
   rename_i i
   simp only[jF]
   split at h
   ·rename_i hn
    exact abx hn (ih _ _ h G w a ats fn hc hfn)
   ·rename_i x y hn
    have:=ih _ _ h G w a ats fn ⟨hc.sr,hc.fr,hc.fl,hc.frs⟩ hfn
    exact yl (adi hn) this
   ·rename_i id x hn
    have:=ih _ _ h G w a ats fn ⟨hc.sr,hc.fr,hc.fl,hc.frs⟩ hfn
    exact Qp (Nv hn) this
   ·rename_i id hn
    split at h<;>try (cases h;done)
    rename_i K hK
    have:=ih _ _ h G w a ats fn ⟨hc.sr,hc.fr,hc.fl,hc.frs⟩ hfn
    exact ad0 hn (abA (wC hK) this)
   ·rename_i hn
    exact Ji hn (ih _ _ h G w a ats fn hc hfn)
   ·rename_i x p q hn
    split at h<;>try (cases h;done)
    rename_i b hb
    have hv:=mR (aY hc.fr hb)
    unfold At
    rw[Vy hn]
    split at h
    ·exact wp_cond_true hv (ih _ _ h G w a ats fn hc hfn)
    ·exact wp_cond_false hv (ih _ _ h G w a ats fn hc hfn)
   ·rename_i x hn
    unfold At
    rw[Xr hn]
    exact(headOk i c h G w a ats fn hc hfn).wp
   ·rename_i id ops hn
    have:=ih _ _ h G w a ats fn hc hfn
    exact mh (id:=id) (by rw[hn];rfl) this
   ·rename_i id ops hn
    split at h<;>try (cases h;done)
    rename_i hns
    have hops:ao (nth (am F c.f) i)=ops:=by rw[hn];rfl
    have hb:Below w.heap.size w w.drew:=(aw0 _ _).drew
    have hsg:=ux hc.sr hb
    have hev:Ev Z c.fl c.H G w c.H G w.drew:=fun s v hs _=>dL hc.sr hsg hs
    have hcr:CR Z F w0 c G w.drew a ats:=⟨K0 hc.sr hb,hc.fr.keep fun s v hs=>dL hc.sr hsg hs,hc.fl,hc.frs.ev hev (at5 _)⟩
    split at h
    ·refine F6 (fun _=>True) hm (id:=id) (by rw[hn];rfl) ?_
     split at h
     ·exact ih _ _ h G w.drew a ats fn hcr hfn rfl (by rw[hops];exact hns)
     ·exact ih _ _ h G w.drew a ats fn hcr hfn rfl (by rw[hops];exact hns)
    refine F6 (Agr (!(ops.any fun o=>nZ o.op)) c.H G w.drew) hm (id:=id) (by rw[hn];rfl) ?_
    exact ih _ _ h G w.drew a ats fn hcr hfn c.H G w.drew (.inr ⟨Agr.refl,fun _ _ hx=>hx,fun _=>⟨rfl,rfl,rfl⟩,Ef⟩) tM (by rw[hops];exact hns) _ (by simp)
   ·cases h
  ·-- ops
   rename_i i k
   simp only[jF]
   split at h
   ·rename_i hk
    exact abE hk (ih _ _ h G w a ats fn hc hfn)
   ·rename_i o hk
    rcases fk hc.fr h with⟨L1,h1,hf1,hw⟩|⟨L1,h1,hf1,hw⟩
    ·refine acE hk hw ?_
     split at h1
     ·split at h1<;>try (cases h1;done)
      rename_i hfz
      obtain⟨g1,g2,g3,g4,g5⟩:=al5 hc.sr hf1 hfz
      obtain⟨s,v,h2,h3,h4⟩:=mK hT g1 g2 h1
      split at h2<;>try (cases h2;done)
      rename_i L2 hp
      rw[h4 w (fun _=>Agr.refl)]
      exact ih _ _ h2 G w (a.put o.dst v) ats fn ⟨g1,g2.put hp h3,auh hc.fl (Nat.le_of_eq g5),hc.frs.evF g3 (at5 _)⟩ hfn
     ·split at h1
      ·rename_i g ss hin
       obtain⟨f,args,tys,fg,caps,e1,e2,e3,e4,e5,e6,e7⟩:=Dq hf1 hin
       have hcl:eu P g=true:=by unfold eu;rw[hF g fg e2];simp only[e6,e7,atY]
       rw[kn hcl a.eval o f args tys caps e1 e3 w]
       obtain⟨B,hB⟩:=auZ.1 e7
       have hbf:am F g=B:=by simp[am,e2,hB]
       have hcal:Calls P g (args.map a.eval++caps) w (f0 P F Rt ({f:=c.f,K:=c.K,i:=i,k:=k,L:=AA N c.f i L1,fl:=c.fl}::c.fs) (a::ats)):=by
        have hto:args.map a.eval++caps=(args.map a.eval++caps).toList.toArray:=by simp
        rw[hto]
        refine enter (hF g fg e2) hB (aux (by rw[←eT e4];exact e5)) fun a2 hst=>?_
        have:=ih _ _ h1 G w a2 (a::ats) fg ⟨hc.sr,⟨hst.defers,by rw[hst.size];simp[ntm,e2],mL e4 hst.slot⟩,at5 _,⟨⟨hf1.defers,hf1.size,fun t s hs=>hf1.slot t s (j7 hs)⟩,fun t s hs=>by obtain⟨v,_,hv⟩:=hf1.slot t s (j7 hs);exact jY hc.sr hv,⟨hc.fl,⟨fn,hfn⟩,fun D hD=>by cases hD⟩,hc.frs⟩⟩ e2
        simp only[jF,im]at this
        rw[hbf]at this
        exact this
       refine Calls.mono hcal ?_
       rintro e w' ⟨v,rfl,fn',o',q1,q2,q3,_⟩
       have q3:=q3 rfl
       simp only at q1 q2 q3
       rw[hfn]at q1
       injection q1 with q1
       subst q1
       rw[hk]at q2
       injection q2 with q2
       subst q2
       exact q3
      ·refine uI hT hE hI hc.sr hf1 h1 fun s H' L2 G' w' v h2 h3 h4 h5 h6=>?_
       split at h2<;>try (cases h2;done)
       rename_i L3 hp
       exact ih _ _ h2 G' w' (a.put o.dst v) ats fn ⟨h3,h4.put hp h5,auh hc.fl h6.len,hc.frs.evF h6.pres (at5 _)⟩ hfn
    ·refine ahX hk hw ?_
     split at h1<;>try (cases h1;done)
     rename_i L2 hp
     exact ih _ _ h1 G w (a.put o.dst undef) ats fn ⟨hc.sr,hf1.put hp rfl,hc.fl,hc.frs⟩ hfn
  ·-- drw
   rename_i i rw eff D
   simp only[jF]
   intro Hs Gs ws hinv hclo hns m' hm'
   split at h
   ·exact ih _ _ h G w a ats fn hc hfn (Agr rw Hs Gs ws) (fun w w' hw ho=>⟨auh hw.1 ho.1,fun b hb hor=>(ho.2 b (avA hb hw.1)).trans (hw.2 b hb hor)⟩) (hinv.elim (fun h=>.inl h.1) (fun h=>.inr h.1)) hclo hns m' hm'
   split at h
   ·rename_i hrd
    exact zP hrd (ih _ _ h G w a ats fn hc hfn) _
   ·rename_i rs hrd
    split at h<;>try (cases h;done)
    rename_i hlen
    have hlen:=at6 hlen
    obtain⟨m'',rfl⟩:∃m'',m'=m''+1:=⟨m'-1,by omega⟩
    have hsst:Sst (ao (nth (am F c.f) i)) (Agr rw Hs Gs ws) (mkL (ao (nth (am F c.f) i)).size D) w:=hinv.elim (fun h=>.inl h.1) (fun h=>.inr h.1)
    split at h
    ·rename_i j hj
     obtain⟨j1,o,j2,j3,j4,j5,j6⟩:=Fl hj
     rw[j2]at h
     dsimp only at h
     have hns1:dQ o.op=false:=Lw j3
     have hclo':Clo (ao (nth (am F c.f) i)) (mkL (ao (nth (am F c.f) i)).size (j::D)):=hclo.set j1
     have hinv':(storeDone (ao (nth (am F c.f) i)) (mkL (ao (nth (am F c.f) i)).size (j::D))∧eff=true)∨(Agr rw Hs Gs ws w∧(∀b,b<ws.heap.size→jx c.H G b→jx Hs Gs b)∧(eff=false→c.H=Hs∧G=Gs∧w=ws)∧¬storeDone (ao (nth (am F c.f) i)) (mkL (ao (nth (am F c.f) i)).size (j::D))):=
      hinv.elim (fun h=>.inl ⟨h.1.set j,h.2⟩) fun h=>.inr ⟨h.1,h.2.1,h.2.2.1,fun h'=>h.2.2.2 (h'.unset j2 hns1)⟩
     have take:∀{v:Value},YieldsIf P (ao (nth (am F c.f) i)) (fun w'=>mV o.op=true→Agr rw Hs Gs ws w') o v a→AtG P fn (f0 P F Rt c.fs ats) (am F c.f) (im P fn (f0 P F Rt c.fs ats) (am F c.f) c.K) i (Agr rw Hs Gs ws) m'' (j::D) (a.put o.dst v) w→AtG P fn (f0 P F Rt c.fs ats) (am F c.f) (im P fn (f0 P F Rt c.fs ats) (am F c.f) c.K) i (Agr rw Hs Gs ws) (m''+1) D a w:=by
      intro v hy hk
      cases hl:mV o.op with
      |true=>
       obtain⟨he,haw⟩:=j4 hl
       obtain⟨hagr,_,_,hun⟩:=hinv.resolve_left (fun h=>by rw[he]at h;cases h.2)
       have hy':YieldsIf P (ao (nth (am F c.f) i)) (Agr rw Hs Gs ws) o v a:=hy.imp (fun h=>⟨h.1,fun w' hS=>h.2 w' fun _=>hS⟩) id
       exact Oc j2 (awJ hns) (fun cc a w hq=>nK _ cc a _ _ w hq) hns1 haw m'' _ a w (avF j2 j6) hclo hun j1 hy' hagr hk
      |false=>
       have hy':YieldsIf P (ao (nth (am F c.f) i)) (fun _=>True) o v a:=hy.imp (fun h=>⟨h.1,fun w' _=>h.2 w' fun h'=>by rw[hl]at h';cases h'⟩) id
       exact HH j2 (awJ hns) (fun cc a w hq=>nK _ cc a _ _ w hq) hns1 m'' _ a w (avF j2 j6) j1 hy' hsst hk
     rcases fk hc.fr h with⟨L1,h1,hf1,hw⟩|⟨L1,h1,hf1,hw⟩
     ·obtain⟨s,v,h2,h3,h4⟩:=mK hT hc.sr hf1 h1
      split at h2<;>try (cases h2;done)
      rename_i L2 hp
      refine take (v:=v) (.inl ⟨hw,fun w' hS=>h4 w' fun hl=>?_⟩) ?_
      ·obtain⟨he,_⟩:=j4 hl
       obtain⟨_,_,heff,_⟩:=hinv.resolve_left (fun h=>by rw[he]at h;cases h.2)
       obtain⟨e1,e2,e3⟩:=heff he
       rw[e1,e2,e3]
       exact hS hl
      ·exact ih _ _ h2 G w (a.put o.dst v) ats fn ⟨hc.sr,hf1.put hp h3,hc.fl,hc.frs⟩ hfn Hs Gs ws hinv' hclo' hns m'' (by simp;omega)
     ·split at h1<;>try (cases h1;done)
      rename_i L2 hp
      refine take (v:=undef) (.inr ⟨hw,rfl⟩) ?_
      exact ih _ _ h1 G w (a.put o.dst undef) ats fn ⟨hc.sr,hf1.put hp rfl,hc.fl,hc.frs⟩ hfn Hs Gs ws hinv' hclo' hns m'' (by simp;omega)
    ·refine sX (rs:=Region.ready .any (ao (nth (am F c.f) i)) (mkL (ao (nth (am F c.f) i)).size D)) rfl (by assumption) fun k hk=>?_
     have h:=AZ h k hk
     split at h<;>try (cases h;done)
     rename_i o j2
     have hclo':Clo (ao (nth (am F c.f) i)) (mkL (ao (nth (am F c.f) i)).size (k::D)):=hclo.set hk
     have hsst':Sst (ao (nth (am F c.f) i)) (Agr rw Hs Gs ws) (mkL (ao (nth (am F c.f) i)).size (k::D)) w:=hsst.set k
     have sdone:dQ o.op=true→storeDone (ao (nth (am F c.f) i)) (mkL (ao (nth (am F c.f) i)).size (k::D)):=fun h=>⟨k,o,j2,h,iV _ _⟩
     have hinv':dQ o.op=false→(storeDone (ao (nth (am F c.f) i)) (mkL (ao (nth (am F c.f) i)).size (k::D))∧eff=true)∨(Agr rw Hs Gs ws w∧(∀b,b<ws.heap.size→jx c.H G b→jx Hs Gs b)∧(eff=false→c.H=Hs∧G=Gs∧w=ws)∧¬storeDone (ao (nth (am F c.f) i)) (mkL (ao (nth (am F c.f) i)).size (k::D))):=
      fun hns1=>hinv.elim (fun h=>.inl ⟨h.1.set k,h.2⟩) fun h=>.inr ⟨h.1,h.2.1,h.2.2.1,fun h'=>h.2.2.2 (h'.unset j2 hns1)⟩
     unfold wpOp
     simp only[j2]
     rcases fk hc.fr h with⟨L1,h1,hf1,hw⟩|⟨L1,h1,hf1,hw⟩
     ·rw[auv hw]
      refine .inl ?_
      unfold Oper.wp
      split at h1
      ·rename_i hq
       have hns1:dQ o.op=false:=Lw hq
       obtain⟨s,v,h2,h3,h4⟩:=mK hT hc.sr hf1 h1
       split at h2<;>try (cases h2;done)
       rename_i L2 hp
       rw[h4 w (fun _=>Agr.refl)]
       exact⟨hsst',ih _ _ h2 G w (a.put o.dst v) ats fn ⟨hc.sr,hf1.put hp h3,hc.fl,hc.frs⟩ hfn Hs Gs ws (hinv' hns1) hclo' hns m'' (by simp;omega)⟩
      ·split at h1<;>try (cases h1;done)
       rename_i hcond
       simp only[awb]at hcond
       obtain⟨hst1,hst2⟩:=hcond
       simp only[Bool.and_eq_false_iff]at hst2
       refine uI hT hE hI hc.sr hf1 h1 fun s H' L2 G' w' v h2 h3 h4 h5 h6=>?_
       split at h2<;>try (cases h2;done)
       rename_i L3 hp
       have hcr:CR Z F w0 {c with L:=L3,H:=H'} G' w' (a.put o.dst v) ats:=⟨h3,h4.put hp h5,auh hc.fl h6.len,hc.frs.evF h6.pres (at5 _)⟩
       cases hiss:dQ o.op with
       |true=>exact⟨.inl (sdone hiss),ih _ _ h2 G' w' (a.put o.dst v) ats fn hcr hfn Hs Gs ws (.inl ⟨sdone hiss,rfl⟩) hclo' hns m'' (by simp;omega)⟩
       |false=>
        rcases hinv with hinv|⟨hagr,hrows,heff,hun⟩
        ·exact⟨.inl (hinv.1.set k),ih _ _ h2 G' w' (a.put o.dst v) ats fn hcr hfn Hs Gs ws (.inl ⟨hinv.1.set k,rfl⟩) hclo' hns m'' (by simp;omega)⟩
        ·have hag:=h6.agr.resolve_left (by rw[hiss,hst1];simp)
         have hagr':Agr rw Hs Gs ws w':=by
          refine⟨auh hagr.1 hag.1.1,fun b hb hor=>?_⟩
          rw[←hagr.2 b hb hor]
          refine hag.1.2 b (avA hb hagr.1) ?_
          rcases hst2 with h7|h7
          ·left;rw[h7];rfl
          ·right
           rcases hor with hor|hor
           ·rw[h7]at hor;cases hor
           ·exact fun hx=>hor (hrows b hb hx)
         exact⟨.inr hagr',ih _ _ h2 G' w' (a.put o.dst v) ats fn hcr hfn Hs Gs ws (.inr ⟨hagr',fun b hb hx=>hrows b hb (hag.2 b (avA hb hagr.1) hx),(fun e=>by cases e),fun h'=>hun (h'.unset j2 hiss)⟩) hclo' hns m'' (by simp;omega)⟩
     ·rw[aum (by rw[hw];simp)]
      split at h1<;>try (cases h1;done)
      rename_i L2 hp
      refine⟨hsst',ih _ _ h1 G w (a.put o.dst undef) ats fn ⟨hc.sr,hf1.put hp rfl,hc.fl,hc.frs⟩ hfn Hs Gs ws ?_ hclo' hns m'' (by simp;omega)⟩
      cases hiss:dQ o.op with
      |true=>exact .inl ⟨sdone hiss,by simp⟩
      |false=>simpa using hinv' hiss
  ·-- tam
   rename_i i D
   clear h
   simp only[jF]
   intro hD0 hns
   subst hD0
   have hlow:∀t s,aV c.L t=some s→s.refsT c.H.length=true:=fun t s hs=>by
    obtain⟨v,_,hv⟩:=hc.fr.slot t s hs
    exact jY hc.sr hv
   obtain⟨la,ss,hp,hnew,hrun⟩:=KX hT hE (c:=c) (m+1) [] c.L h0 (by rw[Ij];rfl) (fun j hj=>by cases hj) hlow tM
   obtain⟨G1,g1,g2,g3⟩:=yU (dn (mkL (ao (nth (am F c.f) i)).size [])) (la:=la) (fun x hx=>by
    obtain⟨⟨o,ho,_⟩,_⟩:=hp.la2 x hx
    exact eW (by simp) (aue.1 ho).1) hc.sr hc.fr
   have hst0:cQ (dn (mkL (ao (nth (am F c.f) i)).size [])) ss (c.H++alX (dn (mkL (ao (nth (am F c.f) i)).size [])) la)=c.H++alX (dn (mkL (ao (nth (am F c.f) i)).size [])) la:=ms fun s hs=>by
    obtain⟨⟨o,ho,_⟩,_⟩:=hp.ss1 s hs
    exact eW (by simp) (aue.1 ho).1
   refine TRun.sound (T:=T) (S0:=fun _=>True) (fun _ _ h _=>h) (fun _ _=>trivial) (fl:=c.fl) (X:=fun H G w=>FrsOk Z F H G w c.fl c.fs ats) hT hE hI (awJ hns) (nK _) xJ H3 hp hnew (tw hc.sr) hc.fl (fun H G w H' G' w' hx hp=>hx.ev hp (at5 _)) (fun n l L G w a hf ho hcl hsz hL k1 k2 k3=>?_) _ _ _ hrun tM (by rw[fw]) (fun t s hs=>.inl (hlow t s hs)) G1 w a (by rw[hst0];exact g1) (by rw[hst0];exact g2) (by rw[hst0];exact hc.frs.ev (fun s v h _=>g3 s v h) (at5 _)) trivial
   rcases hf.resolve_right (fun h=>h.1)with⟨D',q,_,e1,rfl,rfl,rfl,e2,e3,e4,e5⟩|⟨D',q,L0,ss',q1,q2,q3,qW,qS,eC,e2,e3,e4,e5,e6,e7,e8⟩|⟨D',q,j,o,_,_,rfl,rfl,rfl,e2,e2',hrd,ho1,e4,e5⟩
   ·rw[show cQ (dn (mkL (ao (nth (am F c.f) i)).size D')) [] (c.H++alX (dn (mkL (ao (nth (am F c.f) i)).size D')) [])=c.H from auz _]at k1 k2 k3
    refine o0 _ _ _ _ (ihs q (by omega) _ _ e5 G w a ats fn ⟨k1,k2,hc.fl,k3⟩ hfn c.H G w (.inr ⟨Agr.refl,fun _ _ hx=>hx,fun _=>⟨rfl,rfl,rfl⟩,?_⟩) hcl hns n e2)
    rintro ⟨s,os,h1,h2,h3⟩
    have hlt:=(aue.1 h1).1
    have:s∈D':=by
     apply aul
     intro hn
     rw[uP hn hlt]at h3
     cases h3
    have:=e3 s this os h1
    rw[h2]at this
    cases this
   ·have hst:cQ (dn l) ss (c.H++alX (dn l) la)=cQ (dn l) ss' (c.H++alX (dn l) la):=by
     rcases qS with⟨_,rfl,h⟩|⟨_,rfl,_⟩
     ·exact(ms (ss:=ss') h).symm
     ·rfl
    rw[hst]at k1 k2 k3
    refine LA (fl:=c.fl) (X:=fun H G w=>FrsOk Z F H G w c.fl c.fs ats) hT hE hI q1 q2 q3 qW (tw hc.sr) e7 hc.fl (by rw[fw]) (fun H G w H' G' w' hx hp=>hx.ev hp (at5 _)) (fun n l G w a r1 r2 r3 r4 r5 r6 u1 u2 u3=>?_) n l e4 hsz e5 e6 hcl G w a k1 (k2.eqv e8) k3
    have hl:l=mkL (ao (nth (am F c.f) i)).size ((la.map (·.i)++ss'.map (·.i))++D'):=by
     refine Array.ext (by rw[r2,fw]) fun k h1 h2=>?_
     rw[show l[k]=l.getD k true by simp[h1],show(mkL (ao (nth (am F c.f) i)).size ((la.map (·.i)++ss'.map (·.i))++D'))[k]=(mkL (ao (nth (am F c.f) i)).size ((la.map (·.i)++ss'.map (·.i))++D')).getD k true by rw[auQ,av6 h2];rfl]
     by_cases hm:k∈(la.map (·.i)++ss'.map (·.i))++D'
     ·rw[xH hm]
      rcases auo.1 hm with hm|hm
      ·exact r4 k hm
      ·have:=r3 k (by rw[gF (by rw[fw,←r2];exact h1)];exact xH hm)
       rw[gF h1]at this;exact this
     ·rw[eW hm (by rw[←r2];exact h1)]
      cases hq:l.getD k true with
      |false=>rfl
      |true=>
       exfalso
       rw[auo,not_or]at hm
       rcases r5 k hq with h|h
       ·rw[eW hm.2 (by rw[←r2];exact h1)]at h;cases h
       ·exact hm.1 h
    subst hl
    have hcu:=Ic (ao (nth (am F c.f) i)).size ((la.map (·.i)++ss'.map (·.i))++D')
    refine yD ((ao (nth (am F c.f) i)).size-((la.map (·.i)++ss'.map (·.i))++D').length) n _ _ _ (by omega) (o0 _ _ _ _ (ihs q (by omega) _ _ e3 G w a ats fn ⟨u1,u2,by rw[pg,aus];exact auh hc.fl (Nat.le_add_right _ _),u3⟩ hfn (cQ (fun _=>true) ss' (c.H++alX (fun _=>true) la)) G w ?_ r6 hns ((ao (nth (am F c.f) i)).size-((la.map (·.i)++ss'.map (·.i))++D').length) (awr eC)))
    by_cases hsd:storeDone (ao (nth (am F c.f) i)) (mkL (ao (nth (am F c.f) i)).size ((la.map (·.i)++ss'.map (·.i))++D'))
    ·exact .inl ⟨hsd,rfl⟩
    ·exact .inr ⟨Agr.refl,fun _ _ hx=>hx,fun e=>(by cases e),hsd⟩
   ·rw[show cQ (dn (mkL (ao (nth (am F c.f) i)).size D')) [] (c.H++alX (dn (mkL (ao (nth (am F c.f) i)).size D')) [])=c.H from auz _]at k1 k2 k3
    have hjr:j∈Region.ready .any (ao (nth (am F c.f) i)) (mkL (ao (nth (am F c.f) i)).size D'):=by rw[hrd];simp
    obtain⟨n',rfl⟩:∃n',n=n'+1:=⟨n-1,by omega⟩
    have hn':n'=(ao (nth (am F c.f) i)).size-(j::D').length:=by simp;omega
    refine sX hrd (by simp) fun k hk=>?_
    have hk:k=j:=by simpa using hk
    subst hk
    unfold wpOp
    simp only[ho1]
    rcases fk k2 e5 with⟨L1,h1,hf1,hw⟩|⟨L1,h1,hf1,hw⟩
    ·rw[auv hw]
     refine .inl ?_
     unfold Oper.wp
     split at h1<;>try (cases h1;done)
     rename_i g ss hin
     obtain⟨f,args,tys,fg,caps,e1,e2,e3,e4,e5,e6,e7⟩:=Dq hf1 hin
     have hcl2:eu P g=true:=by unfold eu;rw[hF g fg e2];simp only[e6,e7,atY]
     rw[kn hcl2 a.eval o f args tys caps e1 e3 w]
     obtain⟨B,hB⟩:=auZ.1 e7
     have hbf:am F g=B:=by simp[am,e2,hB]
     have hcal:Calls P g (args.map a.eval++caps) w (f0 P F Rt ({f:=c.f,K:=c.K,i:=i,k:=k,L:=AA N c.f i L1,fl:=c.fl,d:=some (k::D')}::c.fs) (a::ats)):=by
      have hto:args.map a.eval++caps=(args.map a.eval++caps).toList.toArray:=by simp
      rw[hto]
      refine enter (hF g fg e2) hB (aux (by rw[←eT e4];exact e5)) fun a2 hst=>?_
      have:=ihs q (by omega) _ _ h1 G w a2 (a::ats) fg ⟨k1,⟨hst.defers,by rw[hst.size];simp[ntm,e2],mL e4 hst.slot⟩,at5 _,⟨⟨hf1.defers,hf1.size,fun t s hs=>hf1.slot t s (j7 hs)⟩,fun t s hs=>by obtain⟨v,_,hv⟩:=hf1.slot t s (j7 hs);exact jY k1 hv,⟨hc.fl,⟨fn,hfn⟩,fun D hD=>by
       injection hD with hD
       subst hD
       exact⟨hcl.set hjr,hns,by simpa using e2'⟩⟩,k3⟩⟩ e2
      simp only[jF,im]at this
      rw[hbf]at this
      exact this
     refine Calls.mono hcal ?_
     rintro e w' ⟨v,rfl,fn',o',q1,q2,_,q3⟩
     have q3:=q3 _ rfl
     simp only at q1 q2 q3
     rw[hfn]at q1
     injection q1 with q1
     subst q1
     rw[ho1]at q2
     injection q2 with q2
     subst q2
     refine⟨.inr trivial,?_⟩
     rw[hn']
     exact q3
    ·rw[aum (by rw[hw];simp)]
     split at h1<;>try (cases h1;done)
     rename_i L2 hp2
     refine⟨.inr trivial,?_⟩
     rw[hn']
     exact ihs q (by omega) _ _ h1 G w (a.put o.dst undef) ats fn ⟨k1,hf1.put hp2 rfl,hc.fl,k3⟩ hfn (fun _=>True) (fun _ _ _ _=>trivial) (.inr trivial) (hcl.set hjr) hns _ (awr (by simpa using e2'))
  ·-- tbx
   rename_i i D
   clear h
   simp only[jF]
   intro hD0 hns
   subst hD0
   have hlow:∀t s,aV c.L t=some s→s.refsT c.H.length=true:=fun t s hs=>by
    obtain⟨v,_,hv⟩:=hc.fr.slot t s hs
    exact jY hc.sr hv
   obtain⟨la,ss,Φ,hstr,hp,hnew,hdd,hrun⟩:=acw hT hE (c:=c) (m+1) [] c.L c.H h0 (by rw[Ij];rfl) (fun j hj=>by cases hj) hlow tM
   obtain⟨G1,g1,g2,g3⟩:=yU (dn (mkL (ao (nth (am F c.f) i)).size [])) (la:=la) (fun x hx=>by
    obtain⟨⟨o,ho,_⟩,_⟩:=hp.la2 x hx
    exact eW (by simp) (aue.1 ho).1) hc.sr hc.fr
   have hst0:cQ (dn (mkL (ao (nth (am F c.f) i)).size [])) ss (c.H++alX (dn (mkL (ao (nth (am F c.f) i)).size [])) la)=c.H++alX (dn (mkL (ao (nth (am F c.f) i)).size [])) la:=ms fun s hs=>by
    obtain⟨⟨o,ho,_⟩,_⟩:=hp.ss1 s hs
    exact eW (by simp) (aue.1 ho).1
   have hml:(c.H.map ddJ).length=c.H.length:=avh _
   have hlen:(Φ c.H).length=c.H.length:=by rw[←avh (f:=ddJ),hdd,hml]
   have hlowΦ:nw (Φ c.H).length (Φ c.H):=by rw[hlen];exact L9 (by rw[hdd];exact G8 (tw hc.sr))
   have hlate:∀(j:Nat) (oj:Oper),(ao (nth (am F c.f) i))[j]?=some oj→bL oj=true→eV E (ao (nth (am F c.f) i)) j=false:=fun j oj hoj hal=>by
    unfold eV
    rw[hoj]
    dsimp only
    rw[hal]
    simp
   have hclΦ:c.fl≤(Φ c.H).length:=by rw[hlen];exact hc.fl
   refine TRunB.sound (T:=T) (Hf:=Φ c.H) (fl:=c.fl) (X:=fun H G w=>FrsOk Z F H G w c.fl c.fs ats) hT hE hI (fun n l L j oj hf hcl hj ho hoj hal=>?_) (fun hlo=>by rw[hstr]at hlo;cases hlo) hp (fun s hs=>by rw[hml];exact hnew s hs) (by rw[hml];exact G8 (tw hc.sr)) (by rw[hml];exact hc.fl) (fun H G w H' G' w' hx hp=>hx.ev hp (at5 _)) (fun n l L G w a ho hf hcl hsz hL k1 k2 k3=>?_) _ _ _ _ hrun c.H rfl rfl tM (by rw[fw]) (fun t s hs=>.inl (by rw[hml];exact hlow t s hs)) G1 w a (by rw[hst0];exact g1) (by rw[hst0];exact g2) (by rw[hst0];exact hc.frs.ev (fun s v h _=>g3 s v h) (at5 _))
   ·obtain⟨n',r',x,L',e1,e2,e3,e4,e5,e6,e7,e8⟩:=xJ n l L j oj hf hj ho hoj hal
    have hon:=AD ho j (hlate j oj hoj hal)
    exact⟨n',r',x,L',e1,e2,e3,e4,e5,e6,(by rw[hml,←hlen];exact e7),hon,e8.fin hon (hcl.set hj)⟩
   have hnewΦ:∀s∈ss,(Φ c.H).length≤s.j:=fun s hs=>by rw[hlen];exact hnew s hs
   have hpΦ:PlanOk T (ao (nth (am F c.f) i)) (ntm F c.f) (Φ c.H) la ss:=un hp (fun s hs=>by rw[hml];exact hnew s hs) (by rw[hml];exact hlen)
   rcases hf with⟨D',q,_,e1,rfl,rfl,rfl,e2,e3,e4,e5⟩|⟨D',q,L0,ss',q1,q2,q3,qW,qS,eC,e2,e3,e4,e5,e6,e7,e8⟩|⟨D',q,j,o,_,_,rfl,rfl,rfl,e2,e2',hrd,ho1,e4,e5⟩
   ·rw[show cQ (dn (mkL (ao (nth (am F c.f) i)).size D')) [] ((Φ c.H)++alX (dn (mkL (ao (nth (am F c.f) i)).size D')) [])=(Φ c.H) from auz _]at k1 k2 k3
    refine o0 _ _ _ _ (ihs q (by omega) _ _ e5 G w a ats fn ⟨k1,k2,hclΦ,k3⟩ hfn (Φ c.H) G w (.inr ⟨Agr.refl,fun _ _ hx=>hx,fun _=>⟨rfl,rfl,rfl⟩,?_⟩) hcl hns n e2)
    rintro ⟨s,os,h1,h2,h3⟩
    have hlt:=(aue.1 h1).1
    have:s∈D':=by
     apply aul
     intro hn
     rw[uP hn hlt]at h3
     cases h3
    have:=e3 s this os h1
    rw[h2]at this
    cases this
   ·have hst:cQ (dn l) ss ((Φ c.H)++alX (dn l) la)=cQ (dn l) ss' ((Φ c.H)++alX (dn l) la):=by
     rcases qS with⟨_,rfl,h⟩|⟨_,rfl,_⟩
     ·exact(ms (ss:=ss') h).symm
     ·rfl
    rw[hst]at k1 k2 k3
    refine LA (fl:=c.fl) (X:=fun H G w=>FrsOk Z F H G w c.fl c.fs ats) hT hE hI q1 q2 q3 qW hlowΦ e7 hclΦ (by rw[fw]) (fun H G w H' G' w' hx hp=>hx.ev hp (at5 _)) (fun n l G w a r1 r2 r3 r4 r5 r6 u1 u2 u3=>?_) n l e4 hsz e5 e6 hcl G w a k1 (k2.eqv e8) k3
    have hl:l=mkL (ao (nth (am F c.f) i)).size ((la.map (·.i)++ss'.map (·.i))++D'):=by
     refine Array.ext (by rw[r2,fw]) fun k h1 h2=>?_
     rw[show l[k]=l.getD k true by simp[h1],show(mkL (ao (nth (am F c.f) i)).size ((la.map (·.i)++ss'.map (·.i))++D'))[k]=(mkL (ao (nth (am F c.f) i)).size ((la.map (·.i)++ss'.map (·.i))++D')).getD k true by rw[auQ,av6 h2];rfl]
     by_cases hm:k∈(la.map (·.i)++ss'.map (·.i))++D'
     ·rw[xH hm]
      rcases auo.1 hm with hm|hm
      ·exact r4 k hm
      ·have:=r3 k (by rw[gF (by rw[fw,←r2];exact h1)];exact xH hm)
       rw[gF h1]at this;exact this
     ·rw[eW hm (by rw[←r2];exact h1)]
      cases hq:l.getD k true with
      |false=>rfl
      |true=>
       exfalso
       rw[auo,not_or]at hm
       rcases r5 k hq with h|h
       ·rw[eW hm.2 (by rw[←r2];exact h1)]at h;cases h
       ·exact hm.1 h
    subst hl
    have hcu:=Ic (ao (nth (am F c.f) i)).size ((la.map (·.i)++ss'.map (·.i))++D')
    refine yD ((ao (nth (am F c.f) i)).size-((la.map (·.i)++ss'.map (·.i))++D').length) n _ _ _ (by omega) (o0 _ _ _ _ (ihs q (by omega) _ _ e3 G w a ats fn ⟨u1,u2,by rw[pg,aus];exact auh hclΦ (Nat.le_add_right _ _),u3⟩ hfn (cQ (fun _=>true) ss' ((Φ c.H)++alX (fun _=>true) la)) G w ?_ r6 hns ((ao (nth (am F c.f) i)).size-((la.map (·.i)++ss'.map (·.i))++D').length) (awr eC)))
    by_cases hsd:storeDone (ao (nth (am F c.f) i)) (mkL (ao (nth (am F c.f) i)).size ((la.map (·.i)++ss'.map (·.i))++D'))
    ·exact .inl ⟨hsd,rfl⟩
    ·exact .inr ⟨Agr.refl,fun _ _ hx=>hx,fun e=>(by cases e),hsd⟩
   ·rw[show cQ (dn (mkL (ao (nth (am F c.f) i)).size D')) [] ((Φ c.H)++alX (dn (mkL (ao (nth (am F c.f) i)).size D')) [])=(Φ c.H) from auz _]at k1 k2 k3
    have e2:n+D'.length=(ao (nth (am F c.f) i)).size:=e2
    have e2':D'.length+1≤(ao (nth (am F c.f) i)).size:=e2'
    have hjr:j∈Region.ready .any (ao (nth (am F c.f) i)) (mkL (ao (nth (am F c.f) i)).size D'):=by rw[hrd];simp
    obtain⟨n',rfl⟩:∃n',n=n'+1:=⟨n-1,by omega⟩
    have hn':n'=(ao (nth (am F c.f) i)).size-(j::D').length:=by simp;omega
    refine sX hrd (by simp) fun k hk=>?_
    have hk:k=j:=by simpa using hk
    subst hk
    unfold wpOp
    simp only[ho1]
    rcases fk k2 e5 with⟨L1,h1,hf1,hw⟩|⟨L1,h1,hf1,hw⟩
    ·rw[auv hw]
     refine .inl ?_
     unfold Oper.wp
     split at h1<;>try (cases h1;done)
     rename_i g ss hin
     obtain⟨f,args,tys,fg,caps,e1,e2,e3,e4,e5,e6,e7⟩:=Dq hf1 hin
     have hcl2:eu P g=true:=by unfold eu;rw[hF g fg e2];simp only[e6,e7,atY]
     rw[kn hcl2 a.eval o f args tys caps e1 e3 w]
     obtain⟨B,hB⟩:=auZ.1 e7
     have hbf:am F g=B:=by simp[am,e2,hB]
     have hcal:Calls P g (args.map a.eval++caps) w (f0 P F Rt ({f:=c.f,K:=c.K,i:=i,k:=k,L:=AA N c.f i L1,fl:=c.fl,d:=some (k::D')}::c.fs) (a::ats)):=by
      have hto:args.map a.eval++caps=(args.map a.eval++caps).toList.toArray:=by simp
      rw[hto]
      refine enter (hF g fg e2) hB (aux (by rw[←eT e4];exact e5)) fun a2 hst=>?_
      have:=ihs q (by omega) _ _ h1 G w a2 (a::ats) fg ⟨k1,⟨hst.defers,by rw[hst.size];simp[ntm,e2],mL e4 hst.slot⟩,at5 _,⟨⟨hf1.defers,hf1.size,fun t s hs=>hf1.slot t s (j7 hs)⟩,fun t s hs=>by obtain⟨v,_,hv⟩:=hf1.slot t s (j7 hs);exact jY k1 hv,⟨hclΦ,⟨fn,hfn⟩,fun D hD=>by
       injection hD with hD
       subst hD
       exact⟨hcl.set hjr,hns,by simpa using e2'⟩⟩,k3⟩⟩ e2
      simp only[jF,im]at this
      rw[hbf]at this
      exact this
     refine Calls.mono hcal ?_
     rintro e w' ⟨v,rfl,fn',o',q1,q2,_,q3⟩
     have q3:=q3 _ rfl
     simp only at q1 q2 q3
     rw[hfn]at q1
     injection q1 with q1
     subst q1
     rw[ho1]at q2
     injection q2 with q2
     subst q2
     refine⟨.inr trivial,?_⟩
     rw[hn']
     exact q3
    ·rw[aum (by rw[hw];simp)]
     split at h1<;>try (cases h1;done)
     rename_i L2 hp2
     refine⟨.inr trivial,?_⟩
     rw[hn']
     exact ihs q (by omega) _ _ h1 G w (a.put o.dst undef) ats fn ⟨k1,hf1.put hp2 rfl,hclΦ,k3⟩ hfn (fun _=>True) (fun _ _ _ _=>trivial) (.inr trivial) (hcl.set hjr) hns _ (awr (by simpa using e2'))
  ·-- tal
   rename_i i D
   clear h
   simp only[jF]
   intro S0 hS0 hSt hclo hns m' hm'
   have hlow:∀t s,aV c.L t=some s→s.refsT c.H.length=true:=fun t s hs=>by
    obtain⟨v,_,hv⟩:=hc.fr.slot t s hs
    exact jY hc.sr hv
   have hrun:=aaK hT hE (c:=c) (m+1) D c.L h0 (by omega)
   have e:m'=(ao (nth (am F c.f) i)).size-D.length:=by omega
   subst e
   have key:∀S1:World→Prop,(∀w w',S1 w→Old w w'→S1 w')→S1 w→wpG P (ao (nth (am F c.f) i)) (iD P fn (f0 P F Rt c.fs ats) (am F c.f) (im P fn (f0 P F Rt c.fs ats) (am F c.f) c.K)) S1 ((ao (nth (am F c.f) i)).size-D.length) (mkL (ao (nth (am F c.f) i)).size D) a w:=fun S1 hS1 hw1=>by
    refine TRun.sound (T:=T) (S0:=S1) (la:=[]) (ss:=[]) hS1 (fun h=>(h rfl).elim) (fl:=c.fl) (X:=fun H G w=>FrsOk Z F H G w c.fl c.fs ats) hT hE hI (awJ hns) (nK _) (fun _ _ _ _ _ h=>h.elim) (fun _ _ _ _ _ _ h=>h.elim) (N:=ntm F c.f) ⟨List.Pairwise.nil,fun a ha=>(by cases ha),fun s hs=>(by cases hs),List.Pairwise.nil⟩ (fun s hs=>by cases hs) (tw hc.sr) hc.fl (fun H G w H' G' w' hx hp=>hx.ev hp (at5 _)) (fun n l L G w a hf ho hcl hsz hL k1 k2 k3=>?_) _ _ _ hrun hclo (by rw[fw]) (fun t s hs=>.inl (hlow t s hs)) G w a (by rw[show cQ (dn (mkL (ao (nth (am F c.f) i)).size D)) [] (c.H++alX (dn (mkL (ao (nth (am F c.f) i)).size D)) [])=c.H from auz _];exact hc.sr) (by rw[show cQ (dn (mkL (ao (nth (am F c.f) i)).size D)) [] (c.H++alX (dn (mkL (ao (nth (am F c.f) i)).size D)) [])=c.H from auz _];exact hc.fr) (by rw[show cQ (dn (mkL (ao (nth (am F c.f) i)).size D)) [] (c.H++alX (dn (mkL (ao (nth (am F c.f) i)).size D)) [])=c.H from auz _];exact hc.frs) hw1
    rcases hf with h|⟨⟨q,hq,hgo⟩,hrd⟩
    ·exact h.elim
    ·rw[show cQ (dn l) [] (c.H++alX (dn l) [])=c.H from auz _]at k1 k2 k3
     exact zP hrd (ihs q (by omega) _ _ hgo G w a ats fn ⟨k1,k2,hc.fl,k3⟩ hfn) _
   rcases hSt with h|h
   ·exact X6 _ _ _ _ h (key (fun _=>True) (fun _ _ _ _=>trivial) trivial)
   ·exact key S0 hS0 h
  ·-- ret
   simp only[jF]
   rw[hfn]at h
   dsimp only at h
   split at h<;>try (cases h;done)
   rename_i ss hss
   split at h
   ·rename_i hfs
    rw[hfs]
    have hats:ats=[]:=by
     have:=hc.frs
     rw[hfs]at this
     cases ats with
     |nil=>rfl
     |cons=>exact this.elim
    subst hats
    exact Y1 hT hc.sr hc.fr hss fun vs hvs=>hRt vs _ _ _ _ _ h hc.sr hvs
   ·rename_i fm fs hfs
    split at h<;>try (cases h;done)
    rename_i o ho
    split at h<;>try (cases h;done)
    rename_i L2 hp hgood
    have hfrs:=hc.frs
    rw[hfs]at hfrs ⊢
    match ats,hfrs with
    |a0::ats,⟨k1,k2,k3,k4⟩=>
     obtain⟨k3,⟨fn',hfn'⟩,k5⟩:=k3
     refine Y1 hT hc.sr hc.fr hss fun vs hvs=>⟨_,rfl,fn',o,hfn',ho,?_⟩
     have hb:=X3 (fun s hs l e=>by subst e;have:=aun.1 hgood _ hs;simp[SV.good]at this) hvs
     split at h
     ·rename_i hd
      exact⟨fun _=>ih _ _ h G w (a0.put o.dst _) ats fn' ⟨hc.sr,k1.put hp hb,auh k3 hc.fl,k4⟩ hfn',fun D hD=>(by rw[hd]at hD;cases hD)⟩
     ·rename_i D hd
      refine⟨fun hD=>(by rw[hd]at hD;cases hD),fun D' hD=>?_⟩
      rw[hd]at hD
      injection hD with hD
      subst hD
      obtain⟨d1,d2,d3⟩:=k5 D hd
      exact ih _ _ h G w (a0.put o.dst _) ats fn' ⟨hc.sr,k1.put hp hb,auh k3 hc.fl,k4⟩ hfn' (fun _=>True) (fun _ _ _ _=>trivial) (.inr trivial) d1 d2 _ (awr d3)
end
end
structure Ctx where
 P:Program
 F:FT
 T:TT
 E:Env
 N:NT
structure Ctx.Ok (C:Ctx):Prop where
 T:fc C.P C.T=true
 E:ld C.P C.E
 F:∀f fn,gQ C.F f=some fn→C.P.funcs[f]?=some fn
 m:C.P.follows .mixedOrders=true
def Ctx.k(C:Ctx)(n:Nat):Nat→Cfg→Option (List RV):=run C.P C.F C.T C.E C.N n
def Ctx.Runs(C:Ctx)(i:Nat)(c:Cfg)(r:List RV):Prop:=∃n,C.k n i c=some r
def Ctx.RunsE(C:Ctx)(i:Nat)(c:Cfg)(r:List RV):Prop:=∃n0,∀n,n0≤n→C.k n i c=some r
def Ctx.go(C:Ctx)(n:Nat)(c:Cfg)(p:Pos):Option (List RV):=Proofs.YtgddhgcjmddjfaaGreat.go C.P C.F C.T C.E C.N (C.k n) 4000 c p
def Ctx.Res(C:Ctx)(f:Nat)(args:List SV)(r:List RV):Prop:=∃n,C.go n (Fh f args) (.node 0)=some r
theorem Ctx.Runs.step{C:Ctx}{i:Nat}{c:Cfg}{r:List RV}(h:∃n,C.go n {c with K:=.lp i::c.K} (.node (i+1))=some r):C.Runs i c r:=by
 obtain⟨n,h⟩:=h
 exact⟨n+1,h⟩
def okF(fn:Func)(k:Nat):Bool:=fn.body.isSome&&Nat.ble k fn.ntmps
theorem Ob{C:Ctx}(ok:C.Ok){Z:Nat→Prop}{w0:World}(hI:inv w0){Rt:Ending→World→Prop}{r:List RV}(hRt:∀vs H G w ss tys,Ao C.T H ss tys=some r→SR Z w0 H G w→cJ (Rel G (Av Z H G) w) ss vs→Rt (.returned (lW vs)) w):
  ∀n i c G w a ats fn,run C.P C.F C.T C.E C.N n i c=some r→CR Z C.F w0 c G w a ats→gQ C.F c.f=some fn→InLoop C.P (nth (am C.F c.f) (i+1)) (iD C.P fn (f0 C.P C.F Rt c.fs ats) (am C.F c.f) (im C.P fn (f0 C.P C.F Rt c.fs ats) (am C.F c.f) c.K)) a w:=by
 intro n
 induction n with
 |zero=>intro i c G w a ats fn h;simp[run]at h
 |succ n ih=>
  intro i c G w a ats fn h hc hfn
  simp only[run]at h
  have:=E3 ok.T ok.E hI ok.F ok.m hRt (fun i c G w a ats fn h1 h2 h3=>ih i c G w a ats fn h1 h2 h3) 4000 _ _ h G w a ats fn ⟨hc.sr,hc.fr,hc.fl,hc.frs⟩ hfn
  exact InLoop.step this
theorem Ctx.Res.con{C:Ctx}(ok:C.Ok){f:Nat}{fn:Func}{args:List SV}{r:List RV}(h:C.Res f args r)(hfn:gQ C.F f=some fn)(hk:okF fn args.length=true):Con C.P f args r:=by
 intro A w vs hI ha
 obtain⟨n,h⟩:=h
 simp only[okF,at3]at hk
 obtain⟨B,hB⟩:=auZ.1 hk.1
 have hbf:am C.F f=B:=by simp[am,hfn,hB]
 let Z:Nat→Prop:=fun b=>A b∨w.heap.size≤b
 have hkp:Keeps A (Av Z [] []) w w:=⟨at5 _,fun b _ hA=>⟨.inl hA,fun j it g h=>by simp at h⟩,fun _ _ _=>rfl⟩
 have ha2:cJ (Rel [] (Av Z [] []) w) args vs:=cg (fun s v h=>d7 (h.keep hkp fun j g _ h=>h)) ha
 refine enter (ok.F f fn hfn) hB (aux (by rw[←eT ha];exact at6 hk.2)) fun a hst=>?_
 have hsr:SR Z w [] [] w:=⟨rfl,aw0 _ _,fun j it g h=>by simp at h,fun i j it jt g h b _ h1=>by simp at h1,fun b hb=>.inr hb⟩
 let Rt:Ending→World→Prop:=fun e w'=>∃v,e=.returned v∧Below w.heap.size w w'∧Ae Z w.heap.size w' r v
 have hRt:∀vs H G w' ss tys,Ao C.T H ss tys=some r→SR Z w H G w'→cJ (Rel G (Av Z H G) w') ss vs→Rt (.returned (lW vs)) w':=fun vs H G w' ss tys h1 h2 h3=>⟨_,rfl,h2.below,alx ok.T h2 h1 h3⟩
 have:=E3 ok.T ok.E hI ok.F ok.m hRt (fun i c G w a ats fn h1 h2 h3=>Ob ok hI hRt n i c G w a ats fn h1 h2 h3) 4000 _ _ h [] w a [] fn ⟨hsr,⟨hst.defers,by rw[hst.size];simp[ntm,Fh,hfn],mL ha2 hst.slot⟩,at5 _,trivial⟩ hfn
 simp only[jF,im,Fh]at this
 rw[hbf]at this
 exact this
def FtAll(P:Program):FT→Prop
 |[]=>True
 |p::l=>P.funcs[p.1]?=some p.2∧FtAll P l
theorem FtAll.look{P:Program}:∀{l:FT},FtAll P l→∀f fn,gQ l f=some fn→P.funcs[f]?=some fn
 |[],_,f,fn,h=>by simp[gQ]at h
 |(k,x)::l,⟨h1,h2⟩,f,fn,h=>by
  simp only[gQ]at h
  split at h
  ·rename_i hb
   have:=at0 hb
   subst this
   injection h with h
   subst h
   exact h1
  ·exact FtAll.look h2 f fn h
abbrev KT:=Nat→Cfg→Option (List RV)
theorem asP{C:Ctx}{f:Nat}{args:List SV}{t:KT→Option (List RV)}{r:List RV}(e:∀k,go2 C.P C.F C.T C.E C.N k 4000 (Fh f args) (.node 0)=t k)(h:∃n,t (C.k n)=some r):C.Res f args r:=by
 obtain⟨n,h⟩:=h
 exact⟨n,(Et _ _ _ _ _ _ _ _ _).symm.trans ((e _).trans h)⟩
theorem asS{C:Ctx}{i:Nat}{c:Cfg}{t:KT→Option (List RV)}{r:List RV}(e:∀k,go2 C.P C.F C.T C.E C.N k 4000 {c with K:=.lp i::c.K} (.node (i+1))=t k)(h:∃n,t (C.k n)=some r):C.Runs i c r:=by
 obtain⟨n,h⟩:=h
 exact⟨n+1,(Et _ _ _ _ _ _ _ _ _).symm.trans ((e _).trans h)⟩
theorem aoO{C:Ctx}{i:Nat}{c:Cfg}{t:KT→Option (List RV)}{r:List RV}(e:∀k,go2 C.P C.F C.T C.E C.N k 4000 {c with K:=.lp i::c.K} (.node (i+1))=t k)(h:∃n0,∀n,n0≤n→t (C.k n)=some r):C.RunsE i c r:=by
 obtain⟨n0,h⟩:=h
 refine⟨n0+1,fun n hn=>?_⟩
 obtain⟨q,rfl⟩:∃q,n=q+1:=⟨n-1,by omega⟩
 exact(Et _ _ _ _ _ _ _ _ _).symm.trans ((e _).trans (h q (by omega)))
@[reducible] def DT:List Ty→Type
 |[]=>Unit
 |t::r=>t.D×DT r
def MR:(ts:List Ty)→List SV→Option (DT ts)
 |[],l=>match l with
  |[]=>some ()
  |_::_=>none
 |t::r,l=>match l with
  |.d u x::m=>match fM u t x with
   |some y=>match MR r m with
    |some z=>some (y,z)
    |none=>none
   |none=>none
  |_=>none
def svs:(ts:List Ty)→DT ts→List SV
 |[],_=>[]
 |t::r,x=>.d t x.1::svs r x.2
theorem xW:∀{ts:List Ty} {l:List SV} {x:DT ts},MR ts l=some x→l=svs ts x
 |[],l,x,h=>by
  cases l with
  |nil=>rfl
  |cons a b=>cases h
 |t::r,l,x,h=>by
  unfold MR at h
  split at h
  ·split at h
   ·rename_i e1
    split at h
    ·rename_i e2
     injection h with h
     subst h
     obtain⟨rfl,rfl⟩:=dX e1
     rw[xW e2]
     rfl
    ·cases h
   ·cases h
  ·cases h
def spN(keep tame:Bool)(ts:List Ty)(pre:DT ts→Bool)(res:DT ts→List RV):aN:={keep:=keep,tame:=tame,run:=fun _ args k=>match MR ts args with
 |some x=>match pre x with
  |true=>k (res x)
  |false=>none
 |none=>none}
theorem akN{P:Program}{f:Nat}{keep tame:Bool}{ts:List Ty}{pre:DT ts→Bool}{res:DT ts→List RV}(hc:eu P f=true)(h:∀x,pre x=true→Con P f (svs ts x) (res x)):eu P f=true∧C8 P f (spN keep tame ts pre res)∧∀g,(spN keep tame ts pre res).mut_=some g→N8 P f g:=by
 refine⟨hc,fun R args k r e=>?_,fun g e=>by cases e⟩
 unfold spN at e
 dsimp only at e
 split at e
 ·rename_i x e1
  split at e
  ·rename_i e2
   rw[xW e1]
   exact⟨_,e,h x e2⟩
  ·cases e
 ·cases e
theorem bz{x:Int}(h1: -9223372036854775808≤x)(h2:x≤9223372036854775807):i64.wrap x=x:=IntWalk.i64_in x ⟨h1,h2⟩
theorem co{k:Nat}(h:k+1≤9223372036854775807):i64.wrap ((k:Int)+1)=((k+1:Nat):Int):=by rw[bz (by omega) (by omega)];simp
theorem aA{α:Type}(xs:List α)(k:Nat):bi xs (k:Int)=xs[k]?:=by unfold bi;rw[atT (by omega)];rfl
theorem BY{α:Type}(xs:List α):bi xs 0=xs[0]?:=aA xs 0
theorem bS{k n:Nat}(h:k<n):decide ((k:Int)<(n:Int))=true:=atT (by omega)
theorem cz{k n:Nat}(h:n≤k):decide ((k:Int)<(n:Int))=false:=atV (by omega)
theorem jw{α:Type}{xs:List α}{k:Nat}(h:k<xs.length):xs.drop k=xs[k]::xs.drop (k+1):=auk h
theorem uc{α:Type}{xs:List α}{k:Nat}(h:xs.length≤k):xs.drop k=[]:=auY h
theorem aQ(k:Nat):((k:Int)).toNat=k:=avM k
theorem akR{m b:Nat}(hb:b≤1000)(h:m≤1000000):decide ((m+1)*b≤140737488355328∧m+1≤140737488355328)=true:=by
 have:(m+1)*b≤1000001*1000:=av7 (by omega) hb
 exact atT ⟨by omega,by omega⟩
theorem dT{p:Prop}{i:Decidable p}(h:p): @decide p i=true:=atT h
theorem dF{p:Prop}{i:Decidable p}(h:¬p): @decide p i=false:=atV h
def val:List Int→Int
 |[]=>0
 |x::xs=>x+1000000000*val xs
def Lim(l:List Int):Prop:=∀x∈l,0≤x∧x<1000000000
instance (l:List Int):Decidable (Lim l):=by unfold Lim;infer_instance
def pw(n:Nat):Int:=1000000000^n
theorem nI:pw 0=1:=rfl
theorem cB(n:Nat):pw (n+1)=pw n*1000000000:=by simp[pw,Int.pow_succ]
theorem ct(n:Nat):0<pw n:=Int.pow_pos (by decide)
theorem fB(m n:Nat):pw (m+n)=pw m*pw n:=Int.pow_add _ _ _
theorem du{m n:Nat}(h:m≤n):pw m≤pw n:=by
 obtain⟨k,rfl⟩:=Nat.exists_eq_add_of_le h
 rw[fB]
 have h1:=ct m
 have h2:=ct k
 have:=aua (show 1≤pw k by omega) (auH h1)
 omega
theorem Lim.nil:Lim []:=fun _ h=>by cases h
theorem Lim.cons{x:Int}{l:List Int}(h1:0≤x∧x<1000000000)(h2:Lim l):Lim (x::l):=fun y hy=>by
 rcases aud.1 hy with rfl|hy
 ·exact h1
 ·exact h2 y hy
theorem Lim.head{x:Int}{l:List Int}(h:Lim (x::l)):0≤x∧x<1000000000:=h x (by simp)
theorem Lim.tail{x:Int}{l:List Int}(h:Lim (x::l)):Lim l:=fun y hy=>h y (by simp[hy])
theorem Lim.append{a b:List Int}(h1:Lim a)(h2:Lim b):Lim (a++b):=fun y hy=>by
 rcases auo.1 hy with hy|hy
 ·exact h1 y hy
 ·exact h2 y hy
theorem Lim.left{a b:List Int}(h:Lim (a++b)):Lim a:=fun y hy=>h y (by simp[hy])
theorem Lim.right{a b:List Int}(h:Lim (a++b)):Lim b:=fun y hy=>h y (by simp[hy])
theorem Lim.take{a:List Int}(h:Lim a)(n:Nat):Lim (a.take n):=fun y hy=>h y (av9 hy)
theorem Lim.drop{a:List Int}(h:Lim a)(n:Nat):Lim (a.drop n):=fun y hy=>h y (awa hy)
theorem Lim.set{a:List Int}(h:Lim a)(n:Nat){y:Int}(hy:0≤y∧y<1000000000):Lim (a.set n y):=fun z hz=>by
 rcases List.mem_or_eq_of_mem_set hz with hz|rfl
 ·exact h z hz
 ·exact hy
theorem Lim.get{a:List Int}(h:Lim a){n:Nat}(hn:n<a.length):0≤a[n]∧a[n]<1000000000:=h _ (auB hn)
theorem Lim.rep(n:Nat):Lim (List.replicate n 0):=fun y hy=>by
 rw[List.eq_of_mem_replicate hy];decide
theorem dH(a b:List Int):val (a++b)=val a+pw a.length*val b:=by
 induction a with
 |nil=>simp[val,pw]
 |cons x a ih=>
  simp only[List.cons_append,val,ih,aui,cB]
  grind
theorem bg{l:List Int}(h:Lim l):0≤val l:=by
 induction l with
 |nil=>exact Int.le_refl _
 |cons x l ih=>
  have:=ih h.tail
  have:=h.head
  simp only[val]
  omega
theorem cr{l:List Int}(h:Lim l):val l<pw l.length:=by
 induction l with
 |nil=>exact Int.zero_lt_one
 |cons x l ih=>
  have:=ih h.tail
  have:=h.head
  simp only[val,aui,cB]
  omega
theorem CO:∀{a b:List Int},Lim a→Lim b→a.length=b.length→val a=val b→a=b
 |[],[],_,_,_,_=>rfl
 |[],_::_,_,_,h,_=>by simp at h
 |_::_,[],_,_,h,_=>by simp at h
 |x::a,y::b,h1,h2,hl,hv=>by
  have k1:=h1.head
  have k2:=h2.head
  simp only[val]at hv
  have e:x=y:=by omega
  subst e
  rw[CO h1.tail h2.tail (by simpa using hl) (by omega)]
theorem gG(n:Nat):val (List.replicate n 0)=0:=by
 induction n with
 |zero=>rfl
 |succ n ih=>simp[List.replicate_succ,val,ih]
theorem bJ{l:List Int}{n:Nat}(h:n<l.length):val (l.take (n+1))=val (l.take n)+pw n*l[n]:=by
 rw[List.take_succ_eq_append_getElem h,dH]
 simp[val,auF (Nat.le_of_lt h)]
theorem fp:∀{l:List Int} {n:Nat} (h:n<l.length) (y:Int),val (l.set n y)=val l+pw n*(y-l[n])
 |[],_,h,_=>by simp at h
 |x::l,0,_,y=>by simp only[List.set_cons_zero,val,nI,List.getElem_cons_zero];omega
 |x::l,n+1,h,y=>by
  have:=fp (l:=l) (n:=n) (by simpa using h) y
  simp only[List.set_cons_succ,val,this,cB,List.getElem_cons_succ]
  grind
theorem fZ(l:List Int)(n:Nat):val l=val (l.take n)+pw (min n l.length)*val (l.drop n):=by
 have:=dH (l.take n) (l.drop n)
 rw[avp]at this
 rw[this]
 simp
def dig:Nat→Int→List Int
 |0,_=>[]
 |n+1,v=>v%1000000000::dig n (v/1000000000)
theorem iN:∀(n:Nat) (v:Int),(dig n v).length=n
 |0,_=>rfl
 |n+1,v=>by simp[dig,iN n]
theorem nO:∀(n:Nat) (v:Int),Lim (dig n v)
 |0,_=>Lim.nil
 |n+1,v=>Lim.cons (by omega) (nO n _)
theorem gX:∀(n:Nat) (v:Int),0≤v→v<pw n→val (dig n v)=v
 |0,v,h1,h2=>by simp only[nI]at h2;simp only[dig,val];omega
 |n+1,v,h1,h2=>by
  rw[cB]at h2
  simp only[dig,val]
  rw[gX n (v/1000000000) (by omega) (by omega)]
  omega
theorem Cr{l:List Int}{n:Nat}{v:Int}(h:Lim l)(hl:l.length=n)(hv:val l=v):l=dig n v:=by
 subst hl hv
 exact CO h (nO _ _) (iN _ _).symm (gX _ _ (bg h) (cr h)).symm
def lbF:Nat→Nat→List Int
 |0,_=>[]
 |f+1,n=>bif n==0 then []else((n%1000000000:Nat):Int)::lbF f (n/1000000000)
def ah(n:Nat):List Int:=lbF (n.log2+1) n
theorem tn(f:Nat):lbF f 0=[]:=by cases f<;>rfl
theorem Ge:∀(f g n:Nat),n<2^f→n<2^g→lbF f n=lbF g n
 |0,g,n,h,_=>by
  have:n=0:=by simpa using h
  subst this
  rw[tn,tn]
 |f+1,0,n,_,h=>by
  have:n=0:=by simpa using h
  subst this
  rw[tn,tn]
 |f+1,g+1,n,h1,h2=>by
  rw[Nat.pow_succ]at h1 h2
  simp only[lbF]
  rw[Ge f g (n/1000000000) (by omega) (by omega)]
theorem XD{f n:Nat}(h:n<2^f):ah n=lbF f n:=Ge _ _ _ Nat.lt_log2_self h
theorem fq:ah 0=[]:=rfl
theorem gP{n:Nat}(h:n≠0):ah n=((n%1000000000:Nat):Int)::ah (n/1000000000):=by
 have h1:n/1000000000<2^n.log2:=by
  have:=Nat.lt_log2_self (n:=n)
  rw[Nat.pow_succ]at this
  omega
 rw[XD (f:=n.log2) h1]
 unfold ah
 simp only[lbF]
 rw[show(n==0)=false by simpa using h]
 rfl
theorem p7{motive:Nat→Prop}(h0:motive 0)(h1:∀n,n≠0→motive (n/1000000000)→motive n)(n:Nat):motive n:=by
 induction n using Nat.strongRecOn with
 |ind n ih=>
  by_cases hn:n=0
  ·subst hn;exact h0
  ·exact h1 n hn (ih _ (by omega))
theorem cA(n:Nat):Lim (ah n):=by
 induction n using p7 with
 |h0=>exact Lim.nil
 |h1 n hn ih=>rw[gP hn];exact Lim.cons (by omega) ih
theorem bW(n:Nat):val (ah n)=(n:Int):=by
 induction n using p7 with
 |h0=>rfl
 |h1 n hn ih=>rw[gP hn];simp only[val,ih];omega
def can(l:List Int):Prop:=Lim l∧l.getLast?≠some 0
instance (l:List Int):Decidable (can l):=by unfold can;infer_instance
theorem eh(n:Nat):can (ah n):=by
 refine⟨cA n,?_⟩
 induction n using p7 with
 |h0=>simp[fq]
 |h1 n hn ih=>
  rw[gP hn]
  by_cases hz:n/1000000000=0
  ·rw[hz,fq]
   simp
   omega
  ·have hne:ah (n/1000000000)≠[]:=by rw[gP hz];simp
   rw[List.getLast?_cons_of_ne_nil hne]
   exact ih
theorem Lp{x:Int}{l:List Int}(h:can (x::l)):can l:=by
 refine⟨h.1.tail,fun e=>h.2 ?_⟩
 have hne:l≠[]:=fun e'=>by subst e';simp at e
 rw[List.getLast?_cons_of_ne_nil hne]
 exact e
theorem eM:∀{l:List Int},can l→l≠[]→0<val l
 |[],_,h=>by cases h rfl
 |[x],h,_=>by
  have:=h.1.head
  have h2:=h.2
  simp at h2
  simp only[val]
  omega
 |x::y::l,h,_=>by
  have:=eM (Lp h) (by simp)
  have:=h.1.head
  simp only[val]at*
  omega
theorem oG:∀{l:List Int},can l→l=ah (val l).toNat
 |[],_=>rfl
 |x::l,h=>by
  have ih:=oG (Lp h)
  have hp:=eM h (by simp)
  have hx:=h.1.head
  have hn:=bg h.1.tail
  rw[gP (by omega)]
  simp only[val]at hp ⊢
  rw[show(x+1000000000*val l).toNat%1000000000=x.toNat by omega,show(x+1000000000*val l).toNat/1000000000=(val l).toNat by omega,←ih]
  rw[show((x.toNat:Nat):Int)=x by omega]
theorem dt{n k:Nat}(h:(n:Int)<pw k):(ah n).length≤k:=by
 induction k generalizing n with
 |zero=>
  have:n=0:=by simp only[nI]at h;omega
  subst this
  simp[fq]
 |succ k ih=>
  rw[cB]at h
  by_cases hn:n=0
  ·subst hn;simp[fq]
  ·rw[gP hn]
   have:=ih (n:=n/1000000000) (by omega)
   simp;omega
theorem DI{n k:Nat}(h:pw k≤(n:Int)):k<(ah n).length:=by
 rcases auw k (ah n).length with h1|h1
 ·exact h1
 ·have h2:=cr (cA n)
  rw[bW]at h2
  have:=du h1
  omega
theorem gS{n:Nat}:ah n=[]↔n=0:=by
 constructor
 ·intro h
  have:=bW n
  rw[h]at this
  simp[val]at this
  omega
 ·rintro rfl;rfl
def aj(z:Int):Bool×List Int:=(decide (z<0),ah z.natAbs)
def ag(x:Bool×List Int):Int:=bif x.1 then-val x.2 else val x.2
theorem dec_enc(z:Int):ag (aj z)=z:=by
 unfold ag aj
 rw[bW]
 by_cases h:z<0
 ·rw[atT h];simp only[cond_true];omega
 ·rw[atV h];simp only[cond_false];omega
def cH(a b:Int):Int:=bif decide (a<b)then-1 else bif decide (b<a)then 1 else 0
abbrev y0Y:Ty:=.st (.pair .str (.int .u64))
abbrev y1Y:Ty:=.st (.pair (.int .i64) (.int .i64))
abbrev y2Y:Ty:=.st (.pair .bool (.sl (.int .u32)))
abbrev y3Y:Ty:=.st (.pair (.int .i64) (.pair (.int .i64) (.pair .bool (.int .u8))))
abbrev y4Y:Ty:=.st (.pair (.int .i16) (.pair (.int .i16) (.pair (.int .i16) (.pair (.int .i16) (.pair (.int .u16) (.int .u8))))))
abbrev y5Y:Ty:=.st (.pair (.int .u8) (.pair (.int .u8) (.pair (.int .i8) (.pair (.int .i8) (.pair (.int .i8) (.pair (.int .i8) (.pair (.int .i8) (.int .i8))))))))
abbrev y6Y:Ty:=.st (.pair (.st (.pair y2Y y2Y)) (.st (.pair y2Y y2Y)))
abbrev y7Y:Ty:=.st (.pair (.st (.pair y2Y y2Y)) (.pair (.st (.pair y2Y y2Y)) (.st (.pair y2Y y2Y))))
abbrev y8Y:Ty:=.st (.pair y5Y (.pair y5Y (.int .u8)))
abbrev y9Y:Ty:=.st (.pair (.st (.pair y2Y y2Y)) (.pair (.st (.pair y2Y y2Y)) (.pair (.st (.pair y2Y y2Y)) (.pair (.st (.pair y2Y y2Y)) (.st (.pair y2Y y2Y))))))
abbrev amW:Ty:=.st (.pair (.st (.pair y2Y y2Y)) (.pair (.st (.pair y2Y y2Y)) (.pair (.st (.pair y2Y y2Y)) (.pair (.st (.pair y2Y y2Y)) (.pair (.st (.pair y2Y y2Y)) (.st (.pair y2Y y2Y)))))))
abbrev alj:Ty:=.st (.pair .bool (.pair y7Y (.pair y7Y (.pair .bool (.pair y9Y y9Y)))))
abbrev axe:Ty:=.sl (.int .u32)
abbrev axf:Ty:=.int .i64
abbrev axg:Ty:=.int .u32
def tN(n:Nat)(t:Ty):Nat×TI:=(n,⟨t,[],0,0,0,true⟩)
def tU(n:Nat):Nat×TI:=(n,⟨.int .i64,[],0,0,0,false⟩)
def tS(n:Nat)(t:Ty)(l:List (Nat×Nat)):Nat×TI:=(n,⟨t,l,0,0,0,true⟩)
def tA(n:Nat)(t:Ty)(e l:Nat):Nat×TI:=(n,⟨t,[],e,l,0,true⟩)
def tLs(n:Nat)(t:Ty)(e b:Nat):Nat×TI:=(n,⟨t,[],e,0,b,true⟩)
def tys:TT:=[tU 1,
 tN 2 axf,
 tN 3 axf,
 tN 4 .bool,
 tN 5 (.int .u8),
 tN 6 (.int .u8),
 tS 7 y3Y [(0,1),(1,1),(2,1),(3,1)],
 tS 8 y3Y [(0,1),(1,1),(2,1),(3,1)],
 tN 9 .str,
 tN 10 .str,
 tN 11 .str,
 tN 12 (.int .u64),
 tS 13 y0Y [(0,1),(1,1)],
 tS 14 y0Y [(0,1),(1,1)],
 tU 15,
 tU 16,
 tU 17,
 tN 21 (.int .i32),
 tN 22 (.int .i8),
 tS 23 y5Y [(0,1),(1,1),(2,1),(3,1),(4,1),(5,1),(6,1),(7,1)],
 tS 24 y5Y [(0,1),(1,1),(2,1),(3,1),(4,1),(5,1),(6,1),(7,1)],
 tS 25 y8Y [(0,8),(8,8),(16,1)],
 tS 26 y8Y [(0,8),(8,8),(16,1)],
 tN 27 (.int .i16),
 tN 28 (.int .u16),
 tS 29 y4Y [(0,1),(1,1),(2,1),(3,1),(4,1),(5,1)],
 tS 30 y4Y [(0,1),(1,1),(2,1),(3,1),(4,1),(5,1)],
 tLs 31 axe 180 4,
 tS 32 y2Y [(0,1),(1,1)],
 tS 33 y2Y [(0,1),(1,1)],
 tS 34 (.st (.pair y2Y y2Y)) [(0,2),(2,2)],
 tS 35 (.st (.pair y2Y y2Y)) [(0,2),(2,2)],
 tS 36 y7Y [(0,4),(4,4),(8,4)],
 tS 37 y7Y [(0,4),(4,4),(8,4)],
 tS 38 y7Y [(0,4),(4,4),(8,4)],
 tS 39 y7Y [(0,4),(4,4),(8,4)],
 tS 40 y9Y [(0,4),(4,4),(8,4),(12,4),(16,4)],
 tS 41 y9Y [(0,4),(4,4),(8,4),(12,4),(16,4)],
 tS 42 alj [(0,1),(1,12),(13,12),(25,1),(26,20),(46,20)],
 tS 43 alj [(0,1),(1,12),(13,12),(25,1),(26,20),(46,20)],
 tU 45,
 tU 46,
 tU 47,
 tLs 48 (.sl y9Y) 41 320,
 tU 49,
 tN 50 axf,
 tU 52,
 tU 53,
 tU 54,
 tU 56,
 tLs 57 (.sl alj) 43 1040,
 tU 59,
 tU 60,
 tU 61,
 tA 62 (.st (.pair .bool .bool)) 1 2,
 tU 63,
 tU 64,
 tU 65,
 tU 66,
 tU 67,
 tU 68,
 tU 70,
 tU 71,
 tU 73,
 tS 74 y6Y [(0,4),(4,4)],
 tS 75 y6Y [(0,4),(4,4)],
 tU 76,
 tU 77,
 tU 78,
 tU 79,
 tS 80 y7Y [(0,4),(4,4),(8,4)],
 tU 82,
 tU 83,
 tU 84,
 tU 85,
 tU 86,
 tU 88,
 tU 89,
 tU 90,
 tU 91,
 tU 92,
 tU 93,
 tU 94,
 tU 95,
 tU 96,
 tU 97,
 tU 98,
 tU 99,
 tU 100,
 tU 101,
 tU 102,
 tU 103,
 tU 104,
 tU 105,
 tU 107,
 tU 108,
 tU 109,
 tU 110,
 tU 112,
 tU 114,
 tU 115,
 tU 116,
 tU 118,
 tU 119,
 tU 120,
 tU 121,
 tU 122,
 tU 123,
 tU 124,
 tU 125,
 tU 126,
 tU 127,
 tU 128,
 tU 129,
 tU 130,
 tU 131,
 tU 132,
 tU 133,
 tU 134,
 tU 135,
 tU 136,
 tU 137,
 tU 138,
 tU 139,
 tU 140,
 tU 141,
 tU 142,
 tU 143,
 tU 144,
 tU 145,
 tU 146,
 tU 147,
 tU 148,
 tN 149 (.int .u64),
 tU 151,
 tU 152,
 tU 154,
 tU 155,
 tS 156 amW [(0,4),(4,4),(8,4),(12,4),(16,4),(20,4)],
 tS 157 amW [(0,4),(4,4),(8,4),(12,4),(16,4),(20,4)],
 tU 158,
 tU 160,
 tU 162,
 tU 163,
 tU 164,
 tU 165,
 tU 166,
 tU 167,
 tU 168,
 tU 169,
 tU 171,
 tU 172,
 tU 173,
 tU 174,
 tU 175,
 tU 176,
 tU 177,
 tU 178,
 tU 179,
 tN 180 axg,
 tU 182,
 tU 184,
 tU 185,
 tU 186,
 tS 187 y1Y [(0,1),(1,1)],
 tS 188 y1Y [(0,1),(1,1)],
 tU 190,
 tU 191,
 tU 192,
 tU 193,
 tU 194,
 tU 195,
 tU 196,
 tU 197,
 tU 198,
 tU 199,
 tU 200,
 tU 201,
 tU 202,
 tU 203,
 tU 204,
 tU 206,
 tU 207,
 tU 209,
 tU 210,
 tU 211,
 tLs 212 (.sl axf) 2 8,
 tU 214,
 tU 215,
 tU 216,
 tU 217,
 tU 218,
 tU 219,
 tU 220,
 tU 221,
 tN 222 (.int .u64),
 tU 223,
 tU 224,
 tU 225,
 tU 227,
 tU 228,
 tU 229,
 tU 230,
 tS 231 (.st .bool) [(0,1)],
 tS 232 (.st .bool) [(0,1)],
 tU 233,
 tU 234,
 tU 235,
 tU 241,
 tN 242 (.int .u8),
 tN 243 (.int .u8),
 tU 244,
 tU 245,
 tN 246 (.int .i32),
 tN 247 (.int .i32)]
theorem ah1:fc Tryz.prog tys=true:=by kernel_rfl
theorem ZM:Tryz.prog.follows .mixedOrders=true:=by kernel_rfl
set_option maxRecDepth 100000 in
noncomputable def ft:FT:=[(2,Tryz.f2),(3,Tryz.f3),(4,Tryz.f4),(5,Tryz.f5),(6,Tryz.f6),(7,Tryz.f7),(8,Tryz.f8),(9,Tryz.f9),(10,Tryz.f10),(11,Tryz.f11),(12,Tryz.f12),(13,Tryz.f13),(14,Tryz.f14),(15,Tryz.f15),(16,Tryz.f16),(17,Tryz.f17),(18,Tryz.f18),(19,Tryz.f19),(20,Tryz.f20),(21,Tryz.f21),(22,Tryz.f22),(23,Tryz.f23),(24,Tryz.f24),(25,Tryz.f25),(26,Tryz.f26),(27,Tryz.f27),(28,Tryz.f28),(29,Tryz.f29),(30,Tryz.f30),(31,Tryz.f31),(32,Tryz.f32),(33,Tryz.f33),(34,Tryz.f34),(35,Tryz.f35),(36,Tryz.f36),(37,Tryz.f37),(38,Tryz.f38),(39,Tryz.f39),(40,Tryz.f40),(41,Tryz.f41),(42,Tryz.f42),(43,Tryz.f43),(44,Tryz.f44),(45,Tryz.f45),(46,Tryz.f46),(47,Tryz.f47),(48,Tryz.f48),(49,Tryz.f49),(50,Tryz.f50),(51,Tryz.f51),(52,Tryz.f52),(53,Tryz.f53),(54,Tryz.f54),(55,Tryz.f55),(56,Tryz.f56),(57,Tryz.f57),(58,Tryz.f58),(59,Tryz.f59),(60,Tryz.f60),(61,Tryz.f61),(62,Tryz.f62),(63,Tryz.f63),(64,Tryz.f64),(65,Tryz.f65),(66,Tryz.f66),(67,Tryz.f67),(68,Tryz.f68),(69,Tryz.f69),(70,Tryz.f70),(71,Tryz.f71),(72,Tryz.f72),(73,Tryz.f73),(74,Tryz.f74),(75,Tryz.f75),(76,Tryz.f76),(77,Tryz.f77),(78,Tryz.f78),(79,Tryz.f79),(80,Tryz.f80),(81,Tryz.f81),(82,Tryz.f82),(83,Tryz.f83),(84,Tryz.f84),(85,Tryz.f85),(86,Tryz.f86),(87,Tryz.f87),(88,Tryz.f88),(89,Tryz.f89),(90,Tryz.f90),(91,Tryz.f91),(92,Tryz.f92),(93,Tryz.f93),(94,Tryz.f94),(95,Tryz.f95),(96,Tryz.f96),(97,Tryz.f97),(98,Tryz.f98),(99,Tryz.f99),(100,Tryz.f100),(101,Tryz.f101),(102,Tryz.f102),(103,Tryz.f103),(104,Tryz.f104),(105,Tryz.f105),(106,Tryz.f106),(107,Tryz.f107),(108,Tryz.f108),(109,Tryz.f109),(110,Tryz.f110),(111,Tryz.f111),(112,Tryz.f112),(113,Tryz.f113),(114,Tryz.f114),(115,Tryz.f115),(116,Tryz.f116),(117,Tryz.f117),(118,Tryz.f118),(119,Tryz.f119),(120,Tryz.f120),(121,Tryz.f121),(122,Tryz.f122),(123,Tryz.f123),(124,Tryz.f124),(125,Tryz.f125),(126,Tryz.f126),(127,Tryz.f127),(128,Tryz.f128),(129,Tryz.f129),(130,Tryz.f130),(131,Tryz.f131),(132,Tryz.f132),(133,Tryz.f133),(134,Tryz.f134),(135,Tryz.f135),(136,Tryz.f136),(137,Tryz.f137),(138,Tryz.f138),(139,Tryz.f139),(140,Tryz.f140),(141,Tryz.f141),(142,Tryz.f142),(143,Tryz.f143),(144,Tryz.f144),(145,Tryz.f145),(146,Tryz.f146),(147,Tryz.f147),(148,Tryz.f148),(149,Tryz.f149),(150,Tryz.f150),(151,Tryz.f151),(152,Tryz.f152),(153,Tryz.f153),(154,Tryz.f154),(155,Tryz.f155),(156,Tryz.f156),(157,Tryz.f157),(158,Tryz.f158),(159,Tryz.f159),(160,Tryz.f160),(161,Tryz.f161),(162,Tryz.f162),(163,Tryz.f163),(164,Tryz.f164),(165,Tryz.f165),(166,Tryz.f166),(167,Tryz.f167),(168,Tryz.f168),(169,Tryz.f169),(170,Tryz.f170),(171,Tryz.f171),(172,Tryz.f172),(173,Tryz.f173),(174,Tryz.f174),(175,Tryz.f175),(176,Tryz.f176),(177,Tryz.f177),(178,Tryz.f178),(179,Tryz.f179),(180,Tryz.f180),(181,Tryz.f181),(182,Tryz.f182),(183,Tryz.f183),(184,Tryz.f184),(185,Tryz.f185),(186,Tryz.f186),(187,Tryz.f187),(188,Tryz.f188),(189,Tryz.f189),(190,Tryz.f190),(191,Tryz.f191),(192,Tryz.f192),(193,Tryz.f193),(194,Tryz.f194),(195,Tryz.f195),(196,Tryz.f196),(197,Tryz.f197),(198,Tryz.f198),(199,Tryz.f199),(200,Tryz.f200),(201,Tryz.f201),(202,Tryz.f202),(203,Tryz.f203),(204,Tryz.f204),(205,Tryz.f205),(206,Tryz.f206),(207,Tryz.f207),(208,Tryz.f208),(209,Tryz.f209),(210,Tryz.f210),(211,Tryz.f211),(212,Tryz.f212),(213,Tryz.f213),(214,Tryz.f214),(215,Tryz.f215),(216,Tryz.f216),(217,Tryz.f217),(218,Tryz.f218),(219,Tryz.f219),(220,Tryz.f220),(221,Tryz.f221),(222,Tryz.f222),(223,Tryz.f223),(224,Tryz.f224),(225,Tryz.f225),(226,Tryz.f226),(227,Tryz.f227),(228,Tryz.f228),(229,Tryz.f229),(230,Tryz.f230),(231,Tryz.f231),(232,Tryz.f232),(233,Tryz.f233),(234,Tryz.f234),(235,Tryz.f235),(236,Tryz.f236),(237,Tryz.f237),(238,Tryz.f238),(239,Tryz.f239),(240,Tryz.f240),(241,Tryz.f241),(242,Tryz.f242),(243,Tryz.f243),(244,Tryz.f244),(245,Tryz.f245),(246,Tryz.f246),(247,Tryz.f247),(248,Tryz.f248),(249,Tryz.f249),(250,Tryz.f250),(251,Tryz.f251),(252,Tryz.f252),(253,Tryz.f253),(254,Tryz.f254),(255,Tryz.f255),(256,Tryz.f256),(257,Tryz.f257),(258,Tryz.f258),(259,Tryz.f259),(260,Tryz.f260),(261,Tryz.f261),(262,Tryz.f262),(263,Tryz.f263),(264,Tryz.f264),(265,Tryz.f265),(266,Tryz.f266),(267,Tryz.f267),(268,Tryz.f268),(269,Tryz.f269),(270,Tryz.f270),(271,Tryz.f271),(272,Tryz.f272),(273,Tryz.f273),(274,Tryz.f274),(275,Tryz.f275),(276,Tryz.f276),(277,Tryz.f277),(278,Tryz.f278),(279,Tryz.f279),(280,Tryz.f280),(281,Tryz.f281),(282,Tryz.f282)]
set_option maxRecDepth 100000 in
theorem amx:FtAll Tryz.prog ft:=⟨Tryz.func2,Tryz.func3,Tryz.func4,Tryz.func5,Tryz.func6,Tryz.func7,Tryz.func8,Tryz.func9,Tryz.func10,Tryz.func11,Tryz.func12,Tryz.func13,Tryz.func14,Tryz.func15,Tryz.func16,Tryz.func17,Tryz.func18,Tryz.func19,Tryz.func20,Tryz.func21,Tryz.func22,Tryz.func23,Tryz.func24,Tryz.func25,Tryz.func26,Tryz.func27,Tryz.func28,Tryz.func29,Tryz.func30,Tryz.func31,Tryz.func32,Tryz.func33,Tryz.func34,Tryz.func35,Tryz.func36,Tryz.func37,Tryz.func38,Tryz.func39,Tryz.func40,Tryz.func41,Tryz.func42,Tryz.func43,Tryz.func44,Tryz.func45,Tryz.func46,Tryz.func47,Tryz.func48,Tryz.func49,Tryz.func50,Tryz.func51,Tryz.func52,Tryz.func53,Tryz.func54,Tryz.func55,Tryz.func56,Tryz.func57,Tryz.func58,Tryz.func59,Tryz.func60,Tryz.func61,Tryz.func62,Tryz.func63,Tryz.func64,Tryz.func65,Tryz.func66,Tryz.func67,Tryz.func68,Tryz.func69,Tryz.func70,Tryz.func71,Tryz.func72,Tryz.func73,Tryz.func74,Tryz.func75,Tryz.func76,Tryz.func77,Tryz.func78,Tryz.func79,Tryz.func80,Tryz.func81,Tryz.func82,Tryz.func83,Tryz.func84,Tryz.func85,Tryz.func86,Tryz.func87,Tryz.func88,Tryz.func89,Tryz.func90,Tryz.func91,Tryz.func92,Tryz.func93,Tryz.func94,Tryz.func95,Tryz.func96,Tryz.func97,Tryz.func98,Tryz.func99,Tryz.func100,Tryz.func101,Tryz.func102,Tryz.func103,Tryz.func104,Tryz.func105,Tryz.func106,Tryz.func107,Tryz.func108,Tryz.func109,Tryz.func110,Tryz.func111,Tryz.func112,Tryz.func113,Tryz.func114,Tryz.func115,Tryz.func116,Tryz.func117,Tryz.func118,Tryz.func119,Tryz.func120,Tryz.func121,Tryz.func122,Tryz.func123,Tryz.func124,Tryz.func125,Tryz.func126,Tryz.func127,Tryz.func128,Tryz.func129,Tryz.func130,Tryz.func131,Tryz.func132,Tryz.func133,Tryz.func134,Tryz.func135,Tryz.func136,Tryz.func137,Tryz.func138,Tryz.func139,Tryz.func140,Tryz.func141,Tryz.func142,Tryz.func143,Tryz.func144,Tryz.func145,Tryz.func146,Tryz.func147,Tryz.func148,Tryz.func149,Tryz.func150,Tryz.func151,Tryz.func152,Tryz.func153,Tryz.func154,Tryz.func155,Tryz.func156,Tryz.func157,Tryz.func158,Tryz.func159,Tryz.func160,Tryz.func161,Tryz.func162,Tryz.func163,Tryz.func164,Tryz.func165,Tryz.func166,Tryz.func167,Tryz.func168,Tryz.func169,Tryz.func170,Tryz.func171,Tryz.func172,Tryz.func173,Tryz.func174,Tryz.func175,Tryz.func176,Tryz.func177,Tryz.func178,Tryz.func179,Tryz.func180,Tryz.func181,Tryz.func182,Tryz.func183,Tryz.func184,Tryz.func185,Tryz.func186,Tryz.func187,Tryz.func188,Tryz.func189,Tryz.func190,Tryz.func191,Tryz.func192,Tryz.func193,Tryz.func194,Tryz.func195,Tryz.func196,Tryz.func197,Tryz.func198,Tryz.func199,Tryz.func200,Tryz.func201,Tryz.func202,Tryz.func203,Tryz.func204,Tryz.func205,Tryz.func206,Tryz.func207,Tryz.func208,Tryz.func209,Tryz.func210,Tryz.func211,Tryz.func212,Tryz.func213,Tryz.func214,Tryz.func215,Tryz.func216,Tryz.func217,Tryz.func218,Tryz.func219,Tryz.func220,Tryz.func221,Tryz.func222,Tryz.func223,Tryz.func224,Tryz.func225,Tryz.func226,Tryz.func227,Tryz.func228,Tryz.func229,Tryz.func230,Tryz.func231,Tryz.func232,Tryz.func233,Tryz.func234,Tryz.func235,Tryz.func236,Tryz.func237,Tryz.func238,Tryz.func239,Tryz.func240,Tryz.func241,Tryz.func242,Tryz.func243,Tryz.func244,Tryz.func245,Tryz.func246,Tryz.func247,Tryz.func248,Tryz.func249,Tryz.func250,Tryz.func251,Tryz.func252,Tryz.func253,Tryz.func254,Tryz.func255,Tryz.func256,Tryz.func257,Tryz.func258,Tryz.func259,Tryz.func260,Tryz.func261,Tryz.func262,Tryz.func263,Tryz.func264,Tryz.func265,Tryz.func266,Tryz.func267,Tryz.func268,Tryz.func269,Tryz.func270,Tryz.func271,Tryz.func272,Tryz.func273,Tryz.func274,Tryz.func275,Tryz.func276,Tryz.func277,Tryz.func278,Tryz.func279,Tryz.func280,Tryz.func281,Tryz.func282,trivial⟩
def EnvAll(P:Program):Env→Prop
 |[]=>True
 |p::l=>(eu P p.1=true∧C8 P p.1 p.2∧∀g,p.2.mut_=some g→N8 P p.1 g)∧EnvAll P l
theorem EnvAll.ok{P:Program}:∀{l:Env},EnvAll P l→ld P l
 |[],_,f,fn,h=>by simp[nY]at h
 |(k,x)::l,⟨h1,h2⟩,f,fn,h=>by
  simp only[nY]at h
  split at h
  ·rename_i hb
   have:=at0 hb
   subst this
   injection h with h
   subst h
   exact h1
  ·exact EnvAll.ok h2 f fn h
theorem Ul{E:Env}{N:NT}(h:EnvAll Tryz.prog E):(Ctx.mk Tryz.prog ft tys E N).Ok:=⟨ah1,h.ok,amx.look,ZM⟩
def CX(E:Env)(N:NT):Ctx:=⟨Tryz.prog,ft,tys,E,N⟩
def RS(C:Ctx)(f:Nat)(args:List SV)(t:KT→Option (List RV)):Prop:=∀{r:List RV},(∃n,t (C.k n)=some r)→C.Res f args r
def RN(C:Ctx)(i:Nat)(c:Cfg)(t:KT→Option (List RV)):Prop:=∀{r:List RV},(∃n,t (C.k n)=some r)→C.Runs i c r
def RL(C:Ctx)(i:Nat)(c:Cfg)(t:KT→Option (List RV)):Prop:=∀{r:List RV},(∃n0,∀n,n0≤n→t (C.k n)=some r)→C.RunsE i c r
theorem rsX{E:Env}{N:NT}{f:Nat}{args:List SV}{t:KT→Option (List RV)}(e:∀k,go2 Tryz.prog ft tys E N k 4000 (Fh f args) (.node 0)=t k:=by intro k;kernel_rfl):RS (CX E N) f args t:=fun h=>asP (C:=CX E N) e h
theorem rnX{E:Env}{N:NT}{i:Nat}{c:Cfg}{t:KT→Option (List RV)}(e:∀k,go2 Tryz.prog ft tys E N k 4000 {c with K:=.lp i::c.K} (.node (i+1))=t k:=by intro k;kernel_rfl):RN (CX E N) i c t:=fun h=>asS (C:=CX E N) e h
theorem rlX{E:Env}{N:NT}{i:Nat}{c:Cfg}{t:KT→Option (List RV)}(e:∀k,go2 Tryz.prog ft tys E N k 4000 {c with K:=.lp i::c.K} (.node (i+1))=t k:=by intro k;kernel_rfl):RL (CX E N) i c t:=fun h=>aoO (C:=CX E N) e h
def aoi(f k:Nat):Bool:=match gQ ft f with
 |some fn=>okF fn k
 |none=>false
theorem aP{E:Env}{N:NT}{f:Nat}{args:List SV}{r:List RV}(ok:EnvAll Tryz.prog E)(h:(CX E N).Res f args r)(hk:aoi f args.length=true:=by kernel_rfl):Con Tryz.prog f args r:=by
 unfold aoi at hk
 split at hk
 ·rename_i fn e
  exact Ctx.Res.con (C:=CX E N) (Ul ok) h (fn:=fn) e hk
 ·cases hk
def SpK(f:Nat)(s:aN):Prop:=eu Tryz.prog f=true∧C8 Tryz.prog f s∧∀g,s.mut_=some g→N8 Tryz.prog f g
theorem spX{f:Nat}{keep tame:Bool}{ts:List Ty}{pre:DT ts→Bool}{res:DT ts→List RV}(h:∀x,pre x=true→Con Tryz.prog f (svs ts x) (res x))(hc:eu Tryz.prog f=true:=by kernel_rfl):SpK f (spN keep tame ts pre res):=akN hc h
def bj(l:List Int):Prop:=Lim l∧l.length≤1000000000
instance (l:List Int):Decidable (bj l):=by unfold bj;infer_instance
theorem Nj{n:Nat}(h1:0<n)(h2:n≤9223372036854775807):i64.wrap ((n:Int)-1)=((n-1:Nat):Int):=by rw[bz (by omega) (by omega)];omega
theorem B6:∀{l:List Int},(∀j (hj:j<l.length),l[j]=0)→val l=0
 |[],_=>rfl
 |x::l,h=>by
  have h0:=h 0 (by simp)
  have:=B6 (l:=l) fun j hj=>h (j+1) (by simpa using hj)
  simp only[List.getElem_cons_zero]at h0
  simp only[val]
  omega
theorem yv{l:List Int}{n:Nat}(h:∀j (hj:j<l.length),n≤j→l[j]=0):val (l.take n)=val l:=by
 rw[fZ l n,B6 (l:=l.drop n) fun j hj=>by
  rw[List.getElem_drop];exact h _ _ (by omega)]
 simp
theorem mc{l:List Int}{n:Nat}(hl:Lim l)(hn:n≤l.length)(h:∀j (hj:j<l.length),n≤j→l[j]=0)(hz:n=0∨∃hj:n-1<l.length,l[n-1]≠0):l.take n=ah (val l).toNat:=by
 rw[←yv h]
 apply oG
 refine⟨hl.take n,?_⟩
 rcases auI n with h0|h0
 ·subst h0;simp
 ·obtain⟨hj,hz⟩:=hz.resolve_left (by omega)
  rw[List.getLast?_eq_getElem?,auG,auF hn,List.getElem?_take_of_lt (by omega),atU hj]
  simpa using hz
def alF:NT:=[((244,4),{keep:=[0],pure_:=[(0,.int .u32)],hl:=0})]
def RQ:Ctx:=CX [] alF
def CE(s0:List Int):Cfg:=⟨244,[.blk 0,.seq 13],[(0,.d axe s0)],[],0,[]⟩
def am9(a:List Int)(k:KT):Option (List RV):=k 4 (CE a)
theorem aq7(a:List Int):RS RQ 244 [.d axe a] (am9 a):=rsX
def xV(s0:List Int)(k:KT):Option (List RV):=match decide ((s0.length:Int)>0)with|true=>(match bi s0 (i64.wrap ((s0.length:Int)-1))with|some x1=>(match x1==0 with|true=>(match decide ((0:Int)≤0∧0≤i64.wrap ((s0.length:Int)-1)∧i64.wrap ((s0.length:Int)-1)≤(s0.length:Int))with|true=>k 4 (CE ((s0.take (i64.wrap ((s0.length:Int)-1)).toNat).drop (0:Int).toNat))|false=>none)|false=>some [RV.d axe s0])|none=>none)|false=>some [RV.d axe s0]
theorem Ai(s0:List Int):RN RQ 4 (CE s0) (xV s0):=rnX
def alQ:NT:=[((200,6),{keep:=[0,1,4,5],hl:=1})]
def UH:Ctx:=CX [] alQ
def CG(neg:Bool)(l:List Int)(s5:Int):Cfg:=⟨200,[.blk 0,.seq 15],[(0,SB neg),(1,.d axe l),(4,.box 0 0),(5,SI s5)],[.box 33 [SB false,.nil]],0,[]⟩
def aqs(neg:Bool)(l:List Int)(k:KT):Option (List RV):=k 6 (CG neg l (l.length:Int))
theorem amR(neg:Bool)(l:List Int):RS UH 200 [SB neg,.d axe l] (aqs neg l):=rsX
def sF(neg:Bool)(l:List Int)(s5:Int)(k:KT):Option (List RV):=match decide (s5>0)with|true=>(match bi l (i64.wrap (s5-1))with|some x1=>(match x1==0 with|true=>k 6 (CG neg l (i64.wrap (s5-1)))|false=>(match neg with|true=>(match decide ((0:Int)≤0∧0≤s5∧s5≤s5∧s5≤(l.length:Int))with|true=>some [RV.d y2Y (decide (s5>0),(l.take (s5).toNat).drop (0:Int).toNat)]|false=>none)|false=>(match decide ((0:Int)≤0∧0≤s5∧s5≤s5∧s5≤(l.length:Int))with|true=>some [RV.d y2Y (false,(l.take (s5).toNat).drop (0:Int).toNat)]|false=>none)))|none=>none)|false=>(match neg with|true=>(match decide ((0:Int)≤0∧0≤s5∧s5≤s5∧s5≤(l.length:Int))with|true=>some [RV.d y2Y (decide (s5>0),(l.take (s5).toNat).drop (0:Int).toNat)]|false=>none)|false=>(match decide ((0:Int)≤0∧0≤s5∧s5≤s5∧s5≤(l.length:Int))with|true=>some [RV.d y2Y (false,(l.take (s5).toNat).drop (0:Int).toNat)]|false=>none))
theorem yW(neg:Bool)(l:List Int)(s5:Int):RN UH 6 (CG neg l s5) (sF neg l s5):=rnX
def apT:Ctx:=CX [] []
def ahb(u:Int)(_k:KT):Option (List RV):=some [RV.new 180 axg ([u32.wrap (Int.tmod u 1000000000),u32.wrap (Int.tmod (u64.wrap (Int.tdiv u 1000000000)) 1000000000),u32.wrap (u64.wrap (Int.tdiv (u64.wrap (Int.tdiv u 1000000000)) 1000000000))])]
theorem aql(u:Int):RS apT 246 [.d (.int .u64) u] (ahb u):=rsX
theorem Xd(l:List Int)(hl:Lim l)(hs:l.length≤1000000000):∀(n:Nat),n≤l.length→(∀j (hj:j<l.length),n≤j→l[j]=0)→RQ.Runs 4 (CE (l.take n)) [.d axe (ah (val l).toNat)]:=by
 intro n
 induction n with
 |zero=>
  intro _ h
  refine Ai _ ⟨0,?_⟩
  rw[←mc hl (awg _) h (.inl rfl)]
  rfl
 |succ n ih=>
  intro hn h
  have hlen:(l.take (n+1)).length=n+1:=by rw[auG,auF hn]
  have hget:(l.take (n+1))[n]?=some l[n]:=by rw[List.getElem?_take_of_lt (by omega),atU (by omega)]
  by_cases hz:l[n]=0
  ·obtain⟨q,hq⟩:=ih (by omega) fun j hj hk=>by
    rcases Nat.eq_or_lt_of_le hk with e|e
    ·subst e;exact hz
    ·exact h j hj e
   refine Ai _ ⟨q,?_⟩
   unfold xV
   rw[hlen,atT (by omega),Nj (by omega) (by omega),aA,show n+1-1=n from rfl,hget]
   dsimp only
   rw[hz,atT (show(0:Int)≤0∧(0:Int)≤(n:Int)∧(n:Int)≤((n+1:Nat):Int) by omega),aQ,aw7,auF (by omega)]
   exact hq
  ·refine Ai _ ⟨0,?_⟩
   unfold xV
   rw[hlen,atT (by omega),Nj (by omega) (by omega),aA,show n+1-1=n from rfl,hget]
   dsimp only
   rw[show(l[n]==0)=false by simpa using hz,←mc hl hn h (.inr ⟨Nat.lt_of_succ_le hn,hz⟩)]
theorem abW(a:List Int)(h:bj a):Con Tryz.prog 244 [.d axe a] [.d axe (ah (val a).toNat)]:=by
 obtain⟨q,hq⟩:=Xd a h.1 h.2 a.length (at5 _) (fun j hj hk=>by omega)
 rw[avg]at hq
 exact aP (E:=[]) trivial (aq7 _ ⟨q,hq⟩)
def cC(neg:Bool)(v:Int):Int:=bif neg then-v else v
theorem l4(neg:Bool){v:Int}(h:0≤v):aj (cC neg v)=(neg&&decide (0<v),ah v.toNat):=by
 unfold aj cC
 cases neg
 ·simp only[cond_false,Bool.false_and]
  rw[atV (by omega),show v.natAbs=v.toNat by omega]
 ·simp only[cond_true,atX]
  rw[show(-v).natAbs=v.toNat by omega]
  by_cases h0:0<v
  ·rw[atT h0,atT (by omega)]
  ·rw[atV h0,atV (by omega)]
theorem W8(neg:Bool)(l:List Int)(hl:Lim l)(hs:l.length≤1000000000):∀(n:Nat),n≤l.length→(∀j (hj:j<l.length),n≤j→l[j]=0)→UH.Runs 6 (CG neg l (n:Int)) [.d y2Y (aj (cC neg (val l)))]:=by
 intro n
 have hv:=bg hl
 induction n with
 |zero=>
  intro _ h
  refine yW _ _ _ ⟨0,?_⟩
  rw[l4 neg hv,←mc hl (awg _) h (.inl rfl)]
  have h0:val l=0:=by rw[←yv h];rfl
  unfold sF
  rw[atV (show ¬((0:Nat):Int)>0 by decide),atT (show(0:Int)≤0∧(0:Int)≤((0:Nat):Int)∧((0:Nat):Int)≤((0:Nat):Int)∧((0:Nat):Int)≤(l.length:Int) by omega),h0]
  cases neg<;>rfl
 |succ n ih=>
  intro hn h
  by_cases hz:l[n]=0
  ·obtain⟨q,hq⟩:=ih (by omega) fun j hj hk=>by
    rcases Nat.eq_or_lt_of_le hk with e|e
    ·subst e;exact hz
    ·exact h j hj e
   refine yW _ _ _ ⟨q,?_⟩
   unfold sF
   rw[atT (by omega),Nj (by omega) (by omega),aA,show n+1-1=n from rfl,atU (by omega)]
   dsimp only
   rw[hz]
   exact hq
  ·refine yW _ _ _ ⟨0,?_⟩
   have hct:=mc hl hn h (.inr ⟨Nat.lt_of_succ_le hn,hz⟩)
   have hpos:0<val l:=by
    rcases auA 0 (val l)with h1|h1
    ·exact h1
    ·exfalso
     rw[show(val l).toNat=0 by omega,fq]at hct
     have:(l.take (n+1)).length=0:=by rw[hct];rfl
     rw[auG,auF hn]at this
     omega
   rw[l4 neg hv,←hct]
   unfold sF
   rw[atT (show((n+1:Nat):Int)>0 by omega),Nj (by omega) (by omega),aA,show n+1-1=n from rfl,atU (by omega)]
   dsimp only
   rw[show(l[n]==0)=false by simpa using hz,atT (show(0:Int)≤0∧(0:Int)≤((n+1:Nat):Int)∧((n+1:Nat):Int)≤((n+1:Nat):Int)∧((n+1:Nat):Int)≤(l.length:Int) by omega),atT hpos,aQ]
   cases neg<;>rfl
theorem aaX(neg:Bool)(l:List Int)(h:bj l):Con Tryz.prog 200 [.d .bool neg,.d axe l] [.d y2Y (aj (cC neg (val l)))]:=by
 obtain⟨q,hq⟩:=W8 neg l h.1 h.2 l.length (at5 _) (fun j hj hk=>by omega)
 exact aP (E:=[]) trivial (amR _ _ ⟨q,hq⟩)
def gL(u:Int):Prop:=0≤u∧u<18446744073709551616
instance (u:Int):Decidable (gL u):=by unfold gL;infer_instance
theorem dp{x:Int}(h1:0≤x)(h2:x<4294967296):u32.wrap x=x:=by rw[IntKind.wrap_u32];omega
theorem bU{x:Int}(h1:0≤x)(h2:x<18446744073709551616):u64.wrap x=x:=by rw[auU];omega
theorem gi{a b:Int}(h:0≤a):Int.tdiv a b=a/b:=Int.tdiv_eq_ediv_of_nonneg h
theorem jk{a b:Int}(h:0≤a):Int.tmod a b=a%b:=Int.tmod_eq_emod_of_nonneg h
theorem acx(u:Int)(h:gL u):Con Tryz.prog 246 [.d (.int .u64) u] [.new 180 axg (dig 3 u)]:=by
 refine aP (E:=[]) trivial (aql _ ⟨0,?_⟩)
 obtain⟨h1,h2⟩:=h
 unfold ahb
 rw[gi h1,jk h1,bU (x:=u/1000000000) (by omega) (by omega),jk (by omega),gi (a:=u/1000000000) (by omega),dp (x:=u%1000000000) (by omega) (by omega),dp (x:=u/1000000000%1000000000) (by omega) (by omega),bU (x:=u/1000000000/1000000000) (by omega) (by omega),dp (x:=u/1000000000/1000000000) (by omega) (by omega)]
 have e:dig 3 u=[u%1000000000,u/1000000000%1000000000,u/1000000000/1000000000]:=by
  simp only[dig]
  rw[show u/1000000000/1000000000%1000000000=u/1000000000/1000000000 by omega]
 rw[e]
def IG:aN:=spN false false [axe] (fun x=>decide (bj x.1)) (fun x=>[RV.d axe (ah (val x.1).toNat)])
theorem EP:SpK 244 IG:=spX fun x h=>abW x.1 (atS h)
def yS:aN:=spN false false [.bool,axe] (fun x=>decide (bj x.2.1)) (fun x=>[RV.d y2Y (aj (cC x.1 (val x.2.1)))])
theorem tt:SpK 200 yS:=spX fun x h=>aaX x.1 x.2.1 (atS h)
def CW:aN:=spN true false [(.int .u64)] (fun x=>decide (gL x.1)) (fun x=>[RV.new 180 axg (dig 3 x.1)])
theorem zD:SpK 246 CW:=spX fun x h=>acx x.1 (atS h)
def H4:Env:=[(244,IG),(200,yS),(246,CW)]
theorem Cc:EnvAll Tryz.prog H4:=⟨EP,tt,zD,trivial⟩
def aqF:Ctx:=CX H4 []
def afO(n:Int)(_k:KT):Option (List RV):=match decide (n<0)with|true=>(match decide (gL (u64.wrap (0-(u64.wrap n))))with|true=>(match decide (bj (dig 3 (u64.wrap (0-(u64.wrap n)))))with|true=>some [RV.d y2Y (aj (cC (decide (n<0)) (val (dig 3 (u64.wrap (0-(u64.wrap n)))))))]|false=>none)|false=>none)|false=>(match decide (gL (u64.wrap n))with|true=>(match decide (bj (dig 3 (u64.wrap n)))with|true=>some [RV.d y2Y (aj (cC (decide (n<0)) (val (dig 3 (u64.wrap n)))))]|false=>none)|false=>none)
theorem ari(n:Int):RS aqF 206 [SI n] (afO n):=rsX
def aia:NT:=[((199,24),{keep:=[0,1,5],hl:=0})]
def J8:Ctx:=CX H4 aia
def wz(a b:List Int)(s5:Int):Cfg:=⟨199,[.blk 0,.seq 49],[(0,.d axe (ah (val a).toNat)),(1,.d axe (ah (val b).toNat)),(5,SI s5)],[],0,[]⟩
def YY(a b:List Int)(k:KT):Option (List RV):=match decide (bj a)with|true=>(match decide (bj b)with|true=>(match((ah (val a).toNat).length:Int) !=((ah (val b).toNat).length:Int)with|true=>(match decide (((ah (val a).toNat).length:Int)<((ah (val b).toNat).length:Int))with|true=>some [RV.d axf (-1)]|false=>some [RV.d axf 1])|false=>k 24 (wz a b (i64.wrap (((ah (val a).toNat).length:Int)-1))))|false=>none)|false=>none
theorem afA(a b:List Int):RS J8 199 [.d axe a,.d axe b] (YY a b):=rsX
def lZ(a b:List Int)(s5:Int)(k:KT):Option (List RV):=match decide (s5≥0)with|true=>(match bi (ah (val a).toNat) s5 with|some x1=>(match bi (ah (val b).toNat) s5 with|some x2=>(match decide (x1<x2)with|true=>some [RV.d axf (-1)]|false=>(match bi (ah (val a).toNat) s5 with|some x3=>(match bi (ah (val b).toNat) s5 with|some x4=>(match decide (x3>x4)with|true=>some [RV.d axf 1]|false=>k 24 (wz a b (i64.wrap (s5-1))))|none=>none)|none=>none))|none=>none)|none=>none)|false=>some [RV.d axf 0]
theorem qB(a b:List Int)(s5:Int):RN J8 24 (wz a b s5) (lZ a b s5):=rnX
def bO(n:Int):Prop:= -9223372036854775808≤n∧n≤9223372036854775807
instance (n:Int):Decidable (bO n):=by unfold bO;infer_instance
theorem zg{u:Int}(h:gL u):val (dig 3 u)=u:=gX 3 u h.1 (aws h.2 (by decide))
theorem ju{n:Nat}(h:n≤1000000000)(v:Int):bj (dig n v):=⟨nO n v,by rw[iN];exact h⟩
theorem K9(n:Int)(h:bO n):Con Tryz.prog 206 [.d axf n] [.d y2Y (aj n)]:=by
 refine aP Cc (ari _ ⟨0,?_⟩)
 obtain⟨h1,h2⟩:=h
 unfold afO
 by_cases hn:n<0
 ·have e:u64.wrap (0-u64.wrap n)= -n:=by rw[auU,auU];omega
  have hu:gL (-n):=⟨by omega,by omega⟩
  rw[atT hn]
  dsimp only
  rw[e,atT hu,atT (ju (n:=3) (by decide) (-n)),zg hu]
  simp[cC]
 ·have e:u64.wrap n=n:=bU (by omega) (by omega)
  have hu:gL n:=⟨by omega,by omega⟩
  rw[atV hn]
  dsimp only
  rw[e,atT hu,atT (ju (n:=3) (by decide) n),zg hu]
  rfl
theorem RA{l:List Int}{n:Nat}(h:n<l.length):val l=val (l.take n)+pw n*(l[n]+1000000000*val (l.drop (n+1))):=by
 rw[fZ l n,auF (Nat.le_of_lt h),auk h]
 rfl
theorem DN{a b:List Int}(ha:Lim a)(hb:Lim b){n:Nat}(h1:n<a.length)(h2:n<b.length)(hd:a.drop (n+1)=b.drop (n+1))(hlt:a[n]<b[n]):val a<val b:=by
 rw[RA h1,RA h2,hd]
 have k1:=cr (ha.take n)
 have k2:=bg (hb.take n)
 rw[auG,auF (Nat.le_of_lt h1)]at k1
 have hp:=ct n
 have:=aua (show a[n]+1000000000*val (b.drop (n+1))+1≤b[n]+1000000000*val (b.drop (n+1)) by omega) (auH hp)
 rw[aw1,awk]at this
 omega
theorem df{a b:Int}(h:a<b):cH a b= -1:=by unfold cH;rw[atT h];rfl
theorem cZ{a b:Int}(h:b<a):cH a b=1:=by unfold cH;rw[atV (by omega),atT h];rfl
theorem dV(a:Int):cH a a=0:=by unfold cH;rw[atV (by omega)];rfl
theorem xi{a b:Nat}(h:(ah a).length<(ah b).length):a<b:=by
 rcases auw a b with h1|h1
 ·exact h1
 ·have:=dt (n:=b) (k:=(ah a).length) (by
   have:=cr (cA a)
   rw[bW]at this
   omega)
  omega
theorem TX(a b:List Int)(hl:(ah (val a).toNat).length=(ah (val b).toNat).length)(ha:0≤val a)(hb:0≤val b)(hs:(ah (val a).toNat).length≤1000000000):∀(n:Nat),n≤(ah (val a).toNat).length→(ah (val a).toNat).drop n=(ah (val b).toNat).drop n→
  J8.Runs 24 (wz a b ((n:Int)-1)) [.d axf (cH (val a) (val b))]:=by
 have va:=bW (val a).toNat
 have vb:=bW (val b).toNat
 have la:=cA (val a).toNat
 have lb:=cA (val b).toNat
 intro n
 induction n with
 |zero=>
  intro _ h
  refine qB _ _ _ ⟨0,?_⟩
  have e:val a=val b:=by simp only[avz]at h;rw[h]at va;omega
  unfold lZ
  rw[atV (by omega),e,dV]
 |succ n ih=>
  intro hn h
  have h1:n<(ah (val a).toNat).length:=by omega
  have h2:n<(ah (val b).toNat).length:=by omega
  rcases avZ (ah (val a).toNat)[n] (ah (val b).toNat)[n]with hc|hc|hc
  ·refine qB _ _ _ ⟨0,?_⟩
   have:=DN la lb h1 h2 h hc
   unfold lZ
   rw[show((n+1:Nat):Int)-1=(n:Int) by omega,atT (by omega),aA,aA,atU h1,atU h2]
   dsimp only
   rw[atT hc,df (by omega)]
  ·obtain⟨q,hq⟩:=ih (by omega) (by rw[auk h1,auk h2,hc,h])
   refine qB _ _ _ ⟨q,?_⟩
   unfold lZ
   rw[show((n+1:Nat):Int)-1=(n:Int) by omega,atT (by omega),aA,aA,atU h1,atU h2]
   dsimp only
   rw[atV (by omega),atV (by omega),bz (x:=(n:Int)-1) (by omega) (by omega)]
   exact hq
  ·refine qB _ _ _ ⟨0,?_⟩
   have:=DN lb la h2 h1 h.symm hc
   unfold lZ
   rw[show((n+1:Nat):Int)-1=(n:Int) by omega,atT (by omega),aA,aA,atU h1,atU h2]
   dsimp only
   rw[atV (by omega),atT hc,cZ (by omega)]
theorem jN{l:List Int}(h:Lim l):(ah (val l).toNat).length≤l.length:=dt (by have:=cr h;have:=bg h;omega)
theorem ab8(a b:List Int)(h:bj a∧bj b):Con Tryz.prog 199 [.d axe a,.d axe b] [.d axf (cH (val a) (val b))]:=by
 refine aP Cc (show J8.Res _ _ _ from ?_)
 obtain⟨ha,hb⟩:=h
 have la:=jN ha.1
 have lb:=jN hb.1
 have na:=bg ha.1
 have nb:=bg hb.1
 have hsa:=ha.2
 have hsb:=hb.2
 by_cases hl:(ah (val a).toNat).length=(ah (val b).toNat).length
 ·obtain⟨q,hq⟩:=TX a b hl na nb (by omega) _ (at5 _) (by rw[awm,hl,awm])
  refine afA _ _ ⟨q,?_⟩
  unfold YY
  rw[atT ha,atT hb,show(((ah (val a).toNat).length:Int) !=((ah (val b).toNat).length:Int))=false by simp[hl],bz (x:=((ah (val a).toNat).length:Int)-1) (by omega) (by omega)]
  exact hq
 ·refine afA _ _ ⟨0,?_⟩
  unfold YY
  rw[atT ha,atT hb,show(((ah (val a).toNat).length:Int) !=((ah (val b).toNat).length:Int))=true by simp;omega]
  dsimp only
  rcases Nat.lt_or_gt_of_ne hl with h1|h1
  ·have:=xi h1
   rw[atT (by omega),df (by omega)]
  ·have:=xi h1
   rw[atV (by omega),cZ (by omega)]
end Go.Proofs.YtgddhgcjmddjfaaGreat
end
