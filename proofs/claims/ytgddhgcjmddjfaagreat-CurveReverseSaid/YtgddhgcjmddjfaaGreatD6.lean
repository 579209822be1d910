/- The pure machine is sound: the induction. -/
import Derived.Test.YtgddhgcjmddjfaaGreatD5
noncomputable section
namespace Go.Proofs.YtgddhgcjmddjfaaGreat
open Go.RowKit Go.IntKind
theorem auO:type_of% @decide_eq_true:=@decide_eq_true
theorem auQ:type_of% @decide_eq_false:=@decide_eq_false
theorem auS:type_of% @Bool.true_and:=@Bool.true_and
theorem auT:type_of% @Bool.and_self:=@Bool.and_self
theorem au3:type_of% @Int.mul_le_mul_of_nonneg_left:=@Int.mul_le_mul_of_nonneg_left
theorem avt:type_of% @Int.lt_or_le:=@Int.lt_or_le
theorem avu:type_of% @List.getElem_mem:=@List.getElem_mem
theorem avy:type_of% @Nat.min_eq_left:=@Nat.min_eq_left
theorem avA:type_of% @Int.le_of_lt:=@Int.le_of_lt
theorem avP:type_of% @IntKind.wrap_u64:=@IntKind.wrap_u64
theorem awH:type_of% @Int.toNat_natCast:=@Int.toNat_natCast
theorem awT:type_of% @Int.lt_trichotomy:=@Int.lt_trichotomy
theorem aw1:type_of% @Nat.mul_le_mul:=@Nat.mul_le_mul
theorem axf:type_of% @Int.mul_one:=@Int.mul_one
theorem axi:type_of% @List.drop_length:=@List.drop_length
theorem axm:type_of% @Nat.sub_add_cancel:=@Nat.sub_add_cancel
theorem axn:type_of% @Int.lt_of_lt_of_le:=@Int.lt_of_lt_of_le
theorem axD:type_of% @Region.noSelect_spec:=@Region.noSelect_spec
theorem axW:type_of% @Int.mul_add:=@Int.mul_add
theorem ax3:type_of% @List.take_take:=@List.take_take
theorem ax4:type_of% @Bool.false_and:=@Bool.false_and
section
theorem F3{P:Program}{fn:Func}{R:Ending→World→Prop}{B:Code}{K:List KI}{i:Nat}{a:Act}{w:World}(S:World→Prop){id:Nat}(hm:P.follows .mixedOrders=true)(hc:nth B i=.region id (ao (nth B i)) true)(h:AtG P fn R B K i S (ao (nth B i)).size [] a w.drew):At P fn R B K i a w:=by
 unfold At;rw[hc]
 refine wp_region_any hm (HG (S0:=S) _ _ _ _ ?_)
 simpa [AtG,mkL,ao]using h
theorem vH{n s:Nat}:∀{D:List Nat},s∉D→s<n→(mkL n D).getD s true=false
 |[],_,h=>by simp[mkL,h]
 |j::D,hn,h=>by
  have h1:s≠j:=fun e=>hn (by simp[e])
  rw[mkL,awG true (awm h1)]
  exact vH (fun hm=>hn (by simp[hm])) h
theorem Dx{ops:Array Oper}:¬storeDone ops (mkL ops.size []):=by
 rintro ⟨s,os,h1,_,h3⟩
 have hlt:=(au7.1 h1).1
 simp[mkL,hlt]at h3
section
variable {Z:Nat→Prop} {w0:World} {F:FT} {P:Program} {T:TT} {E:Env} {N:NT} {Fin:Nat→Cfg→Option (List RV)} {Rt:Ending→World→Prop} {r:List RV}
set_option maxHeartbeats 2000000 in
theorem Gt(hT:fj P T=true)(hE:lN P E)(hI:inv w0)(hF:∀f fn,gX F f=some fn→P.funcs[f]?=some fn)(hm:P.follows .mixedOrders=true)
  (hRt:∀vs H G w ss tys,AH T H ss tys=some r→SR Z w0 H G w→cM (Rel G (Av Z H G) w) ss vs→Rt (.returned (lU vs)) w)
  (hFin:∀i c G w a ats fn,Fin i c=some r→CR Z F w0 c G w a ats→gX F c.f=some fn→InLoop P (nth (ak F c.f) (i+1)) (iE P fn (fY P F Rt c.fs ats) (ak F c.f) (iu P fn (fY P F Rt c.fs ats) (ak F c.f) c.K)) a w):
  ∀(m:Nat) (c:Cfg) (p:Pos),go P F T E N Fin m c p=some r→∀G w a ats fn,CR Z F w0 c G w a ats→gX F c.f=some fn→jO P F Rt c fn G w a ats p:=by
 have headOk:∀i c,head N Fin i c=some r→∀G w a ats fn,CR Z F w0 c G w a ats→gX F c.f=some fn→InLoop P (nth (ak F c.f) (i+1)) (iE P fn (fY P F Rt c.fs ats) (ak F c.f) (iu P fn (fY P F Rt c.fs ats) (ak F c.f) c.K)) a w:=by
  intro i c h G w a ats fn hc hfn
  unfold head at h
  split at h
  ·split at h<;>try (cases h;done)
   rename_i c' hn
   obtain⟨G',k1,k2,k3,k4⟩:=aa8 hn hc
   have:=hFin i c' G' w a ats fn h k1 (by rw[k2];exact hfn)
   rw[k2,k3,k4]at this
   exact this
  ·exact hFin i c G w a ats fn h hc hfn
 intro m
 induction m using Nat.strongRecOn with
 |ind m0 ihs=>
 cases m0 with
 |zero=>intro c p h;simp[go]at h
 |succ m=>
  have ih:=ihs m (Nat.lt_succ_self m)
  intro c p h G w a ats fn hc hfn
  have h0:=h
  simp only[go]at h
  split at h
  ·-- nrm
   split at h
   ·rename_i hK
    have:=ih _ _ h G w a ats fn hc hfn
    simp only[jO]at this ⊢
    rw[hK]
    exact this
   ·rename_i j K hK
    have:=ih _ _ h G w a ats fn ⟨hc.sr,hc.fr,hc.fl,hc.frs⟩ hfn
    simp only[jO]at this ⊢
    rw[hK]
    exact this
   ·rename_i id K hK
    have:=ih _ _ h G w a ats fn ⟨hc.sr,hc.fr,hc.fl,hc.frs⟩ hfn
    simp only[jO]at this ⊢
    rw[hK]
    exact this
   ·rename_i i K hK
    have:=headOk i {c with K:=K} h G w a ats fn ⟨hc.sr,hc.fr,hc.fl,hc.frs⟩ hfn
    simp only[jO]
    rw[hK]
    exact this
  ·-- node
   rename_i i
   simp only[jO]
   split at h
   ·rename_i hn
    exact ad3 hn (ih _ _ h G w a ats fn hc hfn)
   ·rename_i x y hn
    have:=ih _ _ h G w a ats fn ⟨hc.sr,hc.fr,hc.fl,hc.frs⟩ hfn
    exact z7 (acg hn) this
   ·rename_i id x hn
    have:=ih _ _ h G w a ats fn ⟨hc.sr,hc.fr,hc.fl,hc.frs⟩ hfn
    exact UU (Pb hn) this
   ·rename_i id hn
    split at h<;>try (cases h;done)
    rename_i K hK
    have:=ih _ _ h G w a ats fn ⟨hc.sr,hc.fr,hc.fl,hc.frs⟩ hfn
    exact abn hn (abI (xl hK) this)
   ·rename_i hn
    exact Io hn (ih _ _ h G w a ats fn hc hfn)
   ·rename_i x p q hn
    split at h<;>try (cases h;done)
    rename_i b hb
    have hv:=po (a8 hc.fr hb)
    unfold At
    rw[V4 hn]
    split at h
    ·exact wp_cond_true hv (ih _ _ h G w a ats fn hc hfn)
    ·exact wp_cond_false hv (ih _ _ h G w a ats fn hc hfn)
   ·rename_i x hn
    unfold At
    rw[Xw hn]
    exact(headOk i c h G w a ats fn hc hfn).wp
   ·rename_i id ops hn
    have:=ih _ _ h G w a ats fn hc hfn
    exact m9 (id:=id) (by rw[hn];rfl) this
   ·rename_i id ops hn
    split at h<;>try (cases h;done)
    rename_i hns
    have hops:ao (nth (ak F c.f) i)=ops:=by rw[hn];rfl
    have hb:Below w.heap.size w w.drew:=(axV _ _).drew
    have hsg:=vw hc.sr hb
    have hev:Ev Z c.fl c.H G w c.H G w.drew:=fun s v hs _=>dL hc.sr hsg hs
    have hcr:CR Z F w0 c G w.drew a ats:=⟨MI hc.sr hb,hc.fr.keep fun s v hs=>dL hc.sr hsg hs,hc.fl,hc.frs.ev hev (auY _)⟩
    split at h
    ·refine F3 (fun _=>True) hm (id:=id) (by rw[hn];rfl) ?_
     split at h
     ·exact ih _ _ h G w.drew a ats fn hcr hfn rfl (by rw[hops];exact hns)
     ·exact ih _ _ h G w.drew a ats fn hcr hfn rfl (by rw[hops];exact hns)
    refine F3 (Agr (!(ops.any fun o=>oA o.op)) c.H G w.drew) hm (id:=id) (by rw[hn];rfl) ?_
    exact ih _ _ h G w.drew a ats fn hcr hfn c.H G w.drew (.inr ⟨Agr.refl,fun _ _ hx=>hx,fun _=>⟨rfl,rfl,rfl⟩,Dx⟩) uh (by rw[hops];exact hns) _ (by simp)
   ·cases h
  ·-- ops
   rename_i i k
   simp only[jO]
   split at h
   ·rename_i hk
    exact aeA hk (ih _ _ h G w a ats fn hc hfn)
   ·rename_i o hk
    rcases fB hc.fr h with⟨L1,h1,hf1,hw⟩|⟨L1,h1,hf1,hw⟩
    ·refine abu hk hw ?_
     split at h1
     ·split at h1<;>try (cases h1;done)
      rename_i hfz
      obtain⟨g1,g2,g3,g4,g5⟩:=akh hc.sr hf1 hfz
      obtain⟨s,v,h2,h3,h4⟩:=ml hT g1 g2 h1
      split at h2<;>try (cases h2;done)
      rename_i L2 hp
      rw[h4 w (fun _=>Agr.refl)]
      exact ih _ _ h2 G w (a.put o.dst v) ats fn ⟨g1,g2.put hp h3,ava hc.fl (Nat.le_of_eq g5),hc.frs.evF g3 (auY _)⟩ hfn
     ·split at h1
      ·rename_i g ss hin
       obtain⟨f,args,tys,fg,caps,e1,e2,e3,e4,e5,e6,e7⟩:=Di hf1 hin
       have hcl:eu P g=true:=by unfold eu;rw[hF g fg e2];simp only[e6,e7,auT]
       rw[kU hcl a.eval o f args tys caps e1 e3 w]
       obtain⟨B,hB⟩:=avV.1 e7
       have hbf:ak F g=B:=by simp[ak,e2,hB]
       have hcal:Calls P g (args.map a.eval++caps) w (fY P F Rt ({f:=c.f,K:=c.K,i:=i,k:=k,L:=Au N c.f i L1,fl:=c.fl}::c.fs) (a::ats)):=by
        have hto:args.map a.eval++caps=(args.map a.eval++caps).toList.toArray:=by simp
        rw[hto]
        refine enter (hF g fg e2) hB (avp (by rw[←eT e4];exact e5)) fun a2 hst=>?_
        have:=ih _ _ h1 G w a2 (a::ats) fg ⟨hc.sr,⟨hst.defers,by rw[hst.size];simp[ntm,e2],mv e4 hst.slot⟩,auY _,⟨⟨hf1.defers,hf1.size,fun t s hs=>hf1.slot t s (j7 hs)⟩,fun t s hs=>by obtain⟨v,_,hv⟩:=hf1.slot t s (j7 hs);exact ki hc.sr hv,⟨hc.fl,⟨fn,hfn⟩,fun D hD=>by cases hD⟩,hc.frs⟩⟩ e2
        simp only[jO,iu]at this
        rw[hbf]at this
        exact this
       refine Calls.mono hcal ?_
       rintro e w' ⟨v,rfl,fn',o',q1,q2,q3,_⟩
       have q3:=q3 rfl
       simp only at q1 q2 q3
       rw[hfn]at q1
       injection q1 with q1
       subst q1
       rw[hk]at q2
       injection q2 with q2
       subst q2
       exact q3
      ·refine vJ hT hE hI hc.sr hf1 h1 fun s H' L2 G' w' v h2 h3 h4 h5 h6=>?_
       split at h2<;>try (cases h2;done)
       rename_i L3 hp
       exact ih _ _ h2 G' w' (a.put o.dst v) ats fn ⟨h3,h4.put hp h5,ava hc.fl h6.len,hc.frs.evF h6.pres (auY _)⟩ hfn
    ·refine aj7 hk hw ?_
     split at h1<;>try (cases h1;done)
     rename_i L2 hp
     exact ih _ _ h1 G w (a.put o.dst undef) ats fn ⟨hc.sr,hf1.put hp rfl,hc.fl,hc.frs⟩ hfn
  ·-- drw
   rename_i i rw eff D
   simp only[jO]
   intro Hs Gs ws hinv hclo hns m' hm'
   split at h
   ·exact ih _ _ h G w a ats fn hc hfn (Agr rw Hs Gs ws) (fun w w' hw ho=>⟨ava hw.1 ho.1,fun b hb hor=>(ho.2 b (aww hb hw.1)).trans (hw.2 b hb hor)⟩) (hinv.elim (fun h=>.inl h.1) (fun h=>.inr h.1)) hclo hns m' hm'
   split at h
   ·rename_i hrd
    exact zT hrd (ih _ _ h G w a ats fn hc hfn) _
   ·rename_i rs hrd
    split at h<;>try (cases h;done)
    rename_i hlen
    have hlen:=auZ hlen
    obtain⟨m'',rfl⟩:∃m'',m'=m''+1:=⟨m'-1,by omega⟩
    have hsst:Sst (ao (nth (ak F c.f) i)) (Agr rw Hs Gs ws) (mkL (ao (nth (ak F c.f) i)).size D) w:=hinv.elim (fun h=>.inl h.1) (fun h=>.inr h.1)
    split at h
    ·rename_i j hj
     obtain⟨j1,o,j2,j3,j4,j5,j6⟩:=HT hj
     rw[j2]at h
     dsimp only at h
     have hns1:dV o.op=false:=Kz j3
     have hclo':Clo (ao (nth (ak F c.f) i)) (mkL (ao (nth (ak F c.f) i)).size (j::D)):=hclo.set j1
     have hinv':(storeDone (ao (nth (ak F c.f) i)) (mkL (ao (nth (ak F c.f) i)).size (j::D))∧eff=true)∨(Agr rw Hs Gs ws w∧(∀b,b<ws.heap.size→jm c.H G b→jm Hs Gs b)∧(eff=false→c.H=Hs∧G=Gs∧w=ws)∧¬storeDone (ao (nth (ak F c.f) i)) (mkL (ao (nth (ak F c.f) i)).size (j::D))):=
      hinv.elim (fun h=>.inl ⟨h.1.set j,h.2⟩) fun h=>.inr ⟨h.1,h.2.1,h.2.2.1,fun h'=>h.2.2.2 (h'.unset j2 hns1)⟩
     have take:∀{v:Value},YieldsIf P (ao (nth (ak F c.f) i)) (fun w'=>nD o.op=true→Agr rw Hs Gs ws w') o v a→AtG P fn (fY P F Rt c.fs ats) (ak F c.f) (iu P fn (fY P F Rt c.fs ats) (ak F c.f) c.K) i (Agr rw Hs Gs ws) m'' (j::D) (a.put o.dst v) w→AtG P fn (fY P F Rt c.fs ats) (ak F c.f) (iu P fn (fY P F Rt c.fs ats) (ak F c.f) c.K) i (Agr rw Hs Gs ws) (m''+1) D a w:=by
      intro v hy hk
      cases hl:nD o.op with
      |true=>
       obtain⟨he,haw⟩:=j4 hl
       obtain⟨hagr,_,_,hun⟩:=hinv.resolve_left (fun h=>by rw[he]at h;cases h.2)
       have hy':YieldsIf P (ao (nth (ak F c.f) i)) (Agr rw Hs Gs ws) o v a:=hy.imp (fun h=>⟨h.1,fun w' hS=>h.2 w' fun _=>hS⟩) id
       exact NR j2 (axD hns) (fun cc a w hq=>nO _ cc a _ _ w hq) hns1 haw m'' _ a w (awB j2 j6) hclo hun j1 hy' hagr hk
      |false=>
       have hy':YieldsIf P (ao (nth (ak F c.f) i)) (fun _=>True) o v a:=hy.imp (fun h=>⟨h.1,fun w' _=>h.2 w' fun h'=>by rw[hl]at h';cases h'⟩) id
       exact GS j2 (axD hns) (fun cc a w hq=>nO _ cc a _ _ w hq) hns1 m'' _ a w (awB j2 j6) j1 hy' hsst hk
     rcases fB hc.fr h with⟨L1,h1,hf1,hw⟩|⟨L1,h1,hf1,hw⟩
     ·obtain⟨s,v,h2,h3,h4⟩:=ml hT hc.sr hf1 h1
      split at h2<;>try (cases h2;done)
      rename_i L2 hp
      refine take (v:=v) (.inl ⟨hw,fun w' hS=>h4 w' fun hl=>?_⟩) ?_
      ·obtain⟨he,_⟩:=j4 hl
       obtain⟨_,_,heff,_⟩:=hinv.resolve_left (fun h=>by rw[he]at h;cases h.2)
       obtain⟨e1,e2,e3⟩:=heff he
       rw[e1,e2,e3]
       exact hS hl
      ·exact ih _ _ h2 G w (a.put o.dst v) ats fn ⟨hc.sr,hf1.put hp h3,hc.fl,hc.frs⟩ hfn Hs Gs ws hinv' hclo' hns m'' (by simp;omega)
     ·split at h1<;>try (cases h1;done)
      rename_i L2 hp
      refine take (v:=undef) (.inr ⟨hw,rfl⟩) ?_
      exact ih _ _ h1 G w (a.put o.dst undef) ats fn ⟨hc.sr,hf1.put hp rfl,hc.fl,hc.frs⟩ hfn Hs Gs ws hinv' hclo' hns m'' (by simp;omega)
    ·refine tg (rs:=Region.ready .any (ao (nth (ak F c.f) i)) (mkL (ao (nth (ak F c.f) i)).size D)) rfl (by assumption) fun k hk=>?_
     have h:=AK h k hk
     split at h<;>try (cases h;done)
     rename_i o j2
     have hclo':Clo (ao (nth (ak F c.f) i)) (mkL (ao (nth (ak F c.f) i)).size (k::D)):=hclo.set hk
     have hsst':Sst (ao (nth (ak F c.f) i)) (Agr rw Hs Gs ws) (mkL (ao (nth (ak F c.f) i)).size (k::D)) w:=hsst.set k
     have sdone:dV o.op=true→storeDone (ao (nth (ak F c.f) i)) (mkL (ao (nth (ak F c.f) i)).size (k::D)):=fun h=>⟨k,o,j2,h,ja _ _⟩
     have hinv':dV o.op=false→(storeDone (ao (nth (ak F c.f) i)) (mkL (ao (nth (ak F c.f) i)).size (k::D))∧eff=true)∨(Agr rw Hs Gs ws w∧(∀b,b<ws.heap.size→jm c.H G b→jm Hs Gs b)∧(eff=false→c.H=Hs∧G=Gs∧w=ws)∧¬storeDone (ao (nth (ak F c.f) i)) (mkL (ao (nth (ak F c.f) i)).size (k::D))):=
      fun hns1=>hinv.elim (fun h=>.inl ⟨h.1.set k,h.2⟩) fun h=>.inr ⟨h.1,h.2.1,h.2.2.1,fun h'=>h.2.2.2 (h'.unset j2 hns1)⟩
     unfold wpOp
     simp only[j2]
     rcases fB hc.fr h with⟨L1,h1,hf1,hw⟩|⟨L1,h1,hf1,hw⟩
     ·rw[avn hw]
      refine .inl ?_
      unfold Oper.wp
      split at h1
      ·rename_i hq
       have hns1:dV o.op=false:=Kz hq
       obtain⟨s,v,h2,h3,h4⟩:=ml hT hc.sr hf1 h1
       split at h2<;>try (cases h2;done)
       rename_i L2 hp
       rw[h4 w (fun _=>Agr.refl)]
       exact⟨hsst',ih _ _ h2 G w (a.put o.dst v) ats fn ⟨hc.sr,hf1.put hp h3,hc.fl,hc.frs⟩ hfn Hs Gs ws (hinv' hns1) hclo' hns m'' (by simp;omega)⟩
      ·split at h1<;>try (cases h1;done)
       rename_i hcond
       simp only[aw5]at hcond
       obtain⟨hst1,hst2⟩:=hcond
       simp only[Bool.and_eq_false_iff]at hst2
       refine vJ hT hE hI hc.sr hf1 h1 fun s H' L2 G' w' v h2 h3 h4 h5 h6=>?_
       split at h2<;>try (cases h2;done)
       rename_i L3 hp
       have hcr:CR Z F w0 {c with L:=L3,H:=H'} G' w' (a.put o.dst v) ats:=⟨h3,h4.put hp h5,ava hc.fl h6.len,hc.frs.evF h6.pres (auY _)⟩
       cases hiss:dV o.op with
       |true=>exact⟨.inl (sdone hiss),ih _ _ h2 G' w' (a.put o.dst v) ats fn hcr hfn Hs Gs ws (.inl ⟨sdone hiss,rfl⟩) hclo' hns m'' (by simp;omega)⟩
       |false=>
        rcases hinv with hinv|⟨hagr,hrows,heff,hun⟩
        ·exact⟨.inl (hinv.1.set k),ih _ _ h2 G' w' (a.put o.dst v) ats fn hcr hfn Hs Gs ws (.inl ⟨hinv.1.set k,rfl⟩) hclo' hns m'' (by simp;omega)⟩
        ·have hag:=h6.agr.resolve_left (by rw[hiss,hst1];simp)
         have hagr':Agr rw Hs Gs ws w':=by
          refine⟨ava hagr.1 hag.1.1,fun b hb hor=>?_⟩
          rw[←hagr.2 b hb hor]
          refine hag.1.2 b (aww hb hagr.1) ?_
          rcases hst2 with h7|h7
          ·left;rw[h7];rfl
          ·right
           rcases hor with hor|hor
           ·rw[h7]at hor;cases hor
           ·exact fun hx=>hor (hrows b hb hx)
         exact⟨.inr hagr',ih _ _ h2 G' w' (a.put o.dst v) ats fn hcr hfn Hs Gs ws (.inr ⟨hagr',fun b hb hx=>hrows b hb (hag.2 b (aww hb hagr.1) hx),(fun e=>by cases e),fun h'=>hun (h'.unset j2 hiss)⟩) hclo' hns m'' (by simp;omega)⟩
     ·rw[avf (by rw[hw];simp)]
      split at h1<;>try (cases h1;done)
      rename_i L2 hp
      refine⟨hsst',ih _ _ h1 G w (a.put o.dst undef) ats fn ⟨hc.sr,hf1.put hp rfl,hc.fl,hc.frs⟩ hfn Hs Gs ws ?_ hclo' hns m'' (by simp;omega)⟩
      cases hiss:dV o.op with
      |true=>exact .inl ⟨sdone hiss,by simp⟩
      |false=>simpa using hinv' hiss
  ·-- tam
   rename_i i D
   clear h
   simp only[jO]
   intro hD0 hns
   subst hD0
   have hlow:∀t s,aW c.L t=some s→s.refsT c.H.length=true:=fun t s hs=>by
    obtain⟨v,_,hv⟩:=hc.fr.slot t s hs
    exact ki hc.sr hv
   obtain⟨la,ss,hp,hnew,hrun⟩:=KV hT hE (c:=c) (m+1) [] c.L h0 (by rw[J6];rfl) (fun j hj=>by cases hj) hlow uh
   obtain⟨G1,g1,g2,g3⟩:=Ad (dn (mkL (ao (nth (ak F c.f) i)).size [])) (la:=la) (fun x hx=>by
    obtain⟨⟨o,ho,_⟩,_⟩:=hp.la2 x hx
    exact fa (by simp) (au7.1 ho).1) hc.sr hc.fr
   have hst0:cV (dn (mkL (ao (nth (ak F c.f) i)).size [])) ss (c.H++alX (dn (mkL (ao (nth (ak F c.f) i)).size [])) la)=c.H++alX (dn (mkL (ao (nth (ak F c.f) i)).size [])) la:=mt fun s hs=>by
    obtain⟨⟨o,ho,_⟩,_⟩:=hp.ss1 s hs
    exact fa (by simp) (au7.1 ho).1
   refine TRun.sound (T:=T) (S0:=fun _=>True) (fun _ _ h _=>h) (fun _ _=>trivial) (fl:=c.fl) (X:=fun H G w=>FrsOk Z F H G w c.fl c.fs ats) hT hE hI (axD hns) (nO _) yq Ka hp hnew (uB hc.sr) hc.fl (fun H G w H' G' w' hx hp=>hx.ev hp (auY _)) (fun n l L G w a hf ho hcl hsz hL k1 k2 k3=>?_) _ _ _ hrun uh (by rw[fC]) (fun t s hs=>.inl (hlow t s hs)) G1 w a (by rw[hst0];exact g1) (by rw[hst0];exact g2) (by rw[hst0];exact hc.frs.ev (fun s v h _=>g3 s v h) (auY _)) trivial
   rcases hf.resolve_right (fun h=>h.1)with⟨D',q,_,e1,rfl,rfl,rfl,e2,e3,e4,e5⟩|⟨D',q,L0,ss',q1,q2,q3,qW,qS,eC,e2,e3,e4,e5,e6,e7,e8⟩|⟨D',q,j,o,_,_,rfl,rfl,rfl,e2,e2',hrd,ho1,e4,e5⟩
   ·rw[show cV (dn (mkL (ao (nth (ak F c.f) i)).size D')) [] (c.H++alX (dn (mkL (ao (nth (ak F c.f) i)).size D')) [])=c.H from avs _]at k1 k2 k3
    refine o9 _ _ _ _ (ihs q (by omega) _ _ e5 G w a ats fn ⟨k1,k2,hc.fl,k3⟩ hfn c.H G w (.inr ⟨Agr.refl,fun _ _ hx=>hx,fun _=>⟨rfl,rfl,rfl⟩,?_⟩) hcl hns n e2)
    rintro ⟨s,os,h1,h2,h3⟩
    have hlt:=(au7.1 h1).1
    have:s∈D':=by
     apply ave
     intro hn
     rw[vH hn hlt]at h3
     cases h3
    have:=e3 s this os h1
    rw[h2]at this
    cases this
   ·have hst:cV (dn l) ss (c.H++alX (dn l) la)=cV (dn l) ss' (c.H++alX (dn l) la):=by
     rcases qS with⟨_,rfl,h⟩|⟨_,rfl,_⟩
     ·exact(mt (ss:=ss') h).symm
     ·rfl
    rw[hst]at k1 k2 k3
    refine LQ (fl:=c.fl) (X:=fun H G w=>FrsOk Z F H G w c.fl c.fs ats) hT hE hI q1 q2 q3 qW (uB hc.sr) e7 hc.fl (by rw[fC]) (fun H G w H' G' w' hx hp=>hx.ev hp (auY _)) (fun n l G w a r1 r2 r3 r4 r5 r6 u1 u2 u3=>?_) n l e4 hsz e5 e6 hcl G w a k1 (k2.eqv e8) k3
    have hl:l=mkL (ao (nth (ak F c.f) i)).size ((la.map (·.i)++ss'.map (·.i))++D'):=by
     refine Array.ext (by rw[r2,fC]) fun k h1 h2=>?_
     rw[show l[k]=l.getD k true by simp[h1],show(mkL (ao (nth (ak F c.f) i)).size ((la.map (·.i)++ss'.map (·.i))++D'))[k]=(mkL (ao (nth (ak F c.f) i)).size ((la.map (·.i)++ss'.map (·.i))++D')).getD k true by rw[avJ,aw0 h2];rfl]
     by_cases hm:k∈(la.map (·.i)++ss'.map (·.i))++D'
     ·rw[zG hm]
      rcases avj.1 hm with hm|hm
      ·exact r4 k hm
      ·have:=r3 k (by rw[gJ (by rw[fC,←r2];exact h1)];exact zG hm)
       rw[gJ h1]at this;exact this
     ·rw[fa hm (by rw[←r2];exact h1)]
      cases hq:l.getD k true with
      |false=>rfl
      |true=>
       exfalso
       rw[avj,not_or]at hm
       rcases r5 k hq with h|h
       ·rw[fa hm.2 (by rw[←r2];exact h1)]at h;cases h
       ·exact hm.1 h
    subst hl
    have hcu:=I6 (ao (nth (ak F c.f) i)).size ((la.map (·.i)++ss'.map (·.i))++D')
    refine yX ((ao (nth (ak F c.f) i)).size-((la.map (·.i)++ss'.map (·.i))++D').length) n _ _ _ (by omega) (o9 _ _ _ _ (ihs q (by omega) _ _ e3 G w a ats fn ⟨u1,u2,by rw[oN,avv];exact ava hc.fl (Nat.le_add_right _ _),u3⟩ hfn (cV (fun _=>true) ss' (c.H++alX (fun _=>true) la)) G w ?_ r6 hns ((ao (nth (ak F c.f) i)).size-((la.map (·.i)++ss'.map (·.i))++D').length) (axm eC)))
    by_cases hsd:storeDone (ao (nth (ak F c.f) i)) (mkL (ao (nth (ak F c.f) i)).size ((la.map (·.i)++ss'.map (·.i))++D'))
    ·exact .inl ⟨hsd,rfl⟩
    ·exact .inr ⟨Agr.refl,fun _ _ hx=>hx,fun e=>(by cases e),hsd⟩
   ·rw[show cV (dn (mkL (ao (nth (ak F c.f) i)).size D')) [] (c.H++alX (dn (mkL (ao (nth (ak F c.f) i)).size D')) [])=c.H from avs _]at k1 k2 k3
    have hjr:j∈Region.ready .any (ao (nth (ak F c.f) i)) (mkL (ao (nth (ak F c.f) i)).size D'):=by rw[hrd];simp
    obtain⟨n',rfl⟩:∃n',n=n'+1:=⟨n-1,by omega⟩
    have hn':n'=(ao (nth (ak F c.f) i)).size-(j::D').length:=by simp;omega
    refine tg hrd (by simp) fun k hk=>?_
    have hk:k=j:=by simpa using hk
    subst hk
    unfold wpOp
    simp only[ho1]
    rcases fB k2 e5 with⟨L1,h1,hf1,hw⟩|⟨L1,h1,hf1,hw⟩
    ·rw[avn hw]
     refine .inl ?_
     unfold Oper.wp
     split at h1<;>try (cases h1;done)
     rename_i g ss hin
     obtain⟨f,args,tys,fg,caps,e1,e2,e3,e4,e5,e6,e7⟩:=Di hf1 hin
     have hcl2:eu P g=true:=by unfold eu;rw[hF g fg e2];simp only[e6,e7,auT]
     rw[kU hcl2 a.eval o f args tys caps e1 e3 w]
     obtain⟨B,hB⟩:=avV.1 e7
     have hbf:ak F g=B:=by simp[ak,e2,hB]
     have hcal:Calls P g (args.map a.eval++caps) w (fY P F Rt ({f:=c.f,K:=c.K,i:=i,k:=k,L:=Au N c.f i L1,fl:=c.fl,d:=some (k::D')}::c.fs) (a::ats)):=by
      have hto:args.map a.eval++caps=(args.map a.eval++caps).toList.toArray:=by simp
      rw[hto]
      refine enter (hF g fg e2) hB (avp (by rw[←eT e4];exact e5)) fun a2 hst=>?_
      have:=ihs q (by omega) _ _ h1 G w a2 (a::ats) fg ⟨k1,⟨hst.defers,by rw[hst.size];simp[ntm,e2],mv e4 hst.slot⟩,auY _,⟨⟨hf1.defers,hf1.size,fun t s hs=>hf1.slot t s (j7 hs)⟩,fun t s hs=>by obtain⟨v,_,hv⟩:=hf1.slot t s (j7 hs);exact ki k1 hv,⟨hc.fl,⟨fn,hfn⟩,fun D hD=>by
       injection hD with hD
       subst hD
       exact⟨hcl.set hjr,hns,by simpa using e2'⟩⟩,k3⟩⟩ e2
      simp only[jO,iu]at this
      rw[hbf]at this
      exact this
     refine Calls.mono hcal ?_
     rintro e w' ⟨v,rfl,fn',o',q1,q2,_,q3⟩
     have q3:=q3 _ rfl
     simp only at q1 q2 q3
     rw[hfn]at q1
     injection q1 with q1
     subst q1
     rw[ho1]at q2
     injection q2 with q2
     subst q2
     refine⟨.inr trivial,?_⟩
     rw[hn']
     exact q3
    ·rw[avf (by rw[hw];simp)]
     split at h1<;>try (cases h1;done)
     rename_i L2 hp2
     refine⟨.inr trivial,?_⟩
     rw[hn']
     exact ihs q (by omega) _ _ h1 G w (a.put o.dst undef) ats fn ⟨k1,hf1.put hp2 rfl,hc.fl,k3⟩ hfn (fun _=>True) (fun _ _ _ _=>trivial) (.inr trivial) (hcl.set hjr) hns _ (axm (by simpa using e2'))
  ·-- tbx
   rename_i i D
   clear h
   simp only[jO]
   intro hD0 hns
   subst hD0
   have hlow:∀t s,aW c.L t=some s→s.refsT c.H.length=true:=fun t s hs=>by
    obtain⟨v,_,hv⟩:=hc.fr.slot t s hs
    exact ki hc.sr hv
   obtain⟨la,ss,Φ,hstr,hp,hnew,hdd,hrun⟩:=adT hT hE (c:=c) (m+1) [] c.L c.H h0 (by rw[J6];rfl) (fun j hj=>by cases hj) hlow uh
   obtain⟨G1,g1,g2,g3⟩:=Ad (dn (mkL (ao (nth (ak F c.f) i)).size [])) (la:=la) (fun x hx=>by
    obtain⟨⟨o,ho,_⟩,_⟩:=hp.la2 x hx
    exact fa (by simp) (au7.1 ho).1) hc.sr hc.fr
   have hst0:cV (dn (mkL (ao (nth (ak F c.f) i)).size [])) ss (c.H++alX (dn (mkL (ao (nth (ak F c.f) i)).size [])) la)=c.H++alX (dn (mkL (ao (nth (ak F c.f) i)).size [])) la:=mt fun s hs=>by
    obtain⟨⟨o,ho,_⟩,_⟩:=hp.ss1 s hs
    exact fa (by simp) (au7.1 ho).1
   have hml:(c.H.map ddJ).length=c.H.length:=awj _
   have hlen:(Φ c.H).length=c.H.length:=by rw[←awj (f:=ddJ),hdd,hml]
   have hlowΦ:nG (Φ c.H).length (Φ c.H):=by rw[hlen];exact LJ (by rw[hdd];exact HQ (uB hc.sr))
   have hlate:∀(j:Nat) (oj:Oper),(ao (nth (ak F c.f) i))[j]?=some oj→bO oj=true→fb E (ao (nth (ak F c.f) i)) j=false:=fun j oj hoj hal=>by
    unfold fb
    rw[hoj]
    dsimp only
    rw[hal]
    simp
   have hclΦ:c.fl≤(Φ c.H).length:=by rw[hlen];exact hc.fl
   refine TRunB.sound (T:=T) (Hf:=Φ c.H) (fl:=c.fl) (X:=fun H G w=>FrsOk Z F H G w c.fl c.fs ats) hT hE hI (fun n l L j oj hf hcl hj ho hoj hal=>?_) (fun hlo=>by rw[hstr]at hlo;cases hlo) hp (fun s hs=>by rw[hml];exact hnew s hs) (by rw[hml];exact HQ (uB hc.sr)) (by rw[hml];exact hc.fl) (fun H G w H' G' w' hx hp=>hx.ev hp (auY _)) (fun n l L G w a ho hf hcl hsz hL k1 k2 k3=>?_) _ _ _ _ hrun c.H rfl rfl uh (by rw[fC]) (fun t s hs=>.inl (by rw[hml];exact hlow t s hs)) G1 w a (by rw[hst0];exact g1) (by rw[hst0];exact g2) (by rw[hst0];exact hc.frs.ev (fun s v h _=>g3 s v h) (auY _))
   ·obtain⟨n',r',x,L',e1,e2,e3,e4,e5,e6,e7,e8⟩:=yq n l L j oj hf hj ho hoj hal
    have hon:=AR ho j (hlate j oj hoj hal)
    exact⟨n',r',x,L',e1,e2,e3,e4,e5,e6,(by rw[hml,←hlen];exact e7),hon,e8.fin hon (hcl.set hj)⟩
   have hnewΦ:∀s∈ss,(Φ c.H).length≤s.j:=fun s hs=>by rw[hlen];exact hnew s hs
   have hpΦ:PlanOk T (ao (nth (ak F c.f) i)) (ntm F c.f) (Φ c.H) la ss:=t3 hp (fun s hs=>by rw[hml];exact hnew s hs) (by rw[hml];exact hlen)
   rcases hf with⟨D',q,_,e1,rfl,rfl,rfl,e2,e3,e4,e5⟩|⟨D',q,L0,ss',q1,q2,q3,qW,qS,eC,e2,e3,e4,e5,e6,e7,e8⟩|⟨D',q,j,o,_,_,rfl,rfl,rfl,e2,e2',hrd,ho1,e4,e5⟩
   ·rw[show cV (dn (mkL (ao (nth (ak F c.f) i)).size D')) [] ((Φ c.H)++alX (dn (mkL (ao (nth (ak F c.f) i)).size D')) [])=(Φ c.H) from avs _]at k1 k2 k3
    refine o9 _ _ _ _ (ihs q (by omega) _ _ e5 G w a ats fn ⟨k1,k2,hclΦ,k3⟩ hfn (Φ c.H) G w (.inr ⟨Agr.refl,fun _ _ hx=>hx,fun _=>⟨rfl,rfl,rfl⟩,?_⟩) hcl hns n e2)
    rintro ⟨s,os,h1,h2,h3⟩
    have hlt:=(au7.1 h1).1
    have:s∈D':=by
     apply ave
     intro hn
     rw[vH hn hlt]at h3
     cases h3
    have:=e3 s this os h1
    rw[h2]at this
    cases this
   ·have hst:cV (dn l) ss ((Φ c.H)++alX (dn l) la)=cV (dn l) ss' ((Φ c.H)++alX (dn l) la):=by
     rcases qS with⟨_,rfl,h⟩|⟨_,rfl,_⟩
     ·exact(mt (ss:=ss') h).symm
     ·rfl
    rw[hst]at k1 k2 k3
    refine LQ (fl:=c.fl) (X:=fun H G w=>FrsOk Z F H G w c.fl c.fs ats) hT hE hI q1 q2 q3 qW hlowΦ e7 hclΦ (by rw[fC]) (fun H G w H' G' w' hx hp=>hx.ev hp (auY _)) (fun n l G w a r1 r2 r3 r4 r5 r6 u1 u2 u3=>?_) n l e4 hsz e5 e6 hcl G w a k1 (k2.eqv e8) k3
    have hl:l=mkL (ao (nth (ak F c.f) i)).size ((la.map (·.i)++ss'.map (·.i))++D'):=by
     refine Array.ext (by rw[r2,fC]) fun k h1 h2=>?_
     rw[show l[k]=l.getD k true by simp[h1],show(mkL (ao (nth (ak F c.f) i)).size ((la.map (·.i)++ss'.map (·.i))++D'))[k]=(mkL (ao (nth (ak F c.f) i)).size ((la.map (·.i)++ss'.map (·.i))++D')).getD k true by rw[avJ,aw0 h2];rfl]
     by_cases hm:k∈(la.map (·.i)++ss'.map (·.i))++D'
     ·rw[zG hm]
      rcases avj.1 hm with hm|hm
      ·exact r4 k hm
      ·have:=r3 k (by rw[gJ (by rw[fC,←r2];exact h1)];exact zG hm)
       rw[gJ h1]at this;exact this
     ·rw[fa hm (by rw[←r2];exact h1)]
      cases hq:l.getD k true with
      |false=>rfl
      |true=>
       exfalso
       rw[avj,not_or]at hm
       rcases r5 k hq with h|h
       ·rw[fa hm.2 (by rw[←r2];exact h1)]at h;cases h
       ·exact hm.1 h
    subst hl
    have hcu:=I6 (ao (nth (ak F c.f) i)).size ((la.map (·.i)++ss'.map (·.i))++D')
    refine yX ((ao (nth (ak F c.f) i)).size-((la.map (·.i)++ss'.map (·.i))++D').length) n _ _ _ (by omega) (o9 _ _ _ _ (ihs q (by omega) _ _ e3 G w a ats fn ⟨u1,u2,by rw[oN,avv];exact ava hclΦ (Nat.le_add_right _ _),u3⟩ hfn (cV (fun _=>true) ss' ((Φ c.H)++alX (fun _=>true) la)) G w ?_ r6 hns ((ao (nth (ak F c.f) i)).size-((la.map (·.i)++ss'.map (·.i))++D').length) (axm eC)))
    by_cases hsd:storeDone (ao (nth (ak F c.f) i)) (mkL (ao (nth (ak F c.f) i)).size ((la.map (·.i)++ss'.map (·.i))++D'))
    ·exact .inl ⟨hsd,rfl⟩
    ·exact .inr ⟨Agr.refl,fun _ _ hx=>hx,fun e=>(by cases e),hsd⟩
   ·rw[show cV (dn (mkL (ao (nth (ak F c.f) i)).size D')) [] ((Φ c.H)++alX (dn (mkL (ao (nth (ak F c.f) i)).size D')) [])=(Φ c.H) from avs _]at k1 k2 k3
    have e2:n+D'.length=(ao (nth (ak F c.f) i)).size:=e2
    have e2':D'.length+1≤(ao (nth (ak F c.f) i)).size:=e2'
    have hjr:j∈Region.ready .any (ao (nth (ak F c.f) i)) (mkL (ao (nth (ak F c.f) i)).size D'):=by rw[hrd];simp
    obtain⟨n',rfl⟩:∃n',n=n'+1:=⟨n-1,by omega⟩
    have hn':n'=(ao (nth (ak F c.f) i)).size-(j::D').length:=by simp;omega
    refine tg hrd (by simp) fun k hk=>?_
    have hk:k=j:=by simpa using hk
    subst hk
    unfold wpOp
    simp only[ho1]
    rcases fB k2 e5 with⟨L1,h1,hf1,hw⟩|⟨L1,h1,hf1,hw⟩
    ·rw[avn hw]
     refine .inl ?_
     unfold Oper.wp
     split at h1<;>try (cases h1;done)
     rename_i g ss hin
     obtain⟨f,args,tys,fg,caps,e1,e2,e3,e4,e5,e6,e7⟩:=Di hf1 hin
     have hcl2:eu P g=true:=by unfold eu;rw[hF g fg e2];simp only[e6,e7,auT]
     rw[kU hcl2 a.eval o f args tys caps e1 e3 w]
     obtain⟨B,hB⟩:=avV.1 e7
     have hbf:ak F g=B:=by simp[ak,e2,hB]
     have hcal:Calls P g (args.map a.eval++caps) w (fY P F Rt ({f:=c.f,K:=c.K,i:=i,k:=k,L:=Au N c.f i L1,fl:=c.fl,d:=some (k::D')}::c.fs) (a::ats)):=by
      have hto:args.map a.eval++caps=(args.map a.eval++caps).toList.toArray:=by simp
      rw[hto]
      refine enter (hF g fg e2) hB (avp (by rw[←eT e4];exact e5)) fun a2 hst=>?_
      have:=ihs q (by omega) _ _ h1 G w a2 (a::ats) fg ⟨k1,⟨hst.defers,by rw[hst.size];simp[ntm,e2],mv e4 hst.slot⟩,auY _,⟨⟨hf1.defers,hf1.size,fun t s hs=>hf1.slot t s (j7 hs)⟩,fun t s hs=>by obtain⟨v,_,hv⟩:=hf1.slot t s (j7 hs);exact ki k1 hv,⟨hclΦ,⟨fn,hfn⟩,fun D hD=>by
       injection hD with hD
       subst hD
       exact⟨hcl.set hjr,hns,by simpa using e2'⟩⟩,k3⟩⟩ e2
      simp only[jO,iu]at this
      rw[hbf]at this
      exact this
     refine Calls.mono hcal ?_
     rintro e w' ⟨v,rfl,fn',o',q1,q2,_,q3⟩
     have q3:=q3 _ rfl
     simp only at q1 q2 q3
     rw[hfn]at q1
     injection q1 with q1
     subst q1
     rw[ho1]at q2
     injection q2 with q2
     subst q2
     refine⟨.inr trivial,?_⟩
     rw[hn']
     exact q3
    ·rw[avf (by rw[hw];simp)]
     split at h1<;>try (cases h1;done)
     rename_i L2 hp2
     refine⟨.inr trivial,?_⟩
     rw[hn']
     exact ihs q (by omega) _ _ h1 G w (a.put o.dst undef) ats fn ⟨k1,hf1.put hp2 rfl,hclΦ,k3⟩ hfn (fun _=>True) (fun _ _ _ _=>trivial) (.inr trivial) (hcl.set hjr) hns _ (axm (by simpa using e2'))
  ·-- tal
   rename_i i D
   clear h
   simp only[jO]
   intro S0 hS0 hSt hclo hns m' hm'
   have hlow:∀t s,aW c.L t=some s→s.refsT c.H.length=true:=fun t s hs=>by
    obtain⟨v,_,hv⟩:=hc.fr.slot t s hs
    exact ki hc.sr hv
   have hrun:=aaU hT hE (c:=c) (m+1) D c.L h0 (by omega)
   have e:m'=(ao (nth (ak F c.f) i)).size-D.length:=by omega
   subst e
   have key:∀S1:World→Prop,(∀w w',S1 w→Old w w'→S1 w')→S1 w→wpG P (ao (nth (ak F c.f) i)) (iE P fn (fY P F Rt c.fs ats) (ak F c.f) (iu P fn (fY P F Rt c.fs ats) (ak F c.f) c.K)) S1 ((ao (nth (ak F c.f) i)).size-D.length) (mkL (ao (nth (ak F c.f) i)).size D) a w:=fun S1 hS1 hw1=>by
    refine TRun.sound (T:=T) (S0:=S1) (la:=[]) (ss:=[]) hS1 (fun h=>(h rfl).elim) (fl:=c.fl) (X:=fun H G w=>FrsOk Z F H G w c.fl c.fs ats) hT hE hI (axD hns) (nO _) (fun _ _ _ _ _ h=>h.elim) (fun _ _ _ _ _ _ h=>h.elim) (N:=ntm F c.f) ⟨List.Pairwise.nil,fun a ha=>(by cases ha),fun s hs=>(by cases hs),List.Pairwise.nil⟩ (fun s hs=>by cases hs) (uB hc.sr) hc.fl (fun H G w H' G' w' hx hp=>hx.ev hp (auY _)) (fun n l L G w a hf ho hcl hsz hL k1 k2 k3=>?_) _ _ _ hrun hclo (by rw[fC]) (fun t s hs=>.inl (hlow t s hs)) G w a (by rw[show cV (dn (mkL (ao (nth (ak F c.f) i)).size D)) [] (c.H++alX (dn (mkL (ao (nth (ak F c.f) i)).size D)) [])=c.H from avs _];exact hc.sr) (by rw[show cV (dn (mkL (ao (nth (ak F c.f) i)).size D)) [] (c.H++alX (dn (mkL (ao (nth (ak F c.f) i)).size D)) [])=c.H from avs _];exact hc.fr) (by rw[show cV (dn (mkL (ao (nth (ak F c.f) i)).size D)) [] (c.H++alX (dn (mkL (ao (nth (ak F c.f) i)).size D)) [])=c.H from avs _];exact hc.frs) hw1
    rcases hf with h|⟨⟨q,hq,hgo⟩,hrd⟩
    ·exact h.elim
    ·rw[show cV (dn l) [] (c.H++alX (dn l) [])=c.H from avs _]at k1 k2 k3
     exact zT hrd (ihs q (by omega) _ _ hgo G w a ats fn ⟨k1,k2,hc.fl,k3⟩ hfn) _
   rcases hSt with h|h
   ·exact RP _ _ _ _ h (key (fun _=>True) (fun _ _ _ _=>trivial) trivial)
   ·exact key S0 hS0 h
  ·-- ret
   simp only[jO]
   rw[hfn]at h
   dsimp only at h
   split at h<;>try (cases h;done)
   rename_i ss hss
   split at h
   ·rename_i hfs
    rw[hfs]
    have hats:ats=[]:=by
     have:=hc.frs
     rw[hfs]at this
     cases ats with
     |nil=>rfl
     |cons=>exact this.elim
    subst hats
    exact YD hT hc.sr hc.fr hss fun vs hvs=>hRt vs _ _ _ _ _ h hc.sr hvs
   ·rename_i fm fs hfs
    split at h<;>try (cases h;done)
    rename_i o ho
    split at h<;>try (cases h;done)
    rename_i L2 hp hgood
    have hfrs:=hc.frs
    rw[hfs]at hfrs ⊢
    match ats,hfrs with
    |a0::ats,⟨k1,k2,k3,k4⟩=>
     obtain⟨k3,⟨fn',hfn'⟩,k5⟩:=k3
     refine YD hT hc.sr hc.fr hss fun vs hvs=>⟨_,rfl,fn',o,hfn',ho,?_⟩
     have hb:=Yb (fun s hs l e=>by subst e;have:=avg.1 hgood _ hs;simp[SV.good]at this) hvs
     split at h
     ·rename_i hd
      exact⟨fun _=>ih _ _ h G w (a0.put o.dst _) ats fn' ⟨hc.sr,k1.put hp hb,ava k3 hc.fl,k4⟩ hfn',fun D hD=>(by rw[hd]at hD;cases hD)⟩
     ·rename_i D hd
      refine⟨fun hD=>(by rw[hd]at hD;cases hD),fun D' hD=>?_⟩
      rw[hd]at hD
      injection hD with hD
      subst hD
      obtain⟨d1,d2,d3⟩:=k5 D hd
      exact ih _ _ h G w (a0.put o.dst _) ats fn' ⟨hc.sr,k1.put hp hb,ava k3 hc.fl,k4⟩ hfn' (fun _=>True) (fun _ _ _ _=>trivial) (.inr trivial) d1 d2 _ (axm d3)
end
end
structure Ctx where
 P:Program
 F:FT
 T:TT
 E:Env
 N:NT
structure Ctx.Ok (C:Ctx):Prop where
 T:fj C.P C.T=true
 E:lN C.P C.E
 F:∀f fn,gX C.F f=some fn→C.P.funcs[f]?=some fn
 m:C.P.follows .mixedOrders=true
def Ctx.k(C:Ctx)(n:Nat):Nat→Cfg→Option (List RV):=run C.P C.F C.T C.E C.N n
def Ctx.Runs(C:Ctx)(i:Nat)(c:Cfg)(r:List RV):Prop:=∃n,C.k n i c=some r
def Ctx.RunsE(C:Ctx)(i:Nat)(c:Cfg)(r:List RV):Prop:=∃n0,∀n,n0≤n→C.k n i c=some r
def Ctx.go(C:Ctx)(n:Nat)(c:Cfg)(p:Pos):Option (List RV):=Proofs.YtgddhgcjmddjfaaGreat.go C.P C.F C.T C.E C.N (C.k n) 4000 c p
def Ctx.Res(C:Ctx)(f:Nat)(args:List SV)(r:List RV):Prop:=∃n,C.go n (FQ f args) (.node 0)=some r
theorem Ctx.Runs.step{C:Ctx}{i:Nat}{c:Cfg}{r:List RV}(h:∃n,C.go n {c with K:=.lp i::c.K} (.node (i+1))=some r):C.Runs i c r:=by
 obtain⟨n,h⟩:=h
 exact⟨n+1,h⟩
def okF(fn:Func)(k:Nat):Bool:=fn.body.isSome&&Nat.ble k fn.ntmps
theorem Qk{C:Ctx}(ok:C.Ok){Z:Nat→Prop}{w0:World}(hI:inv w0){Rt:Ending→World→Prop}{r:List RV}(hRt:∀vs H G w ss tys,AH C.T H ss tys=some r→SR Z w0 H G w→cM (Rel G (Av Z H G) w) ss vs→Rt (.returned (lU vs)) w):
  ∀n i c G w a ats fn,run C.P C.F C.T C.E C.N n i c=some r→CR Z C.F w0 c G w a ats→gX C.F c.f=some fn→InLoop C.P (nth (ak C.F c.f) (i+1)) (iE C.P fn (fY C.P C.F Rt c.fs ats) (ak C.F c.f) (iu C.P fn (fY C.P C.F Rt c.fs ats) (ak C.F c.f) c.K)) a w:=by
 intro n
 induction n with
 |zero=>intro i c G w a ats fn h;simp[run]at h
 |succ n ih=>
  intro i c G w a ats fn h hc hfn
  simp only[run]at h
  have:=Gt ok.T ok.E hI ok.F ok.m hRt (fun i c G w a ats fn h1 h2 h3=>ih i c G w a ats fn h1 h2 h3) 4000 _ _ h G w a ats fn ⟨hc.sr,hc.fr,hc.fl,hc.frs⟩ hfn
  exact InLoop.step this
theorem Ctx.Res.con{C:Ctx}(ok:C.Ok){f:Nat}{fn:Func}{args:List SV}{r:List RV}(h:C.Res f args r)(hfn:gX C.F f=some fn)(hk:okF fn args.length=true):Con C.P f args r:=by
 intro A w vs hI ha
 obtain⟨n,h⟩:=h
 simp only[okF,auW]at hk
 obtain⟨B,hB⟩:=avV.1 hk.1
 have hbf:ak C.F f=B:=by simp[ak,hfn,hB]
 let Z:Nat→Prop:=fun b=>A b∨w.heap.size≤b
 have hkp:Keeps A (Av Z [] []) w w:=⟨auY _,fun b _ hA=>⟨.inl hA,fun j it g h=>by simp at h⟩,fun _ _ _=>rfl⟩
 have ha2:cM (Rel [] (Av Z [] []) w) args vs:=co (fun s v h=>eG (h.keep hkp fun j g _ h=>h)) ha
 refine enter (ok.F f fn hfn) hB (avp (by rw[←eT ha];exact auZ hk.2)) fun a hst=>?_
 have hsr:SR Z w [] [] w:=⟨rfl,axV _ _,fun j it g h=>by simp at h,fun i j it jt g h b _ h1=>by simp at h1,fun b hb=>.inr hb⟩
 let Rt:Ending→World→Prop:=fun e w'=>∃v,e=.returned v∧Below w.heap.size w w'∧zL Z w.heap.size w' r v
 have hRt:∀vs H G w' ss tys,AH C.T H ss tys=some r→SR Z w H G w'→cM (Rel G (Av Z H G) w') ss vs→Rt (.returned (lU vs)) w':=fun vs H G w' ss tys h1 h2 h3=>⟨_,rfl,h2.below,ami ok.T h2 h1 h3⟩
 have:=Gt ok.T ok.E hI ok.F ok.m hRt (fun i c G w a ats fn h1 h2 h3=>Qk ok hI hRt n i c G w a ats fn h1 h2 h3) 4000 _ _ h [] w a [] fn ⟨hsr,⟨hst.defers,by rw[hst.size];simp[ntm,FQ,hfn],mv ha2 hst.slot⟩,auY _,trivial⟩ hfn
 simp only[jO,iu,FQ]at this
 rw[hbf]at this
 exact this
def FtAll(P:Program):FT→Prop
 |[]=>True
 |p::l=>P.funcs[p.1]?=some p.2∧FtAll P l
theorem FtAll.look{P:Program}:∀{l:FT},FtAll P l→∀f fn,gX l f=some fn→P.funcs[f]?=some fn
 |[],_,f,fn,h=>by simp[gX]at h
 |(k,x)::l,⟨h1,h2⟩,f,fn,h=>by
  simp only[gX]at h
  split at h
  ·rename_i hb
   have:=auV hb
   subst this
   injection h with h
   subst h
   exact h1
  ·exact FtAll.look h2 f fn h
abbrev KT:=Nat→Cfg→Option (List RV)
abbrev OLR:=Option (List RV)
theorem aun{C:Ctx}{f:Nat}{args:List SV}{t:KT→OLR}{r:List RV}(e:∀k,go2 C.P C.F C.T C.E C.N k 4000 (FQ f args) (.node 0)=t k)(h:∃n,t (C.k n)=some r):C.Res f args r:=by
 obtain⟨n,h⟩:=h
 exact⟨n,(Da _ _ _ _ _ _ _ _ _).symm.trans ((e _).trans h)⟩
theorem auh{C:Ctx}{i:Nat}{c:Cfg}{t:KT→OLR}{r:List RV}(e:∀k,go2 C.P C.F C.T C.E C.N k 4000 {c with K:=.lp i::c.K} (.node (i+1))=t k)(h:∃n,t (C.k n)=some r):C.Runs i c r:=by
 obtain⟨n,h⟩:=h
 exact⟨n+1,(Da _ _ _ _ _ _ _ _ _).symm.trans ((e _).trans h)⟩
theorem ape{C:Ctx}{i:Nat}{c:Cfg}{t:KT→OLR}{r:List RV}(e:∀k,go2 C.P C.F C.T C.E C.N k 4000 {c with K:=.lp i::c.K} (.node (i+1))=t k)(h:∃n0,∀n,n0≤n→t (C.k n)=some r):C.RunsE i c r:=by
 obtain⟨n0,h⟩:=h
 refine⟨n0+1,fun n hn=>?_⟩
 obtain⟨q,rfl⟩:∃q,n=q+1:=⟨n-1,by omega⟩
 exact(Da _ _ _ _ _ _ _ _ _).symm.trans ((e _).trans (h q (by omega)))
@[reducible] def DT:List Ty→Type
 |[]=>Unit
 |t::r=>t.D×DT r
def KY:(ts:List Ty)→List SV→Option (DT ts)
 |[],l=>match l with
  |[]=>some ()
  |_::_=>none
 |t::r,l=>match l with
  |.d u x::m=>match fL u t x with
   |some y=>match KY r m with
    |some z=>some (y,z)
    |none=>none
   |none=>none
  |_=>none
def svs:(ts:List Ty)→DT ts→List SV
 |[],_=>[]
 |t::r,x=>.d t x.1::svs r x.2
theorem yZ:∀{ts:List Ty} {l:List SV} {x:DT ts},KY ts l=some x→l=svs ts x
 |[],l,x,h=>by
  cases l with
  |nil=>rfl
  |cons a b=>cases h
 |t::r,l,x,h=>by
  unfold KY at h
  split at h
  ·split at h
   ·rename_i e1
    split at h
    ·rename_i e2
     injection h with h
     subst h
     obtain⟨rfl,rfl⟩:=dX e1
     rw[yZ e2]
     rfl
    ·cases h
   ·cases h
  ·cases h
def spN(keep tame:Bool)(ts:List Ty)(pre:DT ts→Bool)(res:DT ts→List RV):aM:={keep:=keep,tame:=tame,run:=fun _ args k=>match KY ts args with
 |some x=>match pre x with
  |true=>k (res x)
  |false=>none
 |none=>none}
theorem akG{P:Program}{f:Nat}{keep tame:Bool}{ts:List Ty}{pre:DT ts→Bool}{res:DT ts→List RV}(hc:eu P f=true)(h:∀x,pre x=true→Con P f (svs ts x) (res x)):eu P f=true∧ER P f (spN keep tame ts pre res)∧∀g,(spN keep tame ts pre res).mut_=some g→OW P f g:=by
 refine⟨hc,fun R args k r e=>?_,fun g e=>by cases e⟩
 unfold spN at e
 dsimp only at e
 split at e
 ·rename_i x e1
  split at e
  ·rename_i e2
   rw[yZ e1]
   exact⟨_,e,h x e2⟩
  ·cases e
 ·cases e
theorem bz{x:Int}(h1: -9223372036854775808≤x)(h2:x≤9223372036854775807):i64.wrap x=x:=IntWalk.i64_in x ⟨h1,h2⟩
theorem cr{k:Nat}(h:k+1≤9223372036854775807):i64.wrap ((k:Int)+1)=((k+1:Nat):Int):=by rw[bz (by omega) (by omega)];simp
theorem aA{α:Type}(xs:List α)(k:Nat):bi xs (k:Int)=xs[k]?:=by unfold bi;rw[auO (by omega)];rfl
theorem A6{α:Type}(xs:List α):bi xs 0=xs[0]?:=aA xs 0
theorem cd{k n:Nat}(h:k<n):decide ((k:Int)<(n:Int))=true:=auO (by omega)
theorem cz{k n:Nat}(h:n≤k):decide ((k:Int)<(n:Int))=false:=auQ (by omega)
theorem ju{α:Type}{xs:List α}{k:Nat}(h:k<xs.length):xs.drop k=xs[k]::xs.drop (k+1):=avd h
theorem tw{α:Type}{xs:List α}{k:Nat}(h:xs.length≤k):xs.drop k=[]:=avU h
theorem aP(k:Nat):((k:Int)).toNat=k:=awH k
theorem ams{m b:Nat}(hb:b≤1000)(h:m≤1000000):decide ((m+1)*b≤140737488355328∧m+1≤140737488355328)=true:=by
 have:(m+1)*b≤1000001*1000:=aw1 (by omega) hb
 exact auO ⟨by omega,by omega⟩
theorem dT{p:Prop}{i:Decidable p}(h:p): @decide p i=true:=auO h
theorem dF{p:Prop}{i:Decidable p}(h:¬p): @decide p i=false:=auQ h
def val:List Int→Int
 |[]=>0
 |x::xs=>x+1000000000*val xs
def Lim(l:List Int):Prop:=∀x∈l,0≤x∧x<1000000000
instance (l:List Int):Decidable (Lim l):=by unfold Lim;infer_instance
def pw(n:Nat):Int:=1000000000^n
theorem nW:pw 0=1:=rfl
theorem cD(n:Nat):pw (n+1)=pw n*1000000000:=by simp[pw,Int.pow_succ]
theorem ct(n:Nat):0<pw n:=Int.pow_pos (by decide)
theorem fI(m n:Nat):pw (m+n)=pw m*pw n:=Int.pow_add _ _ _
theorem dt{m n:Nat}(h:m≤n):pw m≤pw n:=by
 obtain⟨k,rfl⟩:=Nat.exists_eq_add_of_le h
 rw[fI]
 have h1:=ct m
 have h2:=ct k
 have:=au3 (show 1≤pw k by omega) (avA h1)
 omega
theorem Lim.nil:Lim []:=fun _ h=>by cases h
theorem Lim.cons{x:Int}{l:List Int}(h1:0≤x∧x<1000000000)(h2:Lim l):Lim (x::l):=fun y hy=>by
 rcases au5.1 hy with rfl|hy
 ·exact h1
 ·exact h2 y hy
theorem Lim.head{x:Int}{l:List Int}(h:Lim (x::l)):0≤x∧x<1000000000:=h x (by simp)
theorem Lim.tail{x:Int}{l:List Int}(h:Lim (x::l)):Lim l:=fun y hy=>h y (by simp[hy])
theorem Lim.append{a b:List Int}(h1:Lim a)(h2:Lim b):Lim (a++b):=fun y hy=>by
 rcases avj.1 hy with hy|hy
 ·exact h1 y hy
 ·exact h2 y hy
theorem Lim.left{a b:List Int}(h:Lim (a++b)):Lim a:=fun y hy=>h y (by simp[hy])
theorem Lim.right{a b:List Int}(h:Lim (a++b)):Lim b:=fun y hy=>h y (by simp[hy])
theorem Lim.take{a:List Int}(h:Lim a)(n:Nat):Lim (a.take n):=fun y hy=>h y (aw3 hy)
theorem Lim.drop{a:List Int}(h:Lim a)(n:Nat):Lim (a.drop n):=fun y hy=>h y (aw4 hy)
theorem Lim.set{a:List Int}(h:Lim a)(n:Nat){y:Int}(hy:0≤y∧y<1000000000):Lim (a.set n y):=fun z hz=>by
 rcases List.mem_or_eq_of_mem_set hz with hz|rfl
 ·exact h z hz
 ·exact hy
theorem Lim.get{a:List Int}(h:Lim a){n:Nat}(hn:n<a.length):0≤a[n]∧a[n]<1000000000:=h _ (avu hn)
theorem Lim.rep(n:Nat):Lim (List.replicate n 0):=fun y hy=>by
 rw[List.eq_of_mem_replicate hy];decide
theorem dH(a b:List Int):val (a++b)=val a+pw a.length*val b:=by
 induction a with
 |nil=>simp[val,pw]
 |cons x a ih=>
  simp only[List.cons_append,val,ih,avc,cD]
  grind
theorem bg{l:List Int}(h:Lim l):0≤val l:=by
 induction l with
 |nil=>exact Int.le_refl _
 |cons x l ih=>
  have:=ih h.tail
  have:=h.head
  simp only[val]
  omega
theorem cA{l:List Int}(h:Lim l):val l<pw l.length:=by
 induction l with
 |nil=>exact Int.zero_lt_one
 |cons x l ih=>
  have:=ih h.tail
  have:=h.head
  simp only[val,avc,cD]
  omega
theorem Dl:∀{a b:List Int},Lim a→Lim b→a.length=b.length→val a=val b→a=b
 |[],[],_,_,_,_=>rfl
 |[],_::_,_,_,h,_=>by simp at h
 |_::_,[],_,_,h,_=>by simp at h
 |x::a,y::b,h1,h2,hl,hv=>by
  have k1:=h1.head
  have k2:=h2.head
  simp only[val]at hv
  have e:x=y:=by omega
  subst e
  rw[Dl h1.tail h2.tail (by simpa using hl) (by omega)]
theorem gI(n:Nat):val (List.replicate n 0)=0:=by
 induction n with
 |zero=>rfl
 |succ n ih=>simp[List.replicate_succ,val,ih]
theorem bJ{l:List Int}{n:Nat}(h:n<l.length):val (l.take (n+1))=val (l.take n)+pw n*l[n]:=by
 rw[List.take_succ_eq_append_getElem h,dH]
 simp[val,avy (Nat.le_of_lt h)]
theorem fx:∀{l:List Int} {n:Nat} (h:n<l.length) (y:Int),val (l.set n y)=val l+pw n*(y-l[n])
 |[],_,h,_=>by simp at h
 |x::l,0,_,y=>by simp only[List.set_cons_zero,val,nW,List.getElem_cons_zero];omega
 |x::l,n+1,h,y=>by
  have:=fx (l:=l) (n:=n) (by simpa using h) y
  simp only[List.set_cons_succ,val,this,cD,List.getElem_cons_succ]
  grind
theorem fX(l:List Int)(n:Nat):val l=val (l.take n)+pw (min n l.length)*val (l.drop n):=by
 have:=dH (l.take n) (l.drop n)
 rw[awg]at this
 rw[this]
 simp
def dig:Nat→Int→List Int
 |0,_=>[]
 |n+1,v=>v%1000000000::dig n (v/1000000000)
theorem jc:∀(n:Nat) (v:Int),(dig n v).length=n
 |0,_=>rfl
 |n+1,v=>by simp[dig,jc n]
theorem nJ:∀(n:Nat) (v:Int),Lim (dig n v)
 |0,_=>Lim.nil
 |n+1,v=>Lim.cons (by omega) (nJ n _)
theorem ie:∀(n:Nat) (v:Int),0≤v→v<pw n→val (dig n v)=v
 |0,v,h1,h2=>by simp only[nW]at h2;simp only[dig,val];omega
 |n+1,v,h1,h2=>by
  rw[cD]at h2
  simp only[dig,val]
  rw[ie n (v/1000000000) (by omega) (by omega)]
  omega
theorem C6{l:List Int}{n:Nat}{v:Int}(h:Lim l)(hl:l.length=n)(hv:val l=v):l=dig n v:=by
 subst hl hv
 exact Dl h (nJ _ _) (jc _ _).symm (ie _ _ (bg h) (cA h)).symm
def lbF:Nat→Nat→List Int
 |0,_=>[]
 |f+1,n=>bif n==0 then []else((n%1000000000:Nat):Int)::lbF f (n/1000000000)
def ah(n:Nat):List Int:=lbF (n.log2+1) n
theorem t5(f:Nat):lbF f 0=[]:=by cases f<;>rfl
theorem GO:∀(f g n:Nat),n<2^f→n<2^g→lbF f n=lbF g n
 |0,g,n,h,_=>by
  have:n=0:=by simpa using h
  subst this
  rw[t5,t5]
 |f+1,0,n,_,h=>by
  have:n=0:=by simpa using h
  subst this
  rw[t5,t5]
 |f+1,g+1,n,h1,h2=>by
  rw[Nat.pow_succ]at h1 h2
  simp only[lbF]
  rw[GO f g (n/1000000000) (by omega) (by omega)]
theorem RM{f n:Nat}(h:n<2^f):ah n=lbF f n:=GO _ _ _ Nat.lt_log2_self h
theorem fv:ah 0=[]:=rfl
theorem gW{n:Nat}(h:n≠0):ah n=((n%1000000000:Nat):Int)::ah (n/1000000000):=by
 have h1:n/1000000000<2^n.log2:=by
  have:=Nat.lt_log2_self (n:=n)
  rw[Nat.pow_succ]at this
  omega
 rw[RM (f:=n.log2) h1]
 unfold ah
 simp only[lbF]
 rw[show(n==0)=false by simpa using h]
 rfl
theorem qJ{motive:Nat→Prop}(h0:motive 0)(h1:∀n,n≠0→motive (n/1000000000)→motive n)(n:Nat):motive n:=by
 induction n using Nat.strongRecOn with
 |ind n ih=>
  by_cases hn:n=0
  ·subst hn;exact h0
  ·exact h1 n hn (ih _ (by omega))
theorem cB(n:Nat):Lim (ah n):=by
 induction n using qJ with
 |h0=>exact Lim.nil
 |h1 n hn ih=>rw[gW hn];exact Lim.cons (by omega) ih
theorem bZ(n:Nat):val (ah n)=(n:Int):=by
 induction n using qJ with
 |h0=>rfl
 |h1 n hn ih=>rw[gW hn];simp only[val,ih];omega
def can(l:List Int):Prop:=Lim l∧l.getLast?≠some 0
instance (l:List Int):Decidable (can l):=by unfold can;infer_instance
theorem eh(n:Nat):can (ah n):=by
 refine⟨cB n,?_⟩
 induction n using qJ with
 |h0=>simp[fv]
 |h1 n hn ih=>
  rw[gW hn]
  by_cases hz:n/1000000000=0
  ·rw[hz,fv]
   simp
   omega
  ·have hne:ah (n/1000000000)≠[]:=by rw[gW hz];simp
   rw[List.getLast?_cons_of_ne_nil hne]
   exact ih
theorem Nj{x:Int}{l:List Int}(h:can (x::l)):can l:=by
 refine⟨h.1.tail,fun e=>h.2 ?_⟩
 have hne:l≠[]:=fun e'=>by subst e';simp at e
 rw[List.getLast?_cons_of_ne_nil hne]
 exact e
theorem eW:∀{l:List Int},can l→l≠[]→0<val l
 |[],_,h=>by cases h rfl
 |[x],h,_=>by
  have:=h.1.head
  have h2:=h.2
  simp at h2
  simp only[val]
  omega
 |x::y::l,h,_=>by
  have:=eW (Nj h) (by simp)
  have:=h.1.head
  simp only[val]at*
  omega
theorem oY:∀{l:List Int},can l→l=ah (val l).toNat
 |[],_=>rfl
 |x::l,h=>by
  have ih:=oY (Nj h)
  have hp:=eW h (by simp)
  have hx:=h.1.head
  have hn:=bg h.1.tail
  rw[gW (by omega)]
  simp only[val]at hp ⊢
  rw[show(x+1000000000*val l).toNat%1000000000=x.toNat by omega,show(x+1000000000*val l).toNat/1000000000=(val l).toNat by omega,←ih]
  rw[show((x.toNat:Nat):Int)=x by omega]
theorem dw{n k:Nat}(h:(n:Int)<pw k):(ah n).length≤k:=by
 induction k generalizing n with
 |zero=>
  have:n=0:=by simp only[nW]at h;omega
  subst this
  simp[fv]
 |succ k ih=>
  rw[cD]at h
  by_cases hn:n=0
  ·subst hn;simp[fv]
  ·rw[gW hn]
   have:=ih (n:=n/1000000000) (by omega)
   simp;omega
theorem CV{n k:Nat}(h:pw k≤(n:Int)):k<(ah n).length:=by
 rcases avo k (ah n).length with h1|h1
 ·exact h1
 ·have h2:=cA (cB n)
  rw[bZ]at h2
  have:=dt h1
  omega
theorem gT{n:Nat}:ah n=[]↔n=0:=by
 constructor
 ·intro h
  have:=bZ n
  rw[h]at this
  simp[val]at this
  omega
 ·rintro rfl;rfl
def aj(z:Int):Bool×List Int:=(decide (z<0),ah z.natAbs)
def ag(x:Bool×List Int):Int:=bif x.1 then-val x.2 else val x.2
theorem dec_enc(z:Int):ag (aj z)=z:=by
 unfold ag aj
 rw[bZ]
 by_cases h:z<0
 ·rw[auO h];simp only[cond_true];omega
 ·rw[auQ h];simp only[cond_false];omega
def cJ(a b:Int):Int:=bif decide (a<b)then-1 else bif decide (b<a)then 1 else 0
abbrev y0Y:Ty:=.st (.pair .str (.int .u64))
abbrev y1Y:Ty:=.st (.pair (.int .i64) (.int .i64))
abbrev y2Y:Ty:=.st (.pair .bool (.sl (.int .u32)))
abbrev y3Y:Ty:=.st (.pair (.int .i64) (.pair (.int .i64) (.pair .bool (.int .u8))))
abbrev y4Y:Ty:=.st (.pair (.int .i16) (.pair (.int .i16) (.pair (.int .i16) (.pair (.int .i16) (.pair (.int .u16) (.int .u8))))))
abbrev y5Y:Ty:=.st (.pair (.int .u8) (.pair (.int .u8) (.pair (.int .i8) (.pair (.int .i8) (.pair (.int .i8) (.pair (.int .i8) (.pair (.int .i8) (.int .i8))))))))
abbrev y6Y:Ty:=.st (.pair (.st (.pair y2Y y2Y)) (.st (.pair y2Y y2Y)))
abbrev y7Y:Ty:=.st (.pair (.st (.pair y2Y y2Y)) (.pair (.st (.pair y2Y y2Y)) (.st (.pair y2Y y2Y))))
abbrev y8Y:Ty:=.st (.pair y5Y (.pair y5Y (.int .u8)))
abbrev y9Y:Ty:=.st (.pair (.st (.pair y2Y y2Y)) (.pair (.st (.pair y2Y y2Y)) (.pair (.st (.pair y2Y y2Y)) (.pair (.st (.pair y2Y y2Y)) (.st (.pair y2Y y2Y))))))
abbrev aqf:Ty:=.st (.pair (.st (.pair y2Y y2Y)) (.pair (.st (.pair y2Y y2Y)) (.pair (.st (.pair y2Y y2Y)) (.pair (.st (.pair y2Y y2Y)) (.pair (.st (.pair y2Y y2Y)) (.st (.pair y2Y y2Y)))))))
abbrev aiR:Ty:=.st (.pair .bool (.pair y7Y (.pair y7Y (.pair .bool (.pair y9Y y9Y)))))
abbrev aya:Ty:=.sl (.int .u32)
abbrev ayb:Ty:=.int .i64
abbrev ayc:Ty:=.int .u32
def tN(n:Nat)(t:Ty):Nat×TI:=(n,⟨t,[],0,0,0,true⟩)
def tU(n:Nat):Nat×TI:=(n,⟨.int .i64,[],0,0,0,false⟩)
def tS(n:Nat)(t:Ty)(l:List (Nat×Nat)):Nat×TI:=(n,⟨t,l,0,0,0,true⟩)
def tA(n:Nat)(t:Ty)(e l:Nat):Nat×TI:=(n,⟨t,[],e,l,0,true⟩)
def tLs(n:Nat)(t:Ty)(e b:Nat):Nat×TI:=(n,⟨t,[],e,0,b,true⟩)
def tys:TT:=[tU 1,
 tN 2 ayb,
 tN 3 ayb,
 tN 4 .bool,
 tN 5 (.int .u8),
 tN 6 (.int .u8),
 tS 7 y3Y [(0,1),(1,1),(2,1),(3,1)],
 tS 8 y3Y [(0,1),(1,1),(2,1),(3,1)],
 tN 9 .str,
 tN 10 .str,
 tN 11 .str,
 tN 12 (.int .u64),
 tS 13 y0Y [(0,1),(1,1)],
 tS 14 y0Y [(0,1),(1,1)],
 tU 15,
 tU 16,
 tU 17,
 tN 21 (.int .i32),
 tN 22 (.int .i8),
 tS 23 y5Y [(0,1),(1,1),(2,1),(3,1),(4,1),(5,1),(6,1),(7,1)],
 tS 24 y5Y [(0,1),(1,1),(2,1),(3,1),(4,1),(5,1),(6,1),(7,1)],
 tS 25 y8Y [(0,8),(8,8),(16,1)],
 tS 26 y8Y [(0,8),(8,8),(16,1)],
 tN 27 (.int .i16),
 tN 28 (.int .u16),
 tS 29 y4Y [(0,1),(1,1),(2,1),(3,1),(4,1),(5,1)],
 tS 30 y4Y [(0,1),(1,1),(2,1),(3,1),(4,1),(5,1)],
 tLs 31 aya 180 4,
 tS 32 y2Y [(0,1),(1,1)],
 tS 33 y2Y [(0,1),(1,1)],
 tS 34 (.st (.pair y2Y y2Y)) [(0,2),(2,2)],
 tS 35 (.st (.pair y2Y y2Y)) [(0,2),(2,2)],
 tS 36 y7Y [(0,4),(4,4),(8,4)],
 tS 37 y7Y [(0,4),(4,4),(8,4)],
 tS 38 y7Y [(0,4),(4,4),(8,4)],
 tS 39 y7Y [(0,4),(4,4),(8,4)],
 tS 40 y9Y [(0,4),(4,4),(8,4),(12,4),(16,4)],
 tS 41 y9Y [(0,4),(4,4),(8,4),(12,4),(16,4)],
 tS 42 aiR [(0,1),(1,12),(13,12),(25,1),(26,20),(46,20)],
 tS 43 aiR [(0,1),(1,12),(13,12),(25,1),(26,20),(46,20)],
 tU 45,
 tU 46,
 tU 47,
 tLs 48 (.sl y9Y) 41 320,
 tU 49,
 tN 50 ayb,
 tU 52,
 tU 53,
 tU 54,
 tU 56,
 tLs 57 (.sl aiR) 43 1040,
 tU 59,
 tU 60,
 tU 61,
 tA 62 (.st (.pair .bool .bool)) 1 2,
 tU 63,
 tU 64,
 tU 65,
 tU 66,
 tU 67,
 tU 68,
 tU 70,
 tU 71,
 tU 73,
 tS 74 y6Y [(0,4),(4,4)],
 tS 75 y6Y [(0,4),(4,4)],
 tU 76,
 tU 77,
 tU 78,
 tU 79,
 tS 80 y7Y [(0,4),(4,4),(8,4)],
 tU 82,
 tU 83,
 tU 84,
 tU 85,
 tU 86,
 tU 88,
 tU 89,
 tU 90,
 tU 91,
 tU 92,
 tU 93,
 tU 94,
 tU 95,
 tU 96,
 tU 97,
 tU 98,
 tU 99,
 tU 100,
 tU 101,
 tU 102,
 tU 103,
 tU 104,
 tU 105,
 tU 107,
 tU 108,
 tU 109,
 tU 110,
 tU 112,
 tU 114,
 tU 115,
 tU 116,
 tU 118,
 tU 119,
 tU 120,
 tU 121,
 tU 122,
 tU 123,
 tU 124,
 tU 125,
 tU 126,
 tU 127,
 tU 128,
 tU 129,
 tU 130,
 tU 131,
 tU 132,
 tU 133,
 tU 134,
 tU 135,
 tU 136,
 tU 137,
 tU 138,
 tU 139,
 tU 140,
 tU 141,
 tU 142,
 tU 143,
 tU 144,
 tU 145,
 tU 146,
 tU 147,
 tU 148,
 tN 149 (.int .u64),
 tU 151,
 tU 152,
 tU 154,
 tU 155,
 tS 156 aqf [(0,4),(4,4),(8,4),(12,4),(16,4),(20,4)],
 tS 157 aqf [(0,4),(4,4),(8,4),(12,4),(16,4),(20,4)],
 tU 158,
 tU 160,
 tU 162,
 tU 163,
 tU 164,
 tU 165,
 tU 166,
 tU 167,
 tU 168,
 tU 169,
 tU 171,
 tU 172,
 tU 173,
 tU 174,
 tU 175,
 tU 176,
 tU 177,
 tU 178,
 tU 179,
 tN 180 ayc,
 tU 182,
 tU 184,
 tU 185,
 tU 186,
 tS 187 y1Y [(0,1),(1,1)],
 tS 188 y1Y [(0,1),(1,1)],
 tU 190,
 tU 191,
 tU 192,
 tU 193,
 tU 194,
 tU 195,
 tU 196,
 tU 197,
 tU 198,
 tU 199,
 tU 200,
 tU 201,
 tU 202,
 tU 203,
 tU 204,
 tU 206,
 tU 207,
 tU 209,
 tU 210,
 tU 211,
 tLs 212 (.sl ayb) 2 8,
 tU 214,
 tU 215,
 tU 216,
 tU 217,
 tU 218,
 tU 219,
 tU 220,
 tU 221,
 tN 222 (.int .u64),
 tU 223,
 tU 224,
 tU 225,
 tU 227,
 tU 228,
 tU 229,
 tU 230,
 tS 231 (.st .bool) [(0,1)],
 tS 232 (.st .bool) [(0,1)],
 tU 233,
 tU 234,
 tU 235,
 tU 241,
 tN 242 (.int .u8),
 tN 243 (.int .u8),
 tU 244,
 tU 245,
 tN 246 (.int .i32),
 tN 247 (.int .i32)]
theorem aiN:fj Tryz.prog tys=true:=by kernel_rfl
theorem Wo:Tryz.prog.follows .mixedOrders=true:=by kernel_rfl
set_option maxRecDepth 100000 in
noncomputable def ft:FT:=[(2,Tryz.f2),(3,Tryz.f3),(4,Tryz.f4),(5,Tryz.f5),(6,Tryz.f6),(7,Tryz.f7),(8,Tryz.f8),(9,Tryz.f9),(10,Tryz.f10),(11,Tryz.f11),(12,Tryz.f12),(13,Tryz.f13),(14,Tryz.f14),(15,Tryz.f15),(16,Tryz.f16),(17,Tryz.f17),(18,Tryz.f18),(19,Tryz.f19),(20,Tryz.f20),(21,Tryz.f21),(22,Tryz.f22),(23,Tryz.f23),(24,Tryz.f24),(25,Tryz.f25),(26,Tryz.f26),(27,Tryz.f27),(28,Tryz.f28),(29,Tryz.f29),(30,Tryz.f30),(31,Tryz.f31),(32,Tryz.f32),(33,Tryz.f33),(34,Tryz.f34),(35,Tryz.f35),(36,Tryz.f36),(37,Tryz.f37),(38,Tryz.f38),(39,Tryz.f39),(40,Tryz.f40),(41,Tryz.f41),(42,Tryz.f42),(43,Tryz.f43),(44,Tryz.f44),(45,Tryz.f45),(46,Tryz.f46),(47,Tryz.f47),(48,Tryz.f48),(49,Tryz.f49),(50,Tryz.f50),(51,Tryz.f51),(52,Tryz.f52),(53,Tryz.f53),(54,Tryz.f54),(55,Tryz.f55),(56,Tryz.f56),(57,Tryz.f57),(58,Tryz.f58),(59,Tryz.f59),(60,Tryz.f60),(61,Tryz.f61),(62,Tryz.f62),(63,Tryz.f63),(64,Tryz.f64),(65,Tryz.f65),(66,Tryz.f66),(67,Tryz.f67),(68,Tryz.f68),(69,Tryz.f69),(70,Tryz.f70),(71,Tryz.f71),(72,Tryz.f72),(73,Tryz.f73),(74,Tryz.f74),(75,Tryz.f75),(76,Tryz.f76),(77,Tryz.f77),(78,Tryz.f78),(79,Tryz.f79),(80,Tryz.f80),(81,Tryz.f81),(82,Tryz.f82),(83,Tryz.f83),(84,Tryz.f84),(85,Tryz.f85),(86,Tryz.f86),(87,Tryz.f87),(88,Tryz.f88),(89,Tryz.f89),(90,Tryz.f90),(91,Tryz.f91),(92,Tryz.f92),(93,Tryz.f93),(94,Tryz.f94),(95,Tryz.f95),(96,Tryz.f96),(97,Tryz.f97),(98,Tryz.f98),(99,Tryz.f99),(100,Tryz.f100),(101,Tryz.f101),(102,Tryz.f102),(103,Tryz.f103),(104,Tryz.f104),(105,Tryz.f105),(106,Tryz.f106),(107,Tryz.f107),(108,Tryz.f108),(109,Tryz.f109),(110,Tryz.f110),(111,Tryz.f111),(112,Tryz.f112),(113,Tryz.f113),(114,Tryz.f114),(115,Tryz.f115),(116,Tryz.f116),(117,Tryz.f117),(118,Tryz.f118),(119,Tryz.f119),(120,Tryz.f120),(121,Tryz.f121),(122,Tryz.f122),(123,Tryz.f123),(124,Tryz.f124),(125,Tryz.f125),(126,Tryz.f126),(127,Tryz.f127),(128,Tryz.f128),(129,Tryz.f129),(130,Tryz.f130),(131,Tryz.f131),(132,Tryz.f132),(133,Tryz.f133),(134,Tryz.f134),(135,Tryz.f135),(136,Tryz.f136),(137,Tryz.f137),(138,Tryz.f138),(139,Tryz.f139),(140,Tryz.f140),(141,Tryz.f141),(142,Tryz.f142),(143,Tryz.f143),(144,Tryz.f144),(145,Tryz.f145),(146,Tryz.f146),(147,Tryz.f147),(148,Tryz.f148),(149,Tryz.f149),(150,Tryz.f150),(151,Tryz.f151),(152,Tryz.f152),(153,Tryz.f153),(154,Tryz.f154),(155,Tryz.f155),(156,Tryz.f156),(157,Tryz.f157),(158,Tryz.f158),(159,Tryz.f159),(160,Tryz.f160),(161,Tryz.f161),(162,Tryz.f162),(163,Tryz.f163),(164,Tryz.f164),(165,Tryz.f165),(166,Tryz.f166),(167,Tryz.f167),(168,Tryz.f168),(169,Tryz.f169),(170,Tryz.f170),(171,Tryz.f171),(172,Tryz.f172),(173,Tryz.f173),(174,Tryz.f174),(175,Tryz.f175),(176,Tryz.f176),(177,Tryz.f177),(178,Tryz.f178),(179,Tryz.f179),(180,Tryz.f180),(181,Tryz.f181),(182,Tryz.f182),(183,Tryz.f183),(184,Tryz.f184),(185,Tryz.f185),(186,Tryz.f186),(187,Tryz.f187),(188,Tryz.f188),(189,Tryz.f189),(190,Tryz.f190),(191,Tryz.f191),(192,Tryz.f192),(193,Tryz.f193),(194,Tryz.f194),(195,Tryz.f195),(196,Tryz.f196),(197,Tryz.f197),(198,Tryz.f198),(199,Tryz.f199),(200,Tryz.f200),(201,Tryz.f201),(202,Tryz.f202),(203,Tryz.f203),(204,Tryz.f204),(205,Tryz.f205),(206,Tryz.f206),(207,Tryz.f207),(208,Tryz.f208),(209,Tryz.f209),(210,Tryz.f210),(211,Tryz.f211),(212,Tryz.f212),(213,Tryz.f213),(214,Tryz.f214),(215,Tryz.f215),(216,Tryz.f216),(217,Tryz.f217),(218,Tryz.f218),(219,Tryz.f219),(220,Tryz.f220),(221,Tryz.f221),(222,Tryz.f222),(223,Tryz.f223),(224,Tryz.f224),(225,Tryz.f225),(226,Tryz.f226),(227,Tryz.f227),(228,Tryz.f228),(229,Tryz.f229),(230,Tryz.f230),(231,Tryz.f231),(232,Tryz.f232),(233,Tryz.f233),(234,Tryz.f234),(235,Tryz.f235),(236,Tryz.f236),(237,Tryz.f237),(238,Tryz.f238),(239,Tryz.f239),(240,Tryz.f240),(241,Tryz.f241),(242,Tryz.f242),(243,Tryz.f243),(244,Tryz.f244),(245,Tryz.f245),(246,Tryz.f246),(247,Tryz.f247),(248,Tryz.f248),(249,Tryz.f249),(250,Tryz.f250),(251,Tryz.f251),(252,Tryz.f252),(253,Tryz.f253),(254,Tryz.f254),(255,Tryz.f255),(256,Tryz.f256),(257,Tryz.f257),(258,Tryz.f258),(259,Tryz.f259),(260,Tryz.f260),(261,Tryz.f261),(262,Tryz.f262),(263,Tryz.f263),(264,Tryz.f264),(265,Tryz.f265),(266,Tryz.f266),(267,Tryz.f267),(268,Tryz.f268),(269,Tryz.f269),(270,Tryz.f270),(271,Tryz.f271),(272,Tryz.f272),(273,Tryz.f273),(274,Tryz.f274),(275,Tryz.f275),(276,Tryz.f276),(277,Tryz.f277),(278,Tryz.f278),(279,Tryz.f279),(280,Tryz.f280),(281,Tryz.f281),(282,Tryz.f282)]
set_option maxRecDepth 100000 in
theorem asx:FtAll Tryz.prog ft:=⟨Tryz.func2,Tryz.func3,Tryz.func4,Tryz.func5,Tryz.func6,Tryz.func7,Tryz.func8,Tryz.func9,Tryz.func10,Tryz.func11,Tryz.func12,Tryz.func13,Tryz.func14,Tryz.func15,Tryz.func16,Tryz.func17,Tryz.func18,Tryz.func19,Tryz.func20,Tryz.func21,Tryz.func22,Tryz.func23,Tryz.func24,Tryz.func25,Tryz.func26,Tryz.func27,Tryz.func28,Tryz.func29,Tryz.func30,Tryz.func31,Tryz.func32,Tryz.func33,Tryz.func34,Tryz.func35,Tryz.func36,Tryz.func37,Tryz.func38,Tryz.func39,Tryz.func40,Tryz.func41,Tryz.func42,Tryz.func43,Tryz.func44,Tryz.func45,Tryz.func46,Tryz.func47,Tryz.func48,Tryz.func49,Tryz.func50,Tryz.func51,Tryz.func52,Tryz.func53,Tryz.func54,Tryz.func55,Tryz.func56,Tryz.func57,Tryz.func58,Tryz.func59,Tryz.func60,Tryz.func61,Tryz.func62,Tryz.func63,Tryz.func64,Tryz.func65,Tryz.func66,Tryz.func67,Tryz.func68,Tryz.func69,Tryz.func70,Tryz.func71,Tryz.func72,Tryz.func73,Tryz.func74,Tryz.func75,Tryz.func76,Tryz.func77,Tryz.func78,Tryz.func79,Tryz.func80,Tryz.func81,Tryz.func82,Tryz.func83,Tryz.func84,Tryz.func85,Tryz.func86,Tryz.func87,Tryz.func88,Tryz.func89,Tryz.func90,Tryz.func91,Tryz.func92,Tryz.func93,Tryz.func94,Tryz.func95,Tryz.func96,Tryz.func97,Tryz.func98,Tryz.func99,Tryz.func100,Tryz.func101,Tryz.func102,Tryz.func103,Tryz.func104,Tryz.func105,Tryz.func106,Tryz.func107,Tryz.func108,Tryz.func109,Tryz.func110,Tryz.func111,Tryz.func112,Tryz.func113,Tryz.func114,Tryz.func115,Tryz.func116,Tryz.func117,Tryz.func118,Tryz.func119,Tryz.func120,Tryz.func121,Tryz.func122,Tryz.func123,Tryz.func124,Tryz.func125,Tryz.func126,Tryz.func127,Tryz.func128,Tryz.func129,Tryz.func130,Tryz.func131,Tryz.func132,Tryz.func133,Tryz.func134,Tryz.func135,Tryz.func136,Tryz.func137,Tryz.func138,Tryz.func139,Tryz.func140,Tryz.func141,Tryz.func142,Tryz.func143,Tryz.func144,Tryz.func145,Tryz.func146,Tryz.func147,Tryz.func148,Tryz.func149,Tryz.func150,Tryz.func151,Tryz.func152,Tryz.func153,Tryz.func154,Tryz.func155,Tryz.func156,Tryz.func157,Tryz.func158,Tryz.func159,Tryz.func160,Tryz.func161,Tryz.func162,Tryz.func163,Tryz.func164,Tryz.func165,Tryz.func166,Tryz.func167,Tryz.func168,Tryz.func169,Tryz.func170,Tryz.func171,Tryz.func172,Tryz.func173,Tryz.func174,Tryz.func175,Tryz.func176,Tryz.func177,Tryz.func178,Tryz.func179,Tryz.func180,Tryz.func181,Tryz.func182,Tryz.func183,Tryz.func184,Tryz.func185,Tryz.func186,Tryz.func187,Tryz.func188,Tryz.func189,Tryz.func190,Tryz.func191,Tryz.func192,Tryz.func193,Tryz.func194,Tryz.func195,Tryz.func196,Tryz.func197,Tryz.func198,Tryz.func199,Tryz.func200,Tryz.func201,Tryz.func202,Tryz.func203,Tryz.func204,Tryz.func205,Tryz.func206,Tryz.func207,Tryz.func208,Tryz.func209,Tryz.func210,Tryz.func211,Tryz.func212,Tryz.func213,Tryz.func214,Tryz.func215,Tryz.func216,Tryz.func217,Tryz.func218,Tryz.func219,Tryz.func220,Tryz.func221,Tryz.func222,Tryz.func223,Tryz.func224,Tryz.func225,Tryz.func226,Tryz.func227,Tryz.func228,Tryz.func229,Tryz.func230,Tryz.func231,Tryz.func232,Tryz.func233,Tryz.func234,Tryz.func235,Tryz.func236,Tryz.func237,Tryz.func238,Tryz.func239,Tryz.func240,Tryz.func241,Tryz.func242,Tryz.func243,Tryz.func244,Tryz.func245,Tryz.func246,Tryz.func247,Tryz.func248,Tryz.func249,Tryz.func250,Tryz.func251,Tryz.func252,Tryz.func253,Tryz.func254,Tryz.func255,Tryz.func256,Tryz.func257,Tryz.func258,Tryz.func259,Tryz.func260,Tryz.func261,Tryz.func262,Tryz.func263,Tryz.func264,Tryz.func265,Tryz.func266,Tryz.func267,Tryz.func268,Tryz.func269,Tryz.func270,Tryz.func271,Tryz.func272,Tryz.func273,Tryz.func274,Tryz.func275,Tryz.func276,Tryz.func277,Tryz.func278,Tryz.func279,Tryz.func280,Tryz.func281,Tryz.func282,trivial⟩
def EnvAll(P:Program):Env→Prop
 |[]=>True
 |p::l=>(eu P p.1=true∧ER P p.1 p.2∧∀g,p.2.mut_=some g→OW P p.1 g)∧EnvAll P l
theorem EnvAll.ok{P:Program}:∀{l:Env},EnvAll P l→lN P l
 |[],_,f,fn,h=>by simp[oB]at h
 |(k,x)::l,⟨h1,h2⟩,f,fn,h=>by
  simp only[oB]at h
  split at h
  ·rename_i hb
   have:=auV hb
   subst this
   injection h with h
   subst h
   exact h1
  ·exact EnvAll.ok h2 f fn h
theorem Wj{E:Env}{N:NT}(h:EnvAll Tryz.prog E):(Ctx.mk Tryz.prog ft tys E N).Ok:=⟨aiN,h.ok,asx.look,Wo⟩
def CX(E:Env)(N:NT):Ctx:=⟨Tryz.prog,ft,tys,E,N⟩
def RS(C:Ctx)(f:Nat)(args:List SV)(t:KT→OLR):Prop:=∀{r:List RV},(∃n,t (C.k n)=some r)→C.Res f args r
def RN(C:Ctx)(i:Nat)(c:Cfg)(t:KT→OLR):Prop:=∀{r:List RV},(∃n,t (C.k n)=some r)→C.Runs i c r
def RL(C:Ctx)(i:Nat)(c:Cfg)(t:KT→OLR):Prop:=∀{r:List RV},(∃n0,∀n,n0≤n→t (C.k n)=some r)→C.RunsE i c r
theorem rsX{E:Env}{N:NT}{f:Nat}{args:List SV}{t:KT→OLR}(e:∀k,go2 Tryz.prog ft tys E N k 4000 (FQ f args) (.node 0)=t k:=by intro k;kernel_rfl):RS (CX E N) f args t:=fun h=>aun (C:=CX E N) e h
theorem rnX{E:Env}{N:NT}{i:Nat}{c:Cfg}{t:KT→OLR}(e:∀k,go2 Tryz.prog ft tys E N k 4000 {c with K:=.lp i::c.K} (.node (i+1))=t k:=by intro k;kernel_rfl):RN (CX E N) i c t:=fun h=>auh (C:=CX E N) e h
theorem rlX{E:Env}{N:NT}{i:Nat}{c:Cfg}{t:KT→OLR}(e:∀k,go2 Tryz.prog ft tys E N k 4000 {c with K:=.lp i::c.K} (.node (i+1))=t k:=by intro k;kernel_rfl):RL (CX E N) i c t:=fun h=>ape (C:=CX E N) e h
def ask(f k:Nat):Bool:=match gX ft f with
 |some fn=>okF fn k
 |none=>false
theorem aO{E:Env}{N:NT}{f:Nat}{args:List SV}{r:List RV}(ok:EnvAll Tryz.prog E)(h:(CX E N).Res f args r)(hk:ask f args.length=true:=by kernel_rfl):Con Tryz.prog f args r:=by
 unfold ask at hk
 split at hk
 ·rename_i fn e
  exact Ctx.Res.con (C:=CX E N) (Wj ok) h (fn:=fn) e hk
 ·cases hk
def SpK(f:Nat)(s:aM):Prop:=eu Tryz.prog f=true∧ER Tryz.prog f s∧∀g,s.mut_=some g→OW Tryz.prog f g
theorem spX{f:Nat}{keep tame:Bool}{ts:List Ty}{pre:DT ts→Bool}{res:DT ts→List RV}(h:∀x,pre x=true→Con Tryz.prog f (svs ts x) (res x))(hc:eu Tryz.prog f=true:=by kernel_rfl):SpK f (spN keep tame ts pre res):=akG hc h
def bj(l:List Int):Prop:=Lim l∧l.length≤1000000000
instance (l:List Int):Decidable (bj l):=by unfold bj;infer_instance
theorem Pi{n:Nat}(h1:0<n)(h2:n≤9223372036854775807):i64.wrap ((n:Int)-1)=((n-1:Nat):Int):=by rw[bz (by omega) (by omega)];omega
theorem BK:∀{l:List Int},(∀j (hj:j<l.length),l[j]=0)→val l=0
 |[],_=>rfl
 |x::l,h=>by
  have h0:=h 0 (by simp)
  have:=BK (l:=l) fun j hj=>h (j+1) (by simpa using hj)
  simp only[List.getElem_cons_zero]at h0
  simp only[val]
  omega
theorem yy{l:List Int}{n:Nat}(h:∀j (hj:j<l.length),n≤j→l[j]=0):val (l.take n)=val l:=by
 rw[fX l n,BK (l:=l.drop n) fun j hj=>by
  rw[List.getElem_drop];exact h _ _ (by omega)]
 simp
theorem mi{l:List Int}{n:Nat}(hl:Lim l)(hn:n≤l.length)(h:∀j (hj:j<l.length),n≤j→l[j]=0)(hz:n=0∨∃hj:n-1<l.length,l[n-1]≠0):l.take n=ah (val l).toNat:=by
 rw[←yy h]
 apply oY
 refine⟨hl.take n,?_⟩
 rcases avB n with h0|h0
 ·subst h0;simp
 ·obtain⟨hj,hz⟩:=hz.resolve_left (by omega)
  rw[List.getLast?_eq_getElem?,avz,avy hn,List.getElem?_take_of_lt (by omega),auP hj]
  simpa using hz
def amf:NT:=[((244,4),{keep:=[0],pure_:=[(0,.int .u32)],hl:=0})]
def X6:Ctx:=CX [] amf
def C2(s0:List Int):Cfg:=⟨244,[.blk 0,.seq 13],[(0,.d aya s0)],[],0,[]⟩
def ap0(a:List Int)(k:KT):OLR:=k 4 (C2 a)
theorem aoc(a:List Int):RS X6 244 [.d aya a] (ap0 a):=rsX
def Ag(s0:List Int)(k:KT):OLR:=match decide ((s0.length:Int)>0)with|true=>(match bi s0 (i64.wrap ((s0.length:Int)-1))with|some x1=>(match x1==0 with|true=>(match decide ((0:Int)≤0∧0≤i64.wrap ((s0.length:Int)-1)∧i64.wrap ((s0.length:Int)-1)≤(s0.length:Int))with|true=>k 4 (C2 ((s0.take (i64.wrap ((s0.length:Int)-1)).toNat).drop (0:Int).toNat))|false=>none)|false=>some [RV.d aya s0])|none=>none)|false=>some [RV.d aya s0]
theorem zH(s0:List Int):RN X6 4 (C2 s0) (Ag s0):=rnX
def aky:NT:=[((200,6),{keep:=[0,1,4,5],hl:=1})]
def WO:Ctx:=CX [] aky
def EV(neg:Bool)(l:List Int)(s5:Int):Cfg:=⟨200,[.blk 0,.seq 15],[(0,SB neg),(1,.d aya l),(4,.box 0 0),(5,SI s5)],[.box 33 [SB false,.nil]],0,[]⟩
def ao0(neg:Bool)(l:List Int)(k:KT):OLR:=k 6 (EV neg l (l.length:Int))
theorem asN(neg:Bool)(l:List Int):RS WO 200 [SB neg,.d aya l] (ao0 neg l):=rsX
def ux(neg:Bool)(l:List Int)(s5:Int)(k:KT):OLR:=match decide (s5>0)with|true=>(match bi l (i64.wrap (s5-1))with|some x1=>(match x1==0 with|true=>k 6 (EV neg l (i64.wrap (s5-1)))|false=>(match neg with|true=>(match decide ((0:Int)≤0∧0≤s5∧s5≤s5∧s5≤(l.length:Int))with|true=>some [RV.d y2Y (decide (s5>0),(l.take (s5).toNat).drop (0:Int).toNat)]|false=>none)|false=>(match decide ((0:Int)≤0∧0≤s5∧s5≤s5∧s5≤(l.length:Int))with|true=>some [RV.d y2Y (false,(l.take (s5).toNat).drop (0:Int).toNat)]|false=>none)))|none=>none)|false=>(match neg with|true=>(match decide ((0:Int)≤0∧0≤s5∧s5≤s5∧s5≤(l.length:Int))with|true=>some [RV.d y2Y (decide (s5>0),(l.take (s5).toNat).drop (0:Int).toNat)]|false=>none)|false=>(match decide ((0:Int)≤0∧0≤s5∧s5≤s5∧s5≤(l.length:Int))with|true=>some [RV.d y2Y (false,(l.take (s5).toNat).drop (0:Int).toNat)]|false=>none))
theorem zA(neg:Bool)(l:List Int)(s5:Int):RN WO 6 (EV neg l s5) (ux neg l s5):=rnX
def aqL:Ctx:=CX [] []
def ae5(u:Int)(_k:KT):OLR:=some [RV.new 180 ayc ([u32.wrap (Int.tmod u 1000000000),u32.wrap (Int.tmod (u64.wrap (Int.tdiv u 1000000000)) 1000000000),u32.wrap (u64.wrap (Int.tdiv (u64.wrap (Int.tdiv u 1000000000)) 1000000000))])]
theorem asS(u:Int):RS aqL 246 [.d (.int .u64) u] (ae5 u):=rsX
theorem Ue(l:List Int)(hl:Lim l)(hs:l.length≤1000000000):∀(n:Nat),n≤l.length→(∀j (hj:j<l.length),n≤j→l[j]=0)→X6.Runs 4 (C2 (l.take n)) [.d aya (ah (val l).toNat)]:=by
 intro n
 induction n with
 |zero=>
  intro _ h
  refine zH _ ⟨0,?_⟩
  rw[←mi hl (axb _) h (.inl rfl)]
  rfl
 |succ n ih=>
  intro hn h
  have hlen:(l.take (n+1)).length=n+1:=by rw[avz,avy hn]
  have hget:(l.take (n+1))[n]?=some l[n]:=by rw[List.getElem?_take_of_lt (by omega),auP (by omega)]
  by_cases hz:l[n]=0
  ·obtain⟨q,hq⟩:=ih (by omega) fun j hj hk=>by
    rcases Nat.eq_or_lt_of_le hk with e|e
    ·subst e;exact hz
    ·exact h j hj e
   refine zH _ ⟨q,?_⟩
   unfold Ag
   rw[hlen,auO (by omega),Pi (by omega) (by omega),aA,show n+1-1=n from rfl,hget]
   dsimp only
   rw[hz,auO (show(0:Int)≤0∧(0:Int)≤(n:Int)∧(n:Int)≤((n+1:Nat):Int) by omega),aP,ax3,avy (by omega)]
   exact hq
  ·refine zH _ ⟨0,?_⟩
   unfold Ag
   rw[hlen,auO (by omega),Pi (by omega) (by omega),aA,show n+1-1=n from rfl,hget]
   dsimp only
   rw[show(l[n]==0)=false by simpa using hz,←mi hl hn h (.inr ⟨Nat.lt_of_succ_le hn,hz⟩)]
theorem aeV(a:List Int)(h:bj a):Con Tryz.prog 244 [.d aya a] [.d aya (ah (val a).toNat)]:=by
 obtain⟨q,hq⟩:=Ue a h.1 h.2 a.length (auY _) (fun j hj hk=>by omega)
 rw[av8]at hq
 exact aO (E:=[]) trivial (aoc _ ⟨q,hq⟩)
def cC(neg:Bool)(v:Int):Int:=bif neg then-v else v
theorem mK(neg:Bool){v:Int}(h:0≤v):aj (cC neg v)=(neg&&decide (0<v),ah v.toNat):=by
 unfold aj cC
 cases neg
 ·simp only[cond_false,ax4]
  rw[auQ (by omega),show v.natAbs=v.toNat by omega]
 ·simp only[cond_true,auS]
  rw[show(-v).natAbs=v.toNat by omega]
  by_cases h0:0<v
  ·rw[auO h0,auO (by omega)]
  ·rw[auQ h0,auQ (by omega)]
theorem X5(neg:Bool)(l:List Int)(hl:Lim l)(hs:l.length≤1000000000):∀(n:Nat),n≤l.length→(∀j (hj:j<l.length),n≤j→l[j]=0)→WO.Runs 6 (EV neg l (n:Int)) [.d y2Y (aj (cC neg (val l)))]:=by
 intro n
 have hv:=bg hl
 induction n with
 |zero=>
  intro _ h
  refine zA _ _ _ ⟨0,?_⟩
  rw[mK neg hv,←mi hl (axb _) h (.inl rfl)]
  have h0:val l=0:=by rw[←yy h];rfl
  unfold ux
  rw[auQ (show ¬((0:Nat):Int)>0 by decide),auO (show(0:Int)≤0∧(0:Int)≤((0:Nat):Int)∧((0:Nat):Int)≤((0:Nat):Int)∧((0:Nat):Int)≤(l.length:Int) by omega),h0]
  cases neg<;>rfl
 |succ n ih=>
  intro hn h
  by_cases hz:l[n]=0
  ·obtain⟨q,hq⟩:=ih (by omega) fun j hj hk=>by
    rcases Nat.eq_or_lt_of_le hk with e|e
    ·subst e;exact hz
    ·exact h j hj e
   refine zA _ _ _ ⟨q,?_⟩
   unfold ux
   rw[auO (by omega),Pi (by omega) (by omega),aA,show n+1-1=n from rfl,auP (by omega)]
   dsimp only
   rw[hz]
   exact hq
  ·refine zA _ _ _ ⟨0,?_⟩
   have hct:=mi hl hn h (.inr ⟨Nat.lt_of_succ_le hn,hz⟩)
   have hpos:0<val l:=by
    rcases avt 0 (val l)with h1|h1
    ·exact h1
    ·exfalso
     rw[show(val l).toNat=0 by omega,fv]at hct
     have:(l.take (n+1)).length=0:=by rw[hct];rfl
     rw[avz,avy hn]at this
     omega
   rw[mK neg hv,←hct]
   unfold ux
   rw[auO (show((n+1:Nat):Int)>0 by omega),Pi (by omega) (by omega),aA,show n+1-1=n from rfl,auP (by omega)]
   dsimp only
   rw[show(l[n]==0)=false by simpa using hz,auO (show(0:Int)≤0∧(0:Int)≤((n+1:Nat):Int)∧((n+1:Nat):Int)≤((n+1:Nat):Int)∧((n+1:Nat):Int)≤(l.length:Int) by omega),auO hpos,aP]
   cases neg<;>rfl
theorem adV(neg:Bool)(l:List Int)(h:bj l):Con Tryz.prog 200 [.d .bool neg,.d aya l] [.d y2Y (aj (cC neg (val l)))]:=by
 obtain⟨q,hq⟩:=X5 neg l h.1 h.2 l.length (auY _) (fun j hj hk=>by omega)
 exact aO (E:=[]) trivial (asN _ _ ⟨q,hq⟩)
def gP(u:Int):Prop:=0≤u∧u<18446744073709551616
instance (u:Int):Decidable (gP u):=by unfold gP;infer_instance
theorem dm{x:Int}(h1:0≤x)(h2:x<4294967296):u32.wrap x=x:=by rw[IntKind.wrap_u32];omega
theorem b8{x:Int}(h1:0≤x)(h2:x<18446744073709551616):u64.wrap x=x:=by rw[avP];omega
theorem gu{a b:Int}(h:0≤a):Int.tdiv a b=a/b:=Int.tdiv_eq_ediv_of_nonneg h
theorem jA{a b:Int}(h:0≤a):Int.tmod a b=a%b:=Int.tmod_eq_emod_of_nonneg h
theorem acV(u:Int)(h:gP u):Con Tryz.prog 246 [.d (.int .u64) u] [.new 180 ayc (dig 3 u)]:=by
 refine aO (E:=[]) trivial (asS _ ⟨0,?_⟩)
 obtain⟨h1,h2⟩:=h
 unfold ae5
 rw[gu h1,jA h1,b8 (x:=u/1000000000) (by omega) (by omega),jA (by omega),gu (a:=u/1000000000) (by omega),dm (x:=u%1000000000) (by omega) (by omega),dm (x:=u/1000000000%1000000000) (by omega) (by omega),b8 (x:=u/1000000000/1000000000) (by omega) (by omega),dm (x:=u/1000000000/1000000000) (by omega) (by omega)]
 have e:dig 3 u=[u%1000000000,u/1000000000%1000000000,u/1000000000/1000000000]:=by
  simp only[dig]
  rw[show u/1000000000/1000000000%1000000000=u/1000000000/1000000000 by omega]
 rw[e]
def Ie:aM:=spN false false [aya] (fun x=>decide (bj x.1)) (fun x=>[RV.d aya (ah (val x.1).toNat)])
theorem Gj:SpK 244 Ie:=spX fun x h=>aeV x.1 (auN h)
def yn:aM:=spN false false [.bool,aya] (fun x=>decide (bj x.2.1)) (fun x=>[RV.d y2Y (aj (cC x.1 (val x.2.1)))])
theorem sO:SpK 200 yn:=spX fun x h=>adV x.1 x.2.1 (auN h)
def CZ:aM:=spN true false [(.int .u64)] (fun x=>decide (gP x.1)) (fun x=>[RV.new 180 ayc (dig 3 x.1)])
theorem ym:SpK 246 CZ:=spX fun x h=>acV x.1 (auN h)
def JX:Env:=[(244,Ie),(200,yn),(246,CZ)]
theorem BF:EnvAll Tryz.prog JX:=⟨Gj,sO,ym,trivial⟩
def ar8:Ctx:=CX JX []
def ahM(n:Int)(_k:KT):OLR:=match decide (n<0)with|true=>(match decide (gP (u64.wrap (0-(u64.wrap n))))with|true=>(match decide (bj (dig 3 (u64.wrap (0-(u64.wrap n)))))with|true=>some [RV.d y2Y (aj (cC (decide (n<0)) (val (dig 3 (u64.wrap (0-(u64.wrap n)))))))]|false=>none)|false=>none)|false=>(match decide (gP (u64.wrap n))with|true=>(match decide (bj (dig 3 (u64.wrap n)))with|true=>some [RV.d y2Y (aj (cC (decide (n<0)) (val (dig 3 (u64.wrap n)))))]|false=>none)|false=>none)
theorem aqd(n:Int):RS ar8 206 [SI n] (ahM n):=rsX
def aj1:NT:=[((199,24),{keep:=[0,1,5],hl:=0})]
def LN:Ctx:=CX JX aj1
def xg(a b:List Int)(s5:Int):Cfg:=⟨199,[.blk 0,.seq 49],[(0,.d aya (ah (val a).toNat)),(1,.d aya (ah (val b).toNat)),(5,SI s5)],[],0,[]⟩
def W4(a b:List Int)(k:KT):OLR:=match decide (bj a)with|true=>(match decide (bj b)with|true=>(match((ah (val a).toNat).length:Int) !=((ah (val b).toNat).length:Int)with|true=>(match decide (((ah (val a).toNat).length:Int)<((ah (val b).toNat).length:Int))with|true=>some [RV.d ayb (-1)]|false=>some [RV.d ayb 1])|false=>k 24 (xg a b (i64.wrap (((ah (val a).toNat).length:Int)-1))))|false=>none)|false=>none
theorem afv(a b:List Int):RS LN 199 [.d aya a,.d aya b] (W4 a b):=rsX
def m6(a b:List Int)(s5:Int)(k:KT):OLR:=match decide (s5≥0)with|true=>(match bi (ah (val a).toNat) s5 with|some x1=>(match bi (ah (val b).toNat) s5 with|some x2=>(match decide (x1<x2)with|true=>some [RV.d ayb (-1)]|false=>(match bi (ah (val a).toNat) s5 with|some x3=>(match bi (ah (val b).toNat) s5 with|some x4=>(match decide (x3>x4)with|true=>some [RV.d ayb 1]|false=>k 24 (xg a b (i64.wrap (s5-1))))|none=>none)|none=>none))|none=>none)|none=>none)|false=>some [RV.d ayb 0]
theorem qm(a b:List Int)(s5:Int):RN LN 24 (xg a b s5) (m6 a b s5):=rnX
def bU(n:Int):Prop:= -9223372036854775808≤n∧n≤9223372036854775807
instance (n:Int):Decidable (bU n):=by unfold bU;infer_instance
theorem Ao{u:Int}(h:gP u):val (dig 3 u)=u:=ie 3 u h.1 (axn h.2 (by decide))
theorem jn{n:Nat}(h:n≤1000000000)(v:Int):bj (dig n v):=⟨nJ n v,by rw[jc];exact h⟩
theorem MN(n:Int)(h:bU n):Con Tryz.prog 206 [.d ayb n] [.d y2Y (aj n)]:=by
 refine aO BF (aqd _ ⟨0,?_⟩)
 obtain⟨h1,h2⟩:=h
 unfold ahM
 by_cases hn:n<0
 ·have e:u64.wrap (0-u64.wrap n)= -n:=by rw[avP,avP];omega
  have hu:gP (-n):=⟨by omega,by omega⟩
  rw[auO hn]
  dsimp only
  rw[e,auO hu,auO (jn (n:=3) (by decide) (-n)),Ao hu]
  simp[cC]
 ·have e:u64.wrap n=n:=b8 (by omega) (by omega)
  have hu:gP n:=⟨by omega,by omega⟩
  rw[auQ hn]
  dsimp only
  rw[e,auO hu,auO (jn (n:=3) (by decide) n),Ao hu]
  rfl
theorem QU{l:List Int}{n:Nat}(h:n<l.length):val l=val (l.take n)+pw n*(l[n]+1000000000*val (l.drop (n+1))):=by
 rw[fX l n,avy (Nat.le_of_lt h),avd h]
 rfl
theorem DK{a b:List Int}(ha:Lim a)(hb:Lim b){n:Nat}(h1:n<a.length)(h2:n<b.length)(hd:a.drop (n+1)=b.drop (n+1))(hlt:a[n]<b[n]):val a<val b:=by
 rw[QU h1,QU h2,hd]
 have k1:=cA (ha.take n)
 have k2:=bg (hb.take n)
 rw[avz,avy (Nat.le_of_lt h1)]at k1
 have hp:=ct n
 have:=au3 (show a[n]+1000000000*val (b.drop (n+1))+1≤b[n]+1000000000*val (b.drop (n+1)) by omega) (avA hp)
 rw[axW,axf]at this
 omega
theorem df{a b:Int}(h:a<b):cJ a b= -1:=by unfold cJ;rw[auO h];rfl
theorem c8{a b:Int}(h:b<a):cJ a b=1:=by unfold cJ;rw[auQ (by omega),auO h];rfl
theorem dU(a:Int):cJ a a=0:=by unfold cJ;rw[auQ (by omega)];rfl
theorem wT{a b:Nat}(h:(ah a).length<(ah b).length):a<b:=by
 rcases avo a b with h1|h1
 ·exact h1
 ·have:=dw (n:=b) (k:=(ah a).length) (by
   have:=cA (cB a)
   rw[bZ]at this
   omega)
  omega
theorem Wl(a b:List Int)(hl:(ah (val a).toNat).length=(ah (val b).toNat).length)(ha:0≤val a)(hb:0≤val b)(hs:(ah (val a).toNat).length≤1000000000):∀(n:Nat),n≤(ah (val a).toNat).length→(ah (val a).toNat).drop n=(ah (val b).toNat).drop n→
  LN.Runs 24 (xg a b ((n:Int)-1)) [.d ayb (cJ (val a) (val b))]:=by
 have va:=bZ (val a).toNat
 have vb:=bZ (val b).toNat
 have la:=cB (val a).toNat
 have lb:=cB (val b).toNat
 intro n
 induction n with
 |zero=>
  intro _ h
  refine qm _ _ _ ⟨0,?_⟩
  have e:val a=val b:=by simp only[awv]at h;rw[h]at va;omega
  unfold m6
  rw[auQ (by omega),e,dU]
 |succ n ih=>
  intro hn h
  have h1:n<(ah (val a).toNat).length:=by omega
  have h2:n<(ah (val b).toNat).length:=by omega
  rcases awT (ah (val a).toNat)[n] (ah (val b).toNat)[n]with hc|hc|hc
  ·refine qm _ _ _ ⟨0,?_⟩
   have:=DK la lb h1 h2 h hc
   unfold m6
   rw[show((n+1:Nat):Int)-1=(n:Int) by omega,auO (by omega),aA,aA,auP h1,auP h2]
   dsimp only
   rw[auO hc,df (by omega)]
  ·obtain⟨q,hq⟩:=ih (by omega) (by rw[avd h1,avd h2,hc,h])
   refine qm _ _ _ ⟨q,?_⟩
   unfold m6
   rw[show((n+1:Nat):Int)-1=(n:Int) by omega,auO (by omega),aA,aA,auP h1,auP h2]
   dsimp only
   rw[auQ (by omega),auQ (by omega),bz (x:=(n:Int)-1) (by omega) (by omega)]
   exact hq
  ·refine qm _ _ _ ⟨0,?_⟩
   have:=DK lb la h2 h1 h.symm hc
   unfold m6
   rw[show((n+1:Nat):Int)-1=(n:Int) by omega,auO (by omega),aA,aA,auP h1,auP h2]
   dsimp only
   rw[auQ (by omega),auO hc,c8 (by omega)]
theorem jP{l:List Int}(h:Lim l):(ah (val l).toNat).length≤l.length:=dw (by have:=cA h;have:=bg h;omega)
theorem adJ(a b:List Int)(h:bj a∧bj b):Con Tryz.prog 199 [.d aya a,.d aya b] [.d ayb (cJ (val a) (val b))]:=by
 refine aO BF (show LN.Res _ _ _ from ?_)
 obtain⟨ha,hb⟩:=h
 have la:=jP ha.1
 have lb:=jP hb.1
 have na:=bg ha.1
 have nb:=bg hb.1
 have hsa:=ha.2
 have hsb:=hb.2
 by_cases hl:(ah (val a).toNat).length=(ah (val b).toNat).length
 ·obtain⟨q,hq⟩:=Wl a b hl na nb (by omega) _ (auY _) (by rw[axi,hl,axi])
  refine afv _ _ ⟨q,?_⟩
  unfold W4
  rw[auO ha,auO hb,show(((ah (val a).toNat).length:Int) !=((ah (val b).toNat).length:Int))=false by simp[hl],bz (x:=((ah (val a).toNat).length:Int)-1) (by omega) (by omega)]
  exact hq
 ·refine afv _ _ ⟨0,?_⟩
  unfold W4
  rw[auO ha,auO hb,show(((ah (val a).toNat).length:Int) !=((ah (val b).toNat).length:Int))=true by simp;omega]
  dsimp only
  rcases Nat.lt_or_gt_of_ne hl with h1|h1
  ·have:=wT h1
   rw[auO (by omega),df (by omega)]
  ·have:=wT h1
   rw[auQ (by omega),c8 (by omega)]
end Go.Proofs.YtgddhgcjmddjfaaGreat
end
