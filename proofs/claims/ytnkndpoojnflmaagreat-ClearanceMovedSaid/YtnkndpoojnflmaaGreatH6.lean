/- The pure machine is sound: the induction. -/
import Derived.Test.YtnkndpoojnflmaaGreatH5
noncomputable section
namespace Go.Proofs.YtnkndpoojnflmaaGreat
open Go.RowKit Go.IntKind
theorem alF:type_of% @decide_eq_true:=@decide_eq_true
theorem alH:type_of% @decide_eq_false:=@decide_eq_false
theorem alN:type_of% @Int.mul_le_mul_of_nonneg_left:=@Int.mul_le_mul_of_nonneg_left
theorem amd:type_of% @Int.lt_or_le:=@Int.lt_or_le
theorem amh:type_of% @List.getElem_mem:=@List.getElem_mem
theorem amn:type_of% @Int.le_of_lt:=@Int.le_of_lt
theorem amu:type_of% @Nat.min_eq_left:=@Nat.min_eq_left
theorem amx:type_of% @IntKind.wrap_u64:=@IntKind.wrap_u64
theorem amN:type_of% @Bool.true_and:=@Bool.true_and
theorem amY:type_of% @List.take_length:=@List.take_length
theorem am8:type_of% @Classical.choose_spec:=@Classical.choose_spec
theorem anc:type_of% @Bool.and_self:=@Bool.and_self
theorem anm:type_of% @Int.toNat_natCast:=@Int.toNat_natCast
theorem ann:type_of% @List.drop_zero:=@List.drop_zero
theorem anP:type_of% @Nat.mul_le_mul:=@Nat.mul_le_mul
theorem an1:type_of% @Int.mul_one:=@Int.mul_one
theorem an3:type_of% @List.drop_length:=@List.drop_length
theorem an9:type_of% @Int.lt_of_lt_of_le:=@Int.lt_of_lt_of_le
theorem aou:type_of% @Region.noSelect_spec:=@Region.noSelect_spec
theorem aoP:type_of% @List.take_take:=@List.take_take
theorem aoT:type_of% @Int.mul_add:=@Int.mul_add
section
theorem CD{P:Program}{fn:Func}{R:Ending→World→Prop}{B:Code}{K:List KI}{i:Nat}{a:Act}{w:World}(S:World→Prop){id:Nat}(hm:P.follows .mixedOrders=true)(hc:nth B i=.region id (ak (nth B i)) true)(h:AtG P fn R B K i S (ak (nth B i)).size [] a w.drew):At P fn R B K i a w:=by
 unfold At;rw[hc]
 refine wp_region_any hm (Cm (S0:=S) _ _ _ _ ?_)
 simpa [AtG,mkL,ak]using h
theorem yU{n s:Nat}:∀{D:List Nat},s∉D→s<n→(mkL n D).getD s true=false
 |[],_,h=>by simp[mkL,h]
 |j::D,hn,h=>by
  have h1:s≠j:=fun e=>hn (by simp[e])
  rw[mkL,aog true (ano h1)]
  exact yU (fun hm=>hn (by simp[hm])) h
theorem BG{ops:Array Oper}:¬storeDone ops (mkL ops.size []):=by
 rintro ⟨s,os,h1,_,h3⟩
 have hlt:=(alZ.1 h1).1
 simp_all [mkL]
section
variable {Z:Nat→Prop} {w0:World} {F:FT} {P:Program} {T:TT} {E:Env} {N:NT} {Fin:Nat→Cfg→Option (List RV)} {Rt:Ending→World→Prop} {r:List RV}
set_option maxHeartbeats 2000000 in
theorem Ec(hT:fb P T=true)(hE:lz P E)(hI:inv w0)(hF:∀f fn,gn F f=some fn→P.funcs[f]?=some fn)(hm:P.follows .mixedOrders=true)
  (hRt:∀vs H G w ss tys,Ay T H ss tys=some r→SR Z w0 H G w→ck (Rel G (Av Z H G) w) ss vs→Rt (.returned (l6 vs)) w)
  (hFin:∀i c G w a ats fn,Fin i c=some r→CR Z F w0 c G w a ats→gn F c.f=some fn→InLoop P (nth (aj F c.f) (i+1)) (iD P fn (fD P F Rt c.fs ats) (aj F c.f) (iH P fn (fD P F Rt c.fs ats) (aj F c.f) c.K)) a w):
  ∀(m:Nat) (c:Cfg) (p:Pos),go P F T E N Fin m c p=some r→∀G w a ats fn,CR Z F w0 c G w a ats→gn F c.f=some fn→k9 P F Rt c fn G w a ats p:=by
 have headOk:∀i c,head N Fin i c=some r→∀G w a ats fn,CR Z F w0 c G w a ats→gn F c.f=some fn→InLoop P (nth (aj F c.f) (i+1)) (iD P fn (fD P F Rt c.fs ats) (aj F c.f) (iH P fn (fD P F Rt c.fs ats) (aj F c.f) c.K)) a w:=by
  intro i c h G w a ats fn hc hfn
  unfold head at h
  split at h
  ·split at h<;>try (cases h;done)
   rename_i c' hn
   obtain⟨G',k1,k2,k3,k4⟩:=Vs hn hc
   have:=hFin i c' G' w a ats fn h k1 (by rw[k2];exact hfn)
   rw[k2,k3,k4]at this
   exact this
  ·exact hFin i c G w a ats fn h hc hfn
 intro m
 induction m using Nat.strongRecOn with
 |ind m0 ihs=>
 cases m0 with
 |zero=>intro c p h;simp[Vy]at h
 |succ m=>
  have ih:=ihs m (Nat.lt_succ_self m)
  have tail:∀(c:Cfg) (i:Nat) (la:List AlA) (ss:List AlS) (ats:List Act) (fn:Func) (n:Nat) (l:Array Bool) (L:SL) (G:List Value) (w:World) (a:Act),t3 P F T E N Fin r c i la ss (m+1) n l L→mX c.H.length c.H→c.fl≤c.H.length→Region.noSelect (ak (nth (aj F c.f) i))=true→Clo (ak (nth (aj F c.f) i)) l→l.size=(ak (nth (aj F c.f) i)).size→SR Z w0 (cG (dn l) ss (c.H++alX (dn l) la)) G w→FR Z (ntm F c.f) L (cG (dn l) ss (c.H++alX (dn l) la)) G w a→FrsOk Z F (cG (dn l) ss (c.H++alX (dn l) la)) G w c.fl c.fs ats→gn F c.f=some fn→wpG P (ak (nth (aj F c.f) i)) (iD P fn (fD P F Rt c.fs ats) (aj F c.f) (iH P fn (fD P F Rt c.fs ats) (aj F c.f) c.K)) (fun _=>True) n l a w:=by
   intro c i la ss ats fn n l L G w a hf hlow hfl hns hcl hsz k1 k2 k3 hfn
   rcases hf with⟨D',q,_,e1,rfl,rfl,rfl,e2,e3,e4,e5⟩|⟨D',q,L0,ss',q1,q2,q3,qW,qS,eC,e2,e3,e4,e5,e6,e7,e8⟩|⟨D',q,j,o,_,_,rfl,rfl,rfl,e2,e2',hrd,ho1,e4,e5⟩
   ·rw[show cG (dn (mkL (ak (nth (aj F c.f) i)).size D')) [] (c.H++alX (dn (mkL (ak (nth (aj F c.f) i)).size D')) [])=c.H from ame _]at k1 k2 k3
    refine yn _ _ _ _ (ihs q (by omega) _ _ e5 G w a ats fn ⟨k1,k2,hfl,k3⟩ hfn c.H G w (.inr ⟨Agr.refl,fun _ _ hx=>hx,fun _=>⟨rfl,rfl,rfl⟩,?_⟩) hcl hns n e2)
    rintro ⟨s,os,h1,h2,h3⟩
    have hlt:=(alZ.1 h1).1
    have:s∈D':=by
     apply alW
     intro hn
     rw[yU hn hlt]at h3
     cases h3
    have:=e3 s this os h1
    rw[h2]at this
    cases this
   ·have hst:cG (dn l) ss (c.H++alX (dn l) la)=cG (dn l) ss' (c.H++alX (dn l) la):=by
     rcases qS with⟨_,rfl,h⟩|⟨_,rfl,_⟩
     ·exact(qb (ss:=ss') h).symm
     ·rfl
    rw[hst]at k1 k2 k3
    refine VW (fl:=c.fl) (X:=fun H G w=>FrsOk Z F H G w c.fl c.fs ats) hT hE hI q1 q2 q3 qW hlow e7 hfl (by rw[ib]) (fun H G w H' G' w' hx hp=>hx.ev hp (alL _)) (fun n l G w a r1 r2 r3 r4 r5 r6 u1 u2 u3=>?_) n l e4 hsz e5 e6 hcl G w a k1 (k2.eqv e8) k3
    have hl:l=mkL (ak (nth (aj F c.f) i)).size ((la.map (·.i)++ss'.map (·.i))++D'):=by
     refine Array.ext (by rw[r2,ib]) fun k h1 h2=>?_
     rw[show l[k]=l.getD k true by simp[h1],show(mkL (ak (nth (aj F c.f) i)).size ((la.map (·.i)++ss'.map (·.i))++D'))[k]=(mkL (ak (nth (aj F c.f) i)).size ((la.map (·.i)++ss'.map (·.i))++D')).getD k true by rw[amW,Array.getElem?_eq_getElem h2];rfl]
     by_cases hm:k∈(la.map (·.i)++ss'.map (·.i))++D'
     ·rw[F4 hm]
      rcases amr.1 hm with hm|hm
      ·exact r4 k hm
      ·have:=r3 k (by rw[jY (by rw[ib,←r2];exact h1)];exact F4 hm)
       rw[jY h1]at this;exact this
     ·rw[fE hm (by rw[←r2];exact h1)]
      cases hq:l.getD k true with
      |false=>rfl
      |true=>
       exfalso
       rw[amr,not_or]at hm
       rcases r5 k hq with h|h
       ·rw[fE hm.2 (by rw[←r2];exact h1)]at h;cases h
       ·exact hm.1 h
    subst hl
    have hcu:=P4 (ak (nth (aj F c.f) i)).size ((la.map (·.i)++ss'.map (·.i))++D')
    refine C7 ((ak (nth (aj F c.f) i)).size-((la.map (·.i)++ss'.map (·.i))++D').length) n _ _ _ (by omega) (yn _ _ _ _ (ihs q (by omega) _ _ e3 G w a ats fn ⟨u1,u2,by rw[ti,amf];exact alU hfl (Nat.le_add_right _ _),u3⟩ hfn (cG (fun _=>true) ss' (c.H++alX (fun _=>true) la)) G w ?_ r6 hns ((ak (nth (aj F c.f) i)).size-((la.map (·.i)++ss'.map (·.i))++D').length) (Nat.sub_add_cancel eC)))
    by_cases hsd:storeDone (ak (nth (aj F c.f) i)) (mkL (ak (nth (aj F c.f) i)).size ((la.map (·.i)++ss'.map (·.i))++D'))
    ·exact .inl ⟨hsd,rfl⟩
    ·exact .inr ⟨Agr.refl,fun _ _ hx=>hx,fun e=>(by cases e),hsd⟩
   ·rw[show cG (dn (mkL (ak (nth (aj F c.f) i)).size D')) [] (c.H++alX (dn (mkL (ak (nth (aj F c.f) i)).size D')) [])=c.H from ame _]at k1 k2 k3
    have hjr:j∈Region.ready .any (ak (nth (aj F c.f) i)) (mkL (ak (nth (aj F c.f) i)).size D'):=by rw[hrd];simp
    obtain⟨n',rfl⟩:∃n',n=n'+1:=⟨n-1,by omega⟩
    have hn':n'=(ak (nth (aj F c.f) i)).size-(j::D').length:=by simp;omega
    refine wj hrd (by simp) fun k hk=>?_
    have hk:k=j:=by simpa using hk
    subst hk
    unfold wpOp
    simp only[ho1]
    rcases fA k2 e5 with⟨L1,h1,hf1,hw⟩|⟨L1,h1,hf1,hw⟩
    ·rw[ama hw]
     refine .inl ?_
     unfold Oper.wp
     split at h1<;>try (cases h1;done)
     rename_i g ss hin
     obtain⟨f,args,tys,fg,caps,e1,e2,e3,e4,e5,e6,e7⟩:=HJ hf1 hin
     have hcl2:eD P g=true:=by unfold eD;rw[hF g fg e2];simp only[e6,e7,anc]
     rw[mz hcl2 a.eval o f args tys caps e1 e3 w]
     obtain⟨B,hB⟩:=amI.1 e7
     have hbf:aj F g=B:=by simp[aj,e2,hB]
     have hcal:Calls P g (args.map a.eval++caps) w (fD P F Rt ({f:=c.f,K:=c.K,i:=i,k:=k,L:=EN N c.f i L1,fl:=c.fl,d:=some (k::D')}::c.fs) (a::ats)):=by
      have hto:args.map a.eval++caps=(args.map a.eval++caps).toList.toArray:=by simp
      rw[hto]
      refine enter (hF g fg e2) hB (amb (by rw[←fa e4];exact e5)) fun a2 hst=>?_
      have:=ihs q (by omega) _ _ h1 G w a2 (a::ats) fg ⟨k1,⟨hst.defers,by rw[hst.size];simp[ntm,e2],qm e4 hst.slot⟩,alL _,⟨⟨hf1.defers,hf1.size,fun t s hs=>hf1.slot t s (qt hs)⟩,fun t s hs=>by obtain⟨v,_,hv⟩:=hf1.slot t s (qt hs);exact mS k1 hv,⟨hfl,⟨fn,hfn⟩,fun D hD=>by
       injection hD with hD
       subst hD
       exact⟨hcl.set hjr,hns,by simpa using e2'⟩⟩,k3⟩⟩ e2
      simp only[k9,iH]at this
      rw[hbf]at this
      exact this
     refine Calls.mono hcal ?_
     rintro e w' ⟨v,rfl,fn',o',q1,q2,_,q3⟩
     have q3:=q3 _ rfl
     simp only at q1 q2 q3
     rw[hfn]at q1
     injection q1 with q1
     subst q1
     rw[ho1]at q2
     injection q2 with q2
     subst q2
     refine⟨.inr trivial,?_⟩
     rw[hn']
     exact q3
    ·rw[al3 (by rw[hw];simp)]
     split at h1<;>try (cases h1;done)
     rename_i L2 hp2
     refine⟨.inr trivial,?_⟩
     rw[hn']
     exact ihs q (by omega) _ _ h1 G w (a.put o.dst undef) ats fn ⟨k1,hf1.put hp2 rfl,hfl,k3⟩ hfn (fun _=>True) (fun _ _ _ _=>trivial) (.inr trivial) (hcl.set hjr) hns _ (Nat.sub_add_cancel (by simpa using e2'))
  intro c p h G w a ats fn hc hfn
  have h0:=h
  rw[T4]at h
  unfold stC at h
  split at h
  ·-- nrm
   split at h
   ·rename_i hK
    have:=ih _ _ h G w a ats fn ⟨hc.sr,hc.fr,hc.fl,hc.frs⟩ hfn
    simp only[k9]at this ⊢
    rw[hK]
    exact this
   ·rename_i j K hK
    have:=ih _ _ h G w a ats fn ⟨hc.sr,hc.fr,hc.fl,hc.frs⟩ hfn
    simp only[k9]at this ⊢
    rw[hK]
    exact this
   ·rename_i id K hK
    have:=ih _ _ h G w a ats fn ⟨hc.sr,hc.fr,hc.fl,hc.frs⟩ hfn
    simp only[k9]at this ⊢
    rw[hK]
    exact this
   ·rename_i i K hK
    have:=headOk i {c with K:=K} h G w a ats fn ⟨hc.sr,hc.fr,hc.fl,hc.frs⟩ hfn
    simp only[k9]
    rw[hK]
    exact this
  ·-- node
   rename_i i
   simp only[k9]
   split at h
   ·rename_i hn
    exact U9 hn (ih _ _ h G w a ats fn hc hfn)
   ·rename_i x y hn
    have:=ih _ _ h G w a ats fn ⟨hc.sr,hc.fr,hc.fl,hc.frs⟩ hfn
    exact yz (Ug hn) this
   ·rename_i id x hn
    have:=ih _ _ h G w a ats fn ⟨hc.sr,hc.fr,hc.fl,hc.frs⟩ hfn
    exact R7 (KC hn) this
   ·rename_i id hn
    split at h<;>try (cases h;done)
    rename_i K hK
    have:=ih _ _ h G w a ats fn ⟨hc.sr,hc.fr,hc.fl,hc.frs⟩ hfn
    exact T3 hn (Uj (wr hK) this)
   ·rename_i hn
    exact ES hn (ih _ _ h G w a ats fn hc hfn)
   ·rename_i x p q hn
    split at h<;>try (cases h;done)
    rename_i b hb
    have hv:=tZ (aL hc.fr hb)
    unfold At
    rw[Ry hn]
    split at h
    ·exact wp_cond_true hv (ih _ _ h G w a ats fn hc hfn)
    ·exact wp_cond_false hv (ih _ _ h G w a ats fn hc hfn)
   ·rename_i x hn
    unfold At
    rw[LA hn]
    exact(headOk i c h G w a ats fn hc hfn).wp
   ·rename_i id ops hn
    have:=ih _ _ h G w a ats fn hc hfn
    exact mL (id:=id) (by rw[hn];rfl) this
   ·rename_i id ops hn
    split at h<;>try (cases h;done)
    rename_i hns
    have hops:ak (nth (aj F c.f) i)=ops:=by rw[hn];rfl
    have hb:Below w.heap.size w w.drew:=(aoL _ _).drew
    have hsg:=un hc.sr hb
    have hev:Ev Z c.fl c.H G w c.H G w.drew:=fun s v hs _=>dH hc.sr hsg hs
    have hcr:CR Z F w0 c G w.drew a ats:=⟨IH hc.sr hb,hc.fr.keep fun s v hs=>dH hc.sr hsg hs,hc.fl,hc.frs.ev hev (alL _)⟩
    split at h
    ·refine CD (fun _=>True) hm (id:=id) (by rw[hn];rfl) ?_
     split at h
     ·exact ih _ _ h G w.drew a ats fn hcr hfn rfl (by rw[hops];exact hns)
     ·exact ih _ _ h G w.drew a ats fn hcr hfn rfl (by rw[hops];exact hns)
    refine CD (Agr (!(ops.any fun o=>vp o.op)) c.H G w.drew) hm (id:=id) (by rw[hn];rfl) ?_
    exact ih _ _ h G w.drew a ats fn hcr hfn c.H G w.drew (.inr ⟨Agr.refl,fun _ _ hx=>hx,fun _=>⟨rfl,rfl,rfl⟩,BG⟩) sf (by rw[hops];exact hns) _ (by simp)
   ·cases h
  ·-- ops
   rename_i i k
   simp only[k9]
   split at h
   ·rename_i hk
    exact SO hk (ih _ _ h G w a ats fn hc hfn)
   ·rename_i o hk
    rcases fA hc.fr h with⟨L1,h1,hf1,hw⟩|⟨L1,h1,hf1,hw⟩
    ·refine VQ hk hw ?_
     split at h1
     ·split at h1<;>try (cases h1;done)
      rename_i hfz
      obtain⟨g1,g2,g3,g4,g5⟩:=acz hc.sr hf1 hfz
      obtain⟨s,v,h2,h3,h4⟩:=mo hT g1 g2 h1
      split at h2<;>try (cases h2;done)
      rename_i L2 hp
      rw[h4 w (fun _=>Agr.refl)]
      exact ih _ _ h2 G w (a.put o.dst v) ats fn ⟨g1,g2.put hp h3,alU hc.fl (Nat.le_of_eq g5),hc.frs.evF g3 (alL _)⟩ hfn
     ·split at h1
      ·rename_i g ss hin
       obtain⟨f,args,tys,fg,caps,e1,e2,e3,e4,e5,e6,e7⟩:=HJ hf1 hin
       have hcl:eD P g=true:=by unfold eD;rw[hF g fg e2];simp only[e6,e7,anc]
       rw[mz hcl a.eval o f args tys caps e1 e3 w]
       obtain⟨B,hB⟩:=amI.1 e7
       have hbf:aj F g=B:=by simp[aj,e2,hB]
       have hcal:Calls P g (args.map a.eval++caps) w (fD P F Rt ({f:=c.f,K:=c.K,i:=i,k:=k,L:=EN N c.f i L1,fl:=c.fl}::c.fs) (a::ats)):=by
        have hto:args.map a.eval++caps=(args.map a.eval++caps).toList.toArray:=by simp
        rw[hto]
        refine enter (hF g fg e2) hB (amb (by rw[←fa e4];exact e5)) fun a2 hst=>?_
        have:=ih _ _ h1 G w a2 (a::ats) fg ⟨hc.sr,⟨hst.defers,by rw[hst.size];simp[ntm,e2],qm e4 hst.slot⟩,alL _,⟨⟨hf1.defers,hf1.size,fun t s hs=>hf1.slot t s (qt hs)⟩,fun t s hs=>by obtain⟨v,_,hv⟩:=hf1.slot t s (qt hs);exact mS hc.sr hv,⟨hc.fl,⟨fn,hfn⟩,fun D hD=>by cases hD⟩,hc.frs⟩⟩ e2
        simp only[k9,iH]at this
        rw[hbf]at this
        exact this
       refine Calls.mono hcal ?_
       rintro e w' ⟨v,rfl,fn',o',q1,q2,q3,_⟩
       have q3:=q3 rfl
       simp only at q1 q2 q3
       rw[hfn]at q1
       injection q1 with q1
       subst q1
       rw[hk]at q2
       injection q2 with q2
       subst q2
       exact q3
      ·refine t8 hT hE hI hc.sr hf1 h1 fun s H' L2 G' w' v h2 h3 h4 h5 h6=>?_
       split at h2<;>try (cases h2;done)
       rename_i L3 hp
       exact ih _ _ h2 G' w' (a.put o.dst v) ats fn ⟨h3,h4.put hp h5,alU hc.fl h6.len,hc.frs.evF h6.pres (alL _)⟩ hfn
    ·refine aaG hk hw ?_
     split at h1<;>try (cases h1;done)
     rename_i L2 hp
     exact ih _ _ h1 G w (a.put o.dst undef) ats fn ⟨hc.sr,hf1.put hp rfl,hc.fl,hc.frs⟩ hfn
  ·-- drw
   rename_i i rw eff D
   simp only[k9]
   intro Hs Gs ws hinv hclo hns m' hm'
   split at h
   ·exact ih _ _ h G w a ats fn hc hfn (Agr rw Hs Gs ws) (fun w w' hw ho=>⟨alU hw.1 ho.1,fun b hb hor=>(ho.2 b (anw hb hw.1)).trans (hw.2 b hb hor)⟩) (hinv.elim (fun h=>.inl h.1) (fun h=>.inr h.1)) hclo hns m' hm'
   split at h
   ·rename_i hrd
    exact wA hrd (ih _ _ h G w a ats fn hc hfn) _
   ·rename_i rs hrd
    split at h<;>try (cases h;done)
    rename_i hlen
    have hlen:=alM hlen
    obtain⟨m'',rfl⟩:∃m'',m'=m''+1:=⟨m'-1,by omega⟩
    have hsst:Sst (ak (nth (aj F c.f) i)) (Agr rw Hs Gs ws) (mkL (ak (nth (aj F c.f) i)).size D) w:=hinv.elim (fun h=>.inl h.1) (fun h=>.inr h.1)
    split at h
    ·rename_i j hj
     obtain⟨j1,o,j2,j3,j4,j5,j6⟩:=Dt hj
     rw[j2]at h
     dsimp only at h
     have hns1:dY o.op=false:=Hm j3
     have hclo':Clo (ak (nth (aj F c.f) i)) (mkL (ak (nth (aj F c.f) i)).size (j::D)):=hclo.set j1
     have hinv':(storeDone (ak (nth (aj F c.f) i)) (mkL (ak (nth (aj F c.f) i)).size (j::D))∧eff=true)∨(Agr rw Hs Gs ws w∧(∀b,b<ws.heap.size→jm c.H G b→jm Hs Gs b)∧(eff=false→c.H=Hs∧G=Gs∧w=ws)∧¬storeDone (ak (nth (aj F c.f) i)) (mkL (ak (nth (aj F c.f) i)).size (j::D))):=
      hinv.elim (fun h=>.inl ⟨h.1.set j,h.2⟩) fun h=>.inr ⟨h.1,h.2.1,h.2.2.1,fun h'=>h.2.2.2 (h'.unset j2 hns1)⟩
     have take:∀{v:Value},YieldsIf P (ak (nth (aj F c.f) i)) (fun w'=>nt o.op=true→Agr rw Hs Gs ws w') o v a→AtG P fn (fD P F Rt c.fs ats) (aj F c.f) (iH P fn (fD P F Rt c.fs ats) (aj F c.f) c.K) i (Agr rw Hs Gs ws) m'' (j::D) (a.put o.dst v) w→AtG P fn (fD P F Rt c.fs ats) (aj F c.f) (iH P fn (fD P F Rt c.fs ats) (aj F c.f) c.K) i (Agr rw Hs Gs ws) (m''+1) D a w:=by
      intro v hy hk
      cases hl:nt o.op with
      |true=>
       obtain⟨he,haw⟩:=j4 hl
       obtain⟨hagr,_,_,hun⟩:=hinv.resolve_left (fun h=>by rw[he]at h;cases h.2)
       have hy':YieldsIf P (ak (nth (aj F c.f) i)) (Agr rw Hs Gs ws) o v a:=hy.imp (fun h=>⟨h.1,fun w' hS=>h.2 w' fun _=>hS⟩) id
       exact JI j2 (aou hns) (fun cc a w hq=>nW _ cc a _ _ w hq) hns1 haw m'' _ a w (ani j2 j6) hclo hun j1 hy' hagr hk
      |false=>
       have hy':YieldsIf P (ak (nth (aj F c.f) i)) (fun _=>True) o v a:=hy.imp (fun h=>⟨h.1,fun w' _=>h.2 w' fun h'=>by rw[hl]at h';cases h'⟩) id
       exact Dc j2 (aou hns) (fun cc a w hq=>nW _ cc a _ _ w hq) hns1 m'' _ a w (ani j2 j6) j1 hy' hsst hk
     rcases fA hc.fr h with⟨L1,h1,hf1,hw⟩|⟨L1,h1,hf1,hw⟩
     ·obtain⟨s,v,h2,h3,h4⟩:=mo hT hc.sr hf1 h1
      split at h2<;>try (cases h2;done)
      rename_i L2 hp
      refine take (v:=v) (.inl ⟨hw,fun w' hS=>h4 w' fun hl=>?_⟩) ?_
      ·obtain⟨he,_⟩:=j4 hl
       obtain⟨_,_,heff,_⟩:=hinv.resolve_left (fun h=>by rw[he]at h;cases h.2)
       obtain⟨e1,e2,e3⟩:=heff he
       rw[e1,e2,e3]
       exact hS hl
      ·exact ih _ _ h2 G w (a.put o.dst v) ats fn ⟨hc.sr,hf1.put hp h3,hc.fl,hc.frs⟩ hfn Hs Gs ws hinv' hclo' hns m'' (by simp;omega)
     ·split at h1<;>try (cases h1;done)
      rename_i L2 hp
      refine take (v:=undef) (.inr ⟨hw,rfl⟩) ?_
      exact ih _ _ h1 G w (a.put o.dst undef) ats fn ⟨hc.sr,hf1.put hp rfl,hc.fl,hc.frs⟩ hfn Hs Gs ws hinv' hclo' hns m'' (by simp;omega)
    ·refine wj (rs:=Region.ready .any (ak (nth (aj F c.f) i)) (mkL (ak (nth (aj F c.f) i)).size D)) rfl (by assumption) fun k hk=>?_
     have h:=zp h k hk
     split at h<;>try (cases h;done)
     rename_i o j2
     have hclo':Clo (ak (nth (aj F c.f) i)) (mkL (ak (nth (aj F c.f) i)).size (k::D)):=hclo.set hk
     have hsst':Sst (ak (nth (aj F c.f) i)) (Agr rw Hs Gs ws) (mkL (ak (nth (aj F c.f) i)).size (k::D)) w:=hsst.set k
     have sdone:dY o.op=true→storeDone (ak (nth (aj F c.f) i)) (mkL (ak (nth (aj F c.f) i)).size (k::D)):=fun h=>⟨k,o,j2,h,qJ _ _⟩
     have hinv':dY o.op=false→(storeDone (ak (nth (aj F c.f) i)) (mkL (ak (nth (aj F c.f) i)).size (k::D))∧eff=true)∨(Agr rw Hs Gs ws w∧(∀b,b<ws.heap.size→jm c.H G b→jm Hs Gs b)∧(eff=false→c.H=Hs∧G=Gs∧w=ws)∧¬storeDone (ak (nth (aj F c.f) i)) (mkL (ak (nth (aj F c.f) i)).size (k::D))):=
      fun hns1=>hinv.elim (fun h=>.inl ⟨h.1.set k,h.2⟩) fun h=>.inr ⟨h.1,h.2.1,h.2.2.1,fun h'=>h.2.2.2 (h'.unset j2 hns1)⟩
     unfold wpOp
     simp only[j2]
     rcases fA hc.fr h with⟨L1,h1,hf1,hw⟩|⟨L1,h1,hf1,hw⟩
     ·rw[ama hw]
      refine .inl ?_
      unfold Oper.wp
      split at h1
      ·rename_i hq
       have hns1:dY o.op=false:=Hm hq
       obtain⟨s,v,h2,h3,h4⟩:=mo hT hc.sr hf1 h1
       split at h2<;>try (cases h2;done)
       rename_i L2 hp
       rw[h4 w (fun _=>Agr.refl)]
       exact⟨hsst',ih _ _ h2 G w (a.put o.dst v) ats fn ⟨hc.sr,hf1.put hp h3,hc.fl,hc.frs⟩ hfn Hs Gs ws (hinv' hns1) hclo' hns m'' (by simp;omega)⟩
      ·split at h1<;>try (cases h1;done)
       rename_i hcond
       simp only[aot]at hcond
       obtain⟨hst1,hst2⟩:=hcond
       simp only[Bool.and_eq_false_iff]at hst2
       refine t8 hT hE hI hc.sr hf1 h1 fun s H' L2 G' w' v h2 h3 h4 h5 h6=>?_
       split at h2<;>try (cases h2;done)
       rename_i L3 hp
       have hcr:CR Z F w0 {c with L:=L3,H:=H'} G' w' (a.put o.dst v) ats:=⟨h3,h4.put hp h5,alU hc.fl h6.len,hc.frs.evF h6.pres (alL _)⟩
       cases hiss:dY o.op with
       |true=>exact⟨.inl (sdone hiss),ih _ _ h2 G' w' (a.put o.dst v) ats fn hcr hfn Hs Gs ws (.inl ⟨sdone hiss,rfl⟩) hclo' hns m'' (by simp;omega)⟩
       |false=>
        rcases hinv with hinv|⟨hagr,hrows,heff,hun⟩
        ·exact⟨.inl (hinv.1.set k),ih _ _ h2 G' w' (a.put o.dst v) ats fn hcr hfn Hs Gs ws (.inl ⟨hinv.1.set k,rfl⟩) hclo' hns m'' (by simp;omega)⟩
        ·have hag:=h6.agr.resolve_left (by rw[hiss,hst1];simp)
         have hagr':Agr rw Hs Gs ws w':=by
          refine⟨alU hagr.1 hag.1.1,fun b hb hor=>?_⟩
          rw[←hagr.2 b hb hor]
          refine hag.1.2 b (anw hb hagr.1) ?_
          rcases hst2 with h7|h7
          ·left;rw[h7];rfl
          ·right
           rcases hor with hor|hor
           ·rw[h7]at hor;cases hor
           ·exact fun hx=>hor (hrows b hb hx)
         exact⟨.inr hagr',ih _ _ h2 G' w' (a.put o.dst v) ats fn hcr hfn Hs Gs ws (.inr ⟨hagr',fun b hb hx=>hrows b hb (hag.2 b (anw hb hagr.1) hx),(fun e=>by cases e),fun h'=>hun (h'.unset j2 hiss)⟩) hclo' hns m'' (by simp;omega)⟩
     ·rw[al3 (by rw[hw];simp)]
      split at h1<;>try (cases h1;done)
      rename_i L2 hp
      refine⟨hsst',ih _ _ h1 G w (a.put o.dst undef) ats fn ⟨hc.sr,hf1.put hp rfl,hc.fl,hc.frs⟩ hfn Hs Gs ws ?_ hclo' hns m'' (by simp;omega)⟩
      cases hiss:dY o.op with
      |true=>exact .inl ⟨sdone hiss,by simp⟩
      |false=>simpa using hinv' hiss
  ·-- tam
   rename_i i D
   clear h
   simp only[k9]
   intro hD0 hns
   subst hD0
   have hlow:∀t s,aN c.L t=some s→s.refsT c.H.length=true:=fun t s hs=>by
    obtain⟨v,_,hv⟩:=hc.fr.slot t s hs
    exact mS hc.sr hv
   obtain⟨la,ss,hp,hnew,hrun⟩:=Jq hT hE (c:=c) (m+1) [] c.L h0 (by rw[EU];rfl) (fun j hj=>by cases hj) hlow sf
   obtain⟨G1,g1,g2,g3⟩:=wM (dn (mkL (ak (nth (aj F c.f) i)).size [])) (la:=la) (fun x hx=>by
    obtain⟨⟨o,ho,_⟩,_⟩:=hp.la2 x hx
    exact fE (by simp) (alZ.1 ho).1) hc.sr hc.fr
   have hst0:cG (dn (mkL (ak (nth (aj F c.f) i)).size [])) ss (c.H++alX (dn (mkL (ak (nth (aj F c.f) i)).size [])) la)=c.H++alX (dn (mkL (ak (nth (aj F c.f) i)).size [])) la:=qb fun s hs=>by
    obtain⟨⟨o,ho,_⟩,_⟩:=hp.ss1 s hs
    exact fE (by simp) (alZ.1 ho).1
   refine TRun.sound (T:=T) (S0:=fun _=>True) (fun _ _ h _=>h) (fun _ _=>trivial) (fl:=c.fl) (X:=fun H G w=>FrsOk Z F H G w c.fl c.fs ats) hT hE hI (aou hns) (nW _) xd Fz hp hnew (sS hc.sr) hc.fl (fun H G w H' G' w' hx hp=>hx.ev hp (alL _)) (fun n l L G w a hf ho hcl hsz hL k1 k2 k3=>?_) _ _ _ hrun sf (by rw[ib]) (fun t s hs=>.inl (hlow t s hs)) G1 w a (by rw[hst0];exact g1) (by rw[hst0];exact g2) (by rw[hst0];exact hc.frs.ev (fun s v h _=>g3 s v h) (alL _)) trivial
   exact tail c i la ss ats fn n l L G w a (hf.resolve_right fun h=>h.1) (sS hc.sr) hc.fl hns hcl hsz k1 k2 k3 hfn
  ·-- tbx
   rename_i i D
   clear h
   simp only[k9]
   intro hD0 hns
   subst hD0
   have hlow:∀t s,aN c.L t=some s→s.refsT c.H.length=true:=fun t s hs=>by
    obtain⟨v,_,hv⟩:=hc.fr.slot t s hs
    exact mS hc.sr hv
   obtain⟨la,ss,Φ,hstr,hp,hnew,hdd,hrun⟩:=VU hT hE (c:=c) (m+1) [] c.L c.H h0 (by rw[EU];rfl) (fun j hj=>by cases hj) hlow sf
   obtain⟨G1,g1,g2,g3⟩:=wM (dn (mkL (ak (nth (aj F c.f) i)).size [])) (la:=la) (fun x hx=>by
    obtain⟨⟨o,ho,_⟩,_⟩:=hp.la2 x hx
    exact fE (by simp) (alZ.1 ho).1) hc.sr hc.fr
   have hst0:cG (dn (mkL (ak (nth (aj F c.f) i)).size [])) ss (c.H++alX (dn (mkL (ak (nth (aj F c.f) i)).size [])) la)=c.H++alX (dn (mkL (ak (nth (aj F c.f) i)).size [])) la:=qb fun s hs=>by
    obtain⟨⟨o,ho,_⟩,_⟩:=hp.ss1 s hs
    exact fE (by simp) (alZ.1 ho).1
   have hml:(c.H.map ddJ).length=c.H.length:=anq _
   have hlen:(Φ c.H).length=c.H.length:=by rw[←anq (f:=ddJ),hdd,hml]
   have hlowΦ:mX (Φ c.H).length (Φ c.H):=by rw[hlen];exact Iq (by rw[hdd];exact CW (sS hc.sr))
   have hlate:∀(j:Nat) (oj:Oper),(ak (nth (aj F c.f) i))[j]?=some oj→aZ oj=true→eT E (ak (nth (aj F c.f) i)) j=false:=fun j oj hoj hal=>by
    unfold eT
    rw[hoj]
    dsimp only
    rw[hal]
    simp
   have hclΦ:c.fl≤(Φ c.H).length:=by rw[hlen];exact hc.fl
   refine TRunB.sound (T:=T) (Hf:=Φ c.H) (fl:=c.fl) (X:=fun H G w=>FrsOk Z F H G w c.fl c.fs ats) hT hE hI (fun n l L j oj hf hcl hj ho hoj hal=>?_) (fun hlo=>by rw[hstr]at hlo;cases hlo) hp (fun s hs=>by rw[hml];exact hnew s hs) (by rw[hml];exact CW (sS hc.sr)) (by rw[hml];exact hc.fl) (fun H G w H' G' w' hx hp=>hx.ev hp (alL _)) (fun n l L G w a ho hf hcl hsz hL k1 k2 k3=>?_) _ _ _ _ hrun c.H rfl rfl sf (by rw[ib]) (fun t s hs=>.inl (by rw[hml];exact hlow t s hs)) G1 w a (by rw[hst0];exact g1) (by rw[hst0];exact g2) (by rw[hst0];exact hc.frs.ev (fun s v h _=>g3 s v h) (alL _))
   ·obtain⟨n',r',x,L',e1,e2,e3,e4,e5,e6,e7,e8⟩:=xd n l L j oj hf hj ho hoj hal
    have hon:=yZ ho j (hlate j oj hoj hal)
    exact⟨n',r',x,L',e1,e2,e3,e4,e5,e6,(by rw[hml,←hlen];exact e7),hon,e8.fin hon (hcl.set hj)⟩
   exact tail {c with H:=Φ c.H} i la ss ats fn n l L G w a hf hlowΦ hclΦ hns hcl hsz k1 k2 k3 hfn
  ·-- tal
   rename_i i D
   clear h
   simp only[k9]
   intro S0 hS0 hSt hclo hns m' hm'
   have hlow:∀t s,aN c.L t=some s→s.refsT c.H.length=true:=fun t s hs=>by
    obtain⟨v,_,hv⟩:=hc.fr.slot t s hs
    exact mS hc.sr hv
   have hrun:=Va hT hE (c:=c) (m+1) D c.L h0 (by omega)
   have e:m'=(ak (nth (aj F c.f) i)).size-D.length:=by omega
   subst e
   have key:∀S1:World→Prop,(∀w w',S1 w→Old w w'→S1 w')→S1 w→wpG P (ak (nth (aj F c.f) i)) (iD P fn (fD P F Rt c.fs ats) (aj F c.f) (iH P fn (fD P F Rt c.fs ats) (aj F c.f) c.K)) S1 ((ak (nth (aj F c.f) i)).size-D.length) (mkL (ak (nth (aj F c.f) i)).size D) a w:=fun S1 hS1 hw1=>by
    refine TRun.sound (T:=T) (S0:=S1) (la:=[]) (ss:=[]) hS1 (fun h=>(h rfl).elim) (fl:=c.fl) (X:=fun H G w=>FrsOk Z F H G w c.fl c.fs ats) hT hE hI (aou hns) (nW _) (fun _ _ _ _ _ h=>h.elim) (fun _ _ _ _ _ _ h=>h.elim) (N:=ntm F c.f) ⟨List.Pairwise.nil,fun a ha=>(by cases ha),fun s hs=>(by cases hs),List.Pairwise.nil⟩ (fun s hs=>by cases hs) (sS hc.sr) hc.fl (fun H G w H' G' w' hx hp=>hx.ev hp (alL _)) (fun n l L G w a hf ho hcl hsz hL k1 k2 k3=>?_) _ _ _ hrun hclo (by rw[ib]) (fun t s hs=>.inl (hlow t s hs)) G w a (by rw[show cG (dn (mkL (ak (nth (aj F c.f) i)).size D)) [] (c.H++alX (dn (mkL (ak (nth (aj F c.f) i)).size D)) [])=c.H from ame _];exact hc.sr) (by rw[show cG (dn (mkL (ak (nth (aj F c.f) i)).size D)) [] (c.H++alX (dn (mkL (ak (nth (aj F c.f) i)).size D)) [])=c.H from ame _];exact hc.fr) (by rw[show cG (dn (mkL (ak (nth (aj F c.f) i)).size D)) [] (c.H++alX (dn (mkL (ak (nth (aj F c.f) i)).size D)) [])=c.H from ame _];exact hc.frs) hw1
    rcases hf with h|⟨⟨q,hq,hgo⟩,hrd⟩
    ·exact h.elim
    ·rw[show cG (dn l) [] (c.H++alX (dn l) [])=c.H from ame _]at k1 k2 k3
     exact wA hrd (ihs q (by omega) _ _ hgo G w a ats fn ⟨k1,k2,hc.fl,k3⟩ hfn) _
   rcases hSt with h|h
   ·exact Nc _ _ _ _ h (key (fun _=>True) (fun _ _ _ _=>trivial) trivial)
   ·exact key S0 hS0 h
  ·-- ret
   simp only[k9]
   rw[hfn]at h
   dsimp only at h
   split at h<;>try (cases h;done)
   rename_i ss hss
   split at h
   ·rename_i hfs
    rw[hfs]
    have hats:ats=[]:=by
     have:=hc.frs
     rw[hfs]at this
     cases ats with
     |nil=>rfl
     |cons=>exact this.elim
    subst hats
    exact Ng hT hc.sr hc.fr hss fun vs hvs=>hRt vs _ _ _ _ _ h hc.sr hvs
   ·rename_i g K2 i2 q2 L3 fl2 d2 fs hfs
    split at h<;>try (cases h;done)
    rename_i o ho
    split at h<;>try (cases h;done)
    rename_i L2 hp hgood
    have hfrs:=hc.frs
    rw[hfs]at hfrs ⊢
    match ats,hfrs with
    |a0::ats,⟨k1,k2,k3,k4⟩=>
     obtain⟨k3,⟨fn',hfn'⟩,k5⟩:=k3
     refine Ng hT hc.sr hc.fr hss fun vs hvs=>⟨_,rfl,fn',o,hfn',ho,?_⟩
     have hb:=NL (fun s hs l e=>by subst e;have:=al4.1 hgood _ hs;simp[SV.good]at this) hvs
     split at h
     ·exact⟨fun _=>ih _ _ h G w (a0.put o.dst _) ats fn' ⟨hc.sr,k1.put hp hb,alU k3 hc.fl,k4⟩ hfn',fun D hD=>by cases hD⟩
     ·rename_i D
      refine⟨fun hD=>(by cases hD),fun D' hD=>?_⟩
      injection hD with hD
      subst hD
      obtain⟨d1,d2,d3⟩:=k5 D rfl
      exact ih _ _ h G w (a0.put o.dst _) ats fn' ⟨hc.sr,k1.put hp hb,alU k3 hc.fl,k4⟩ hfn' (fun _=>True) (fun _ _ _ _=>trivial) (.inr trivial) d1 d2 _ (Nat.sub_add_cancel d3)
end
end
structure Ctx where
 P:Program
 F:FT
 T:TT
 E:Env
 N:NT
structure Ctx.Ok (C:Ctx):Prop where
 T:fb C.P C.T=true
 E:lz C.P C.E
 F:∀f fn,gn C.F f=some fn→C.P.funcs[f]?=some fn
 m:C.P.follows .mixedOrders=true
def Ctx.k(C:Ctx)(n:Nat):Nat→Cfg→Option (List RV):=run C.P C.F C.T C.E C.N n
def Ctx.Runs(C:Ctx)(i:Nat)(c:Cfg)(r:List RV):Prop:=∃n,C.k n i c=some r
def Ctx.RunsE(C:Ctx)(i:Nat)(c:Cfg)(r:List RV):Prop:=∃n0,∀n,n0≤n→C.k n i c=some r
def Ctx.go(C:Ctx)(n:Nat)(c:Cfg)(p:Pos):Option (List RV):=Proofs.YtnkndpoojnflmaaGreat.go C.P C.F C.T C.E C.N (C.k n) 4000 c p
def Ctx.Res(C:Ctx)(f:Nat)(args:List SV)(r:List RV):Prop:=∃n,C.go n (sE f args) (.node 0)=some r
theorem Ctx.Runs.step{C:Ctx}{i:Nat}{c:Cfg}{r:List RV}(h:∃n,C.go n {c with K:=.lp i::c.K} (.node (i+1))=some r):C.Runs i c r:=by
 obtain⟨n,h⟩:=h
 exact⟨n+1,h⟩
def okF(fn:Func)(k:Nat):Bool:=fn.body.isSome&&Nat.ble k fn.ntmps
theorem KB{C:Ctx}(ok:C.Ok){Z:Nat→Prop}{w0:World}(hI:inv w0){Rt:Ending→World→Prop}{r:List RV}(hRt:∀vs H G w ss tys,Ay C.T H ss tys=some r→SR Z w0 H G w→ck (Rel G (Av Z H G) w) ss vs→Rt (.returned (l6 vs)) w):
  ∀n i c G w a ats fn,run C.P C.F C.T C.E C.N n i c=some r→CR Z C.F w0 c G w a ats→gn C.F c.f=some fn→InLoop C.P (nth (aj C.F c.f) (i+1)) (iD C.P fn (fD C.P C.F Rt c.fs ats) (aj C.F c.f) (iH C.P fn (fD C.P C.F Rt c.fs ats) (aj C.F c.f) c.K)) a w:=by
 intro n
 induction n with
 |zero=>intro i c G w a ats fn h;simp[run]at h
 |succ n ih=>
  intro i c G w a ats fn h hc hfn
  have:=Ec ok.T ok.E hI ok.F ok.m hRt (fun i c G w a ats fn h1 h2 h3=>ih i c G w a ats fn h1 h2 h3) 4000 _ _ h G w a ats fn ⟨hc.sr,hc.fr,hc.fl,hc.frs⟩ hfn
  exact InLoop.step this
theorem Ctx.Res.con{C:Ctx}(ok:C.Ok){f:Nat}{fn:Func}{args:List SV}{r:List RV}(h:C.Res f args r)(hfn:gn C.F f=some fn)(hk:okF fn args.length=true):Con C.P f args r:=by
 intro A w vs hI ha
 obtain⟨n,h⟩:=h
 simp only[okF,alJ]at hk
 obtain⟨B,hB⟩:=amI.1 hk.1
 have hbf:aj C.F f=B:=by simp[aj,hfn,hB]
 let Z:Nat→Prop:=fun b=>A b∨w.heap.size≤b
 have hkp:Keeps A (Av Z [] []) w w:=⟨alL _,fun b _ hA=>⟨.inl hA,fun j it g h=>by simp at h⟩,fun _ _ _=>rfl⟩
 have ha2:ck (Rel [] (Av Z [] []) w) args vs:=bR (fun s v h=>eH (h.keep hkp fun j g _ h=>h)) ha
 refine enter (ok.F f fn hfn) hB (amb (by rw[←fa ha];exact alM hk.2)) fun a hst=>?_
 have hsr:SR Z w [] [] w:=⟨rfl,aoL _ _,fun j it g h=>by simp at h,fun i j it jt g h b _ h1=>by simp at h1,fun b hb=>.inr hb⟩
 let Rt:Ending→World→Prop:=fun e w'=>∃v,e=.returned v∧Below w.heap.size w w'∧wG Z w.heap.size w' r v
 have hRt:∀vs H G w' ss tys,Ay C.T H ss tys=some r→SR Z w H G w'→ck (Rel G (Av Z H G) w') ss vs→Rt (.returned (l6 vs)) w':=fun vs H G w' ss tys h1 h2 h3=>⟨_,rfl,h2.below,ac2 ok.T h2 h1 h3⟩
 have:=Ec ok.T ok.E hI ok.F ok.m hRt (fun i c G w a ats fn h1 h2 h3=>KB ok hI hRt n i c G w a ats fn h1 h2 h3) 4000 _ _ h [] w a [] fn ⟨hsr,⟨hst.defers,by rw[hst.size];simp[ntm,sE,hfn],qm ha2 hst.slot⟩,alL _,trivial⟩ hfn
 simp only[k9,sE]at this
 rwa [hbf]at this
def FtAll(P:Program):FT→Prop
 |[]=>True
 |p::l=>P.funcs[p.1]?=some p.2∧FtAll P l
theorem FtAll.look{P:Program}:∀{l:FT},FtAll P l→∀f fn,gn l f=some fn→P.funcs[f]?=some fn
 |[],_,f,fn,h=>by simp[gn]at h
 |(k,x)::l,⟨h1,h2⟩,f,fn,h=>by
  simp only[gn]at h
  split at h
  ·rename_i hb
   have:=alK hb
   subst this
   injection h with h
   subst h
   exact h1
  ·exact FtAll.look h2 f fn h
abbrev KT:=Nat→Cfg→Option (List RV)
@[reducible] def og(b:Bool)(r:Option (List RV)):Option (List RV):=match b with
 |true=>r
 |false=>none
theorem aeM(r:Option (List RV)):og true r=r:=rfl
theorem ahV{C:Ctx}{f:Nat}{args:List SV}{t:KT→Option (List RV)}{r:List RV}(e:∀k,go2 C.P C.F C.T C.E C.N k 4000 (sE f args) (.node 0)=t k)(h:∃n,t (C.k n)=some r):C.Res f args r:=by
 obtain⟨n,h⟩:=h
 exact⟨n,(ET _ _ _ _ _ _ _ _ _).symm.trans ((e _).trans h)⟩
theorem aj2{C:Ctx}{i:Nat}{c:Cfg}{t:KT→Option (List RV)}{r:List RV}(e:∀k,go2 C.P C.F C.T C.E C.N k 4000 {c with K:=.lp i::c.K} (.node (i+1))=t k)(h:∃n,t (C.k n)=some r):C.Runs i c r:=by
 obtain⟨n,h⟩:=h
 exact⟨n+1,(ET _ _ _ _ _ _ _ _ _).symm.trans ((e _).trans h)⟩
theorem ahy{C:Ctx}{i:Nat}{c:Cfg}{t:KT→Option (List RV)}{r:List RV}(e:∀k,go2 C.P C.F C.T C.E C.N k 4000 {c with K:=.lp i::c.K} (.node (i+1))=t k)(h:∃n0,∀n,n0≤n→t (C.k n)=some r):C.RunsE i c r:=by
 obtain⟨n0,h⟩:=h
 refine⟨n0+1,fun n hn=>?_⟩
 obtain⟨q,rfl⟩:∃q,n=q+1:=⟨n-1,by omega⟩
 exact(ET _ _ _ _ _ _ _ _ _).symm.trans ((e _).trans (h q (by omega)))
@[reducible] def DT:List Ty→Type
 |[]=>Unit
 |t::r=>t.D×DT r
def HM:(ts:List Ty)→List SV→Option (DT ts)
 |[],l=>match l with
  |[]=>some ()
  |_::_=>none
 |t::r,l=>match l with
  |.d u x::m=>match fv u t x with
   |some y=>match HM r m with
    |some z=>some (y,z)
    |none=>none
   |none=>none
  |_=>none
def svs:(ts:List Ty)→DT ts→List SV
 |[],_=>[]
 |t::r,x=>.d t x.1::svs r x.2
theorem xn:∀{ts:List Ty} {l:List SV} {x:DT ts},HM ts l=some x→l=svs ts x
 |[],l,x,h=>by
  cases l with
  |nil=>rfl
  |cons a b=>cases h
 |t::r,l,x,h=>by
  unfold HM at h
  split at h
  ·split at h
   ·rename_i e1
    split at h
    ·rename_i e2
     injection h with h
     subst h
     obtain⟨rfl,rfl⟩:=dA e1
     rw[xn e2]
     rfl
    ·cases h
   ·cases h
  ·cases h
def spN(keep tame:Bool)(ts:List Ty)(pre:DT ts→Bool)(res:DT ts→List RV):ef:={keep:=keep,tame:=tame,run:=fun _ args k=>match HM ts args with
 |some x=>match pre x with
  |true=>k (res x)
  |false=>none
 |none=>none}
theorem aas{P:Program}{f:Nat}{keep tame:Bool}{ts:List Ty}{pre:DT ts→Bool}{res:DT ts→List RV}(hc:eD P f=true)(h:∀x,pre x=true→Con P f (svs ts x) (res x)):eD P f=true∧Bn P f (spN keep tame ts pre res)∧∀g,(spN keep tame ts pre res).mut_=some g→Kb P f g:=by
 refine⟨hc,fun R args k r e=>?_,fun g e=>by cases e⟩
 unfold spN at e
 dsimp only at e
 split at e
 ·rename_i x e1
  split at e
  ·rename_i e2
   rw[xn e1]
   exact⟨_,e,h x e2⟩
  ·cases e
 ·cases e
theorem aj6{C:Ctx}(ok:C.Ok){f:Nat}{fn:Func}{args:List SV}{r r':List RV}{p:Prop}[Decidable p](e:∀k,go2 C.P C.F C.T C.E C.N k 4000 (sE f args) (.node 0)=match decide p with|true=>some r'|false=>none)(hp:p)(hr:r'=r)(hfn:gn C.F f=some fn)(hk:okF fn args.length=true):Con C.P f args r:=by
 refine Ctx.Res.con ok (ahV (t:=fun _=>match decide p with|true=>some r'|false=>none) e ⟨0,?_⟩) hfn hk
 rw[alF hp,←hr]
theorem aT{x:Int}(h1: -9223372036854775808≤x)(h2:x≤9223372036854775807):i64.wrap x=x:=IntWalk.i64_in x ⟨h1,h2⟩
theorem bV{k:Nat}(h:k+1≤9223372036854775807):i64.wrap ((k:Int)+1)=((k+1:Nat):Int):=by rw[aT (by omega) (by omega)];simp
theorem ao{α:Type}(xs:List α)(k:Nat):aR xs (k:Int)=xs[k]?:=by unfold aR;rw[alF (by omega)];rfl
theorem zg{α:Type}(xs:List α):aR xs 0=xs[0]?:=ao xs 0
theorem bH{k n:Nat}(h:k<n):decide ((k:Int)<(n:Int))=true:=alF (by omega)
theorem b9{k n:Nat}(h:n≤k):decide ((k:Int)<(n:Int))=false:=alH (by omega)
theorem gh{α:Type}{xs:List α}{k:Nat}(h:k<xs.length):xs.drop k=xs[k]::xs.drop (k+1):=al1 h
theorem o0{α:Type}{xs:List α}{k:Nat}(h:xs.length≤k):xs.drop k=[]:=amB h
theorem aD(k:Nat):((k:Int)).toNat=k:=anm k
theorem adu{m b:Nat}(hb:b≤1000)(h:m≤1000000):decide ((m+1)*b≤140737488355328∧m+1≤140737488355328)=true:=by
 have:(m+1)*b≤1000001*1000:=anP (by omega) hb
 exact alF ⟨by omega,by omega⟩
theorem dT{p:Prop}{i:Decidable p}(h:p): @decide p i=true:=alF h
theorem dF{p:Prop}{i:Decidable p}(h:¬p): @decide p i=false:=alH h
def val:List Int→Int
 |[]=>0
 |x::xs=>x+1000000000*val xs
def Lim(l:List Int):Prop:=∀x∈l,0≤x∧x<1000000000
instance (l:List Int):Decidable (Lim l):=by unfold Lim;infer_instance
def pw(n:Nat):Int:=1000000000^n
theorem m6:pw 0=1:=rfl
theorem b8(n:Nat):pw (n+1)=pw n*1000000000:=by simp[pw,Int.pow_succ]
theorem cp(n:Nat):0<pw n:=Int.pow_pos (by decide)
theorem fu(m n:Nat):pw (m+n)=pw m*pw n:=Int.pow_add _ _ _
theorem dh{m n:Nat}(h:m≤n):pw m≤pw n:=by
 obtain⟨k,rfl⟩:=Nat.exists_eq_add_of_le h
 rw[fu]
 have h1:=cp m
 have h2:=cp k
 have:=alN (show 1≤pw k by omega) (amn h1)
 omega
theorem Lim.nil:Lim []:=fun _ h=>by cases h
theorem Lim.cons{x:Int}{l:List Int}(h1:0≤x∧x<1000000000)(h2:Lim l):Lim (x::l):=fun y hy=>by
 rcases al0.1 hy with rfl|hy
 ·exact h1
 ·exact h2 y hy
theorem Lim.head{x:Int}{l:List Int}(h:Lim (x::l)):0≤x∧x<1000000000:=h x (by simp)
theorem Lim.tail{x:Int}{l:List Int}(h:Lim (x::l)):Lim l:=fun y hy=>h y (by simp[hy])
theorem Lim.append{a b:List Int}(h1:Lim a)(h2:Lim b):Lim (a++b):=fun y hy=>by
 rcases amr.1 hy with hy|hy
 ·exact h1 y hy
 ·exact h2 y hy
theorem Lim.left{a b:List Int}(h:Lim (a++b)):Lim a:=fun y hy=>h y (by simp[hy])
theorem Lim.right{a b:List Int}(h:Lim (a++b)):Lim b:=fun y hy=>h y (by simp[hy])
theorem Lim.take{a:List Int}(h:Lim a)(n:Nat):Lim (a.take n):=fun y hy=>h y (anR hy)
theorem Lim.drop{a:List Int}(h:Lim a)(n:Nat):Lim (a.drop n):=fun y hy=>h y (anS hy)
theorem Lim.set{a:List Int}(h:Lim a)(n:Nat){y:Int}(hy:0≤y∧y<1000000000):Lim (a.set n y):=fun z hz=>by
 rcases List.mem_or_eq_of_mem_set hz with hz|rfl
 ·exact h z hz
 ·exact hy
theorem Lim.get{a:List Int}(h:Lim a){n:Nat}(hn:n<a.length):0≤a[n]∧a[n]<1000000000:=h _ (amh hn)
theorem Lim.rep(n:Nat):Lim (List.replicate n 0):=fun y hy=>by
 rw[List.eq_of_mem_replicate hy];decide
theorem dB(a b:List Int):val (a++b)=val a+pw a.length*val b:=by
 induction a with
 |nil=>simp[val,pw]
 |cons x a ih=>
  grind [val,b8]
theorem aP{l:List Int}(h:Lim l):0≤val l:=by
 induction l with
 |nil=>exact Int.le_refl _
 |cons x l ih=>
  grind [h.tail,h.head,val]
theorem bW{l:List Int}(h:Lim l):val l<pw l.length:=by
 induction l with
 |nil=>exact Int.zero_lt_one
 |cons x l ih=>
  grind [h.tail,h.head,val,b8]
theorem AV:∀{a b:List Int},Lim a→Lim b→a.length=b.length→val a=val b→a=b
 |[],[],_,_,_,_=>rfl
 |[],_::_,_,_,h,_=>by simp at h
 |_::_,[],_,_,h,_=>by simp at h
 |x::a,y::b,h1,h2,hl,hv=>by
  have k1:=h1.head
  have k2:=h2.head
  simp only[val]at hv
  have e:x=y:=by omega
  subst e
  rw[AV h1.tail h2.tail (by simpa using hl) (by omega)]
theorem gI(n:Nat):val (List.replicate n 0)=0:=by
 induction n with
 |zero=>rfl
 |succ n ih=>simp[List.replicate_succ,val,ih]
theorem aW{l:List Int}{n:Nat}(h:n<l.length):val (l.take (n+1))=val (l.take n)+pw n*l[n]:=by grind [List.take_succ_eq_append_getElem,dB,val]
theorem fj:∀{l:List Int} {n:Nat} (h:n<l.length) (y:Int),val (l.set n y)=val l+pw n*(y-l[n])
 |[],_,h,_=>by simp at h
 |x::l,0,_,y=>by simp only[List.set_cons_zero,val,m6,List.getElem_cons_zero];omega
 |x::l,n+1,h,y=>by
  have:=fj (l:=l) (n:=n) (by simpa using h) y
  simp only[List.set_cons_succ,val,this,b8,List.getElem_cons_succ]
  grind
theorem f0(l:List Int)(n:Nat):val l=val (l.take n)+pw (min n l.length)*val (l.drop n):=by
 have:=dB (l.take n) (l.drop n)
 simp_all
def dig:Nat→Int→List Int
 |0,_=>[]
 |n+1,v=>v%1000000000::dig n (v/1000000000)
theorem ji:∀(n:Nat) (v:Int),(dig n v).length=n
 |0,_=>rfl
 |n+1,v=>by simp[dig,ji n]
theorem nM:∀(n:Nat) (v:Int),Lim (dig n v)
 |0,_=>Lim.nil
 |n+1,v=>Lim.cons (by omega) (nM n _)
theorem io:∀(n:Nat) (v:Int),0≤v→v<pw n→val (dig n v)=v
 |0,v,h1,h2=>by simp only[m6]at h2;simp only[dig,val];omega
 |n+1,v,h1,h2=>by
  rw[b8]at h2
  simp only[dig,val]
  rw[io n (v/1000000000) (by omega) (by omega)]
  omega
theorem A0{l:List Int}{n:Nat}{v:Int}(h:Lim l)(hl:l.length=n)(hv:val l=v):l=dig n v:=by
 subst hl hv
 grind [AV,nM,ji,io,aP,bW]
def lbF:Nat→Nat→List Int
 |0,_=>[]
 |f+1,n=>bif n==0 then []else((n%1000000000:Nat):Int)::lbF f (n/1000000000)
def ag(n:Nat):List Int:=lbF (n.log2+1) n
theorem rW(f:Nat):lbF f 0=[]:=by cases f<;>rfl
theorem DZ:∀(f g n:Nat),n<2^f→n<2^g→lbF f n=lbF g n
 |0,g,n,h,_=>by
  have:n=0:=by simpa using h
  subst this
  rw[rW,rW]
 |f+1,0,n,_,h=>by
  have:n=0:=by simpa using h
  subst this
  rw[rW,rW]
 |f+1,g+1,n,h1,h2=>by
  rw[Nat.pow_succ]at h1 h2
  simp only[lbF]
  rw[DZ f g (n/1000000000) (by omega) (by omega)]
theorem Lp{f n:Nat}(h:n<2^f):ag n=lbF f n:=DZ _ _ _ Nat.lt_log2_self h
theorem fI:ag 0=[]:=rfl
theorem iK{n:Nat}(h:n≠0):ag n=((n%1000000000:Nat):Int)::ag (n/1000000000):=by grind [Nat.lt_log2_self,Lp,ag,lbF]
theorem qg{motive:Nat→Prop}(h0:motive 0)(h1:∀n,n≠0→motive (n/1000000000)→motive n)(n:Nat):motive n:=by
 induction n using Nat.strongRecOn with
 |ind n ih=>
  grind
theorem bZ(n:Nat):Lim (ag n):=by
 induction n using qg with
 |h0=>exact Lim.nil
 |h1 n hn ih=>rw[iK hn];exact Lim.cons (by omega) ih
theorem bg(n:Nat):val (ag n)=(n:Int):=by
 induction n using qg with
 |h0=>rfl
 |h1 n hn ih=>rw[iK hn];simp only[val];omega
def can(l:List Int):Prop:=Lim l∧l.getLast?≠some 0
instance (l:List Int):Decidable (can l):=by unfold can;infer_instance
theorem eh(n:Nat):can (ag n):=by
 refine⟨bZ n,?_⟩
 induction n using qg with
 |h0=>simp[fI]
 |h1 n hn ih=>
  grind [iK]
theorem Ie{x:Int}{l:List Int}(h:can (x::l)):can l:=by
 refine⟨h.1.tail,fun e=>h.2 ?_⟩
 grind
theorem eI:∀{l:List Int},can l→l≠[]→0<val l
 |[],_,h=>by cases h rfl
 |[x],h,_=>by
  have:=h.1.head
  have h2:=h.2
  simp at h2
  simp only[val]
  omega
 |x::y::l,h,_=>by
  have:=eI (Ie h) (by simp)
  have:=h.1.head
  simp only[val]at*
  omega
theorem po:∀{l:List Int},can l→l=ag (val l).toNat
 |[],_=>rfl
 |x::l,h=>by
  have ih:=po (Ie h)
  have hp:=eI h (by simp)
  have hx:=h.1.head
  have hn:=aP h.1.tail
  rw[iK (by omega)]
  simp only[val]at hp ⊢
  rw[show(x+1000000000*val l).toNat%1000000000=x.toNat by omega,show(x+1000000000*val l).toNat/1000000000=(val l).toNat by omega,←ih]
  rw[show((x.toNat:Nat):Int)=x by omega]
theorem dl{n k:Nat}(h:(n:Int)<pw k):(ag n).length≤k:=by
 induction k generalizing n with
 |zero=>
  have:n=0:=by simp only[m6]at h;omega
  subst this
  simp[fI]
 |succ k ih=>
  rw[b8]at h
  by_cases hn:n=0
  ·subst hn;simp[fI]
  ·rw[iK hn]
   have:=ih (n:=n/1000000000) (by omega)
   simp;omega
theorem BY{n k:Nat}(h:pw k≤(n:Int)):k<(ag n).length:=by
 rcases amm k (ag n).length with h1|h1
 ·grind
 ·have h2:=bW (bZ n)
  rw[bg]at h2
  have:=dh h1
  omega
theorem gU{n:Nat}:ag n=[]↔n=0:=by
 constructor
 ·grind [bg,val]
 ·rintro rfl;rfl
def ai(z:Int):Bool×List Int:=(decide (z<0),ag z.natAbs)
def ae(x:Bool×List Int):Int:=bif x.1 then-val x.2 else val x.2
theorem dec_enc(z:Int):ae (ai z)=z:=by grind [ae,ai,bg]
def cr(a b:Int):Int:=bif decide (a<b)then-1 else bif decide (b<a)then 1 else 0
abbrev y0Y:Ty:=.st (.pair .str (.int .u64))
abbrev y1Y:Ty:=.st (.pair (.int .i64) (.int .i64))
abbrev y2Y:Ty:=.st (.pair .bool (.sl (.int .u32)))
abbrev y3Y:Ty:=.st (.pair (.int .i16) (.pair (.int .i16) (.int .u8)))
abbrev y4Y:Ty:=.st (.pair (.int .i64) (.pair (.int .i64) (.pair .bool (.int .u8))))
abbrev y5Y:Ty:=.st (.pair (.int .u8) (.pair (.int .u8) (.pair (.int .i8) (.pair (.int .i8) (.pair (.int .i8) (.pair (.int .i8) (.pair (.int .i8) (.int .i8))))))))
abbrev y6Y:Ty:=.st (.pair (.st (.pair y2Y y2Y)) (.st (.pair y2Y y2Y)))
abbrev y7Y:Ty:=.st (.pair (.st (.pair y2Y y2Y)) (.pair (.st (.pair y2Y y2Y)) (.st (.pair y2Y y2Y))))
abbrev y8Y:Ty:=.st (.pair y5Y (.pair y5Y (.int .u8)))
abbrev y9Y:Ty:=.st (.pair (.st (.pair y2Y y2Y)) (.pair (.st (.pair y2Y y2Y)) (.pair (.st (.pair y2Y y2Y)) (.st (.pair y2Y y2Y)))))
abbrev RT:Ty:=.st (.pair (.st (.pair y2Y y2Y)) (.pair (.st (.pair y2Y y2Y)) (.pair (.st (.pair y2Y y2Y)) (.pair (.st (.pair y2Y y2Y)) (.st (.pair y2Y y2Y))))))
abbrev aeI:Ty:=.st (.pair (.st (.pair y2Y y2Y)) (.pair (.st (.pair y2Y y2Y)) (.pair (.st (.pair y2Y y2Y)) (.pair (.st (.pair y2Y y2Y)) (.pair (.st (.pair y2Y y2Y)) (.st (.pair y2Y y2Y)))))))
abbrev aaP:Ty:=.st (.pair .bool (.pair y7Y (.pair y7Y (.pair .bool (.pair RT RT)))))
abbrev aoW:Ty:=.sl (.int .u32)
abbrev aoX:Ty:=.int .i64
abbrev aoY:Ty:=.int .u32
def tN(n:Nat)(t:Ty):Nat×TI:=(n,⟨t,[],0,0,0,true⟩)
def tU(n:Nat):Nat×TI:=(n,⟨.int .i64,[],0,0,0,false⟩)
def tS(n:Nat)(t:Ty)(l:List (Nat×Nat)):Nat×TI:=(n,⟨t,l,0,0,0,true⟩)
def tA(n:Nat)(t:Ty)(e l:Nat):Nat×TI:=(n,⟨t,[],e,l,0,true⟩)
def tLs(n:Nat)(t:Ty)(e b:Nat):Nat×TI:=(n,⟨t,[],e,0,b,true⟩)
def tys:TT:=[tU 1,
 tN 2 aoX,
 tN 3 aoX,
 tN 4 .bool,
 tN 5 (.int .u8),
 tN 6 (.int .u8),
 tS 7 y4Y [(0,1),(1,1),(2,1),(3,1)],
 tS 8 y4Y [(0,1),(1,1),(2,1),(3,1)],
 tN 9 .str,
 tN 10 .str,
 tN 11 .str,
 tN 12 (.int .u64),
 tS 13 y0Y [(0,1),(1,1)],
 tS 14 y0Y [(0,1),(1,1)],
 tU 15,
 tU 16,
 tU 17,
 tN 21 (.int .i32),
 tN 22 (.int .i8),
 tS 23 y5Y [(0,1),(1,1),(2,1),(3,1),(4,1),(5,1),(6,1),(7,1)],
 tS 24 y5Y [(0,1),(1,1),(2,1),(3,1),(4,1),(5,1),(6,1),(7,1)],
 tS 25 y8Y [(0,8),(8,8),(16,1)],
 tS 26 y8Y [(0,8),(8,8),(16,1)],
 tLs 27 aoW 225 4,
 tS 28 y2Y [(0,1),(1,1)],
 tS 29 y2Y [(0,1),(1,1)],
 tS 30 (.st (.pair y2Y y2Y)) [(0,2),(2,2)],
 tS 31 (.st (.pair y2Y y2Y)) [(0,2),(2,2)],
 tS 32 y7Y [(0,4),(4,4),(8,4)],
 tS 33 y7Y [(0,4),(4,4),(8,4)],
 tS 34 y7Y [(0,4),(4,4),(8,4)],
 tS 35 y7Y [(0,4),(4,4),(8,4)],
 tS 36 RT [(0,4),(4,4),(8,4),(12,4),(16,4)],
 tS 37 RT [(0,4),(4,4),(8,4),(12,4),(16,4)],
 tS 38 aaP [(0,1),(1,12),(13,12),(25,1),(26,20),(46,20)],
 tS 39 aaP [(0,1),(1,12),(13,12),(25,1),(26,20),(46,20)],
 tU 41,
 tU 42,
 tU 43,
 tU 44,
 tU 45,
 tA 46 (.st (.pair (.int .i8) (.int .i8))) 1 2,
 tU 47,
 tU 48,
 tA 49 (.st (.pair (.int .i8) (.pair (.int .i8) (.int .i8)))) 1 3,
 tS 50 y6Y [(0,4),(4,4)],
 tS 51 y6Y [(0,4),(4,4)],
 tU 52,
 tU 53,
 tLs 54 (.sl aaP) 39 1040,
 tU 55,
 tLs 56 (.sl RT) 37 320,
 tU 58,
 tN 59 aoX,
 tU 61,
 tA 62 (.st (.pair (.int .i8) (.pair (.int .i8) (.pair (.int .i8) (.int .i8))))) 1 4,
 tU 63,
 tU 64,
 tU 65,
 tU 66,
 tU 67,
 tLs 68 (.sl y5Y) 24 8,
 tU 70,
 tU 71,
 tU 72,
 tU 73,
 tU 74,
 tLs 75 (.sl y1Y) 116 16,
 tN 76 (.int .i16),
 tS 77 y3Y [(0,1),(1,1),(2,1)],
 tS 78 y3Y [(0,1),(1,1),(2,1)],
 tU 79,
 tU 80,
 tS 81 y9Y [(0,4),(4,4),(8,4),(12,4)],
 tS 82 y9Y [(0,4),(4,4),(8,4),(12,4)],
 tU 83,
 tU 84,
 tU 85,
 tU 86,
 tU 87,
 tU 88,
 tU 89,
 tU 90,
 tU 91,
 tU 92,
 tU 93,
 tU 94,
 tU 95,
 tU 96,
 tU 98,
 tU 99,
 tU 100,
 tU 102,
 tU 103,
 tU 104,
 tU 105,
 tU 106,
 tU 107,
 tS 108 y7Y [(0,4),(4,4),(8,4)],
 tU 109,
 tU 110,
 tU 111,
 tU 112,
 tU 113,
 tU 114,
 tS 115 y1Y [(0,1),(1,1)],
 tS 116 y1Y [(0,1),(1,1)],
 tU 117,
 tLs 118 (.sl y6Y) 51 128,
 tU 119,
 tU 120,
 tU 121,
 tU 123,
 tU 124,
 tU 125,
 tU 126,
 tU 127,
 tU 128,
 tU 129,
 tU 130,
 tU 131,
 tU 132,
 tU 133,
 tU 134,
 tU 135,
 tU 136,
 tU 137,
 tU 138,
 tU 139,
 tU 140,
 tU 141,
 tU 142,
 tU 143,
 tU 144,
 tU 145,
 tU 146,
 tU 147,
 tU 149,
 tU 150,
 tU 151,
 tU 152,
 tU 153,
 tU 155,
 tU 156,
 tU 158,
 tU 159,
 tU 160,
 tU 161,
 tU 162,
 tU 163,
 tU 164,
 tU 165,
 tU 166,
 tU 167,
 tU 168,
 tU 169,
 tU 170,
 tU 171,
 tU 172,
 tU 174,
 tU 175,
 tU 176,
 tU 177,
 tU 178,
 tU 179,
 tU 180,
 tU 181,
 tU 182,
 tU 183,
 tN 184 (.int .u64),
 tU 185,
 tU 186,
 tU 187,
 tS 188 y6Y [(0,4),(4,4)],
 tS 189 y6Y [(0,4),(4,4)],
 tU 191,
 tS 192 aeI [(0,4),(4,4),(8,4),(12,4),(16,4),(20,4)],
 tS 193 aeI [(0,4),(4,4),(8,4),(12,4),(16,4),(20,4)],
 tU 194,
 tU 195,
 tU 196,
 tU 197,
 tU 198,
 tU 199,
 tU 200,
 tU 201,
 tU 203,
 tU 205,
 tU 206,
 tU 208,
 tU 209,
 tU 210,
 tU 211,
 tU 212,
 tU 214,
 tU 215,
 tU 216,
 tU 217,
 tU 218,
 tU 219,
 tU 220,
 tU 221,
 tU 222,
 tU 223,
 tU 224,
 tN 225 aoY,
 tU 227,
 tU 228,
 tU 229,
 tU 230,
 tU 231,
 tU 233,
 tU 234,
 tU 235,
 tU 236,
 tU 238,
 tU 239,
 tU 241,
 tLs 242 (.sl (.st (.pair y2Y y2Y))) 31 64,
 tU 243,
 tU 244,
 tU 246,
 tU 247,
 tU 248,
 tU 249,
 tU 250,
 tU 251,
 tU 252,
 tU 253,
 tU 254,
 tU 255,
 tS 256 (.st .bool) [(0,1)],
 tS 257 (.st .bool) [(0,1)],
 tS 258 y1Y [(0,1),(1,1)],
 tS 259 y1Y [(0,1),(1,1)],
 tU 260,
 tU 262,
 tU 263,
 tU 264,
 tU 265,
 tU 266,
 tU 268,
 tU 269,
 tU 270,
 tU 272,
 tU 273,
 tU 274,
 tN 275 (.int .u64),
 tU 277,
 tU 278,
 tU 279,
 tU 280,
 tLs 281 (.sl aoX) 2 8,
 tU 283,
 tU 284,
 tU 285,
 tU 286,
 tU 287,
 tU 288,
 tU 289,
 tU 291,
 tU 292,
 tU 293,
 tN 299 (.int .u8),
 tN 300 (.int .u8),
 tU 301,
 tU 302,
 tN 303 (.int .i32),
 tN 304 (.int .i32)]
theorem acT:fb Tryz.prog tys=true:=by kernel_rfl
theorem RK:Tryz.prog.follows .mixedOrders=true:=by kernel_rfl
set_option maxRecDepth 100000 in
noncomputable def ft:FT:=[(2,Tryz.f2),(3,Tryz.f3),(4,Tryz.f4),(5,Tryz.f5),(6,Tryz.f6),(7,Tryz.f7),(8,Tryz.f8),(9,Tryz.f9),(10,Tryz.f10),(11,Tryz.f11),(12,Tryz.f12),(13,Tryz.f13),(14,Tryz.f14),(15,Tryz.f15),(16,Tryz.f16),(17,Tryz.f17),(18,Tryz.f18),(19,Tryz.f19),(20,Tryz.f20),(21,Tryz.f21),(22,Tryz.f22),(23,Tryz.f23),(24,Tryz.f24),(25,Tryz.f25),(26,Tryz.f26),(27,Tryz.f27),(28,Tryz.f28),(29,Tryz.f29),(30,Tryz.f30),(31,Tryz.f31),(32,Tryz.f32),(33,Tryz.f33),(34,Tryz.f34),(35,Tryz.f35),(36,Tryz.f36),(37,Tryz.f37),(38,Tryz.f38),(39,Tryz.f39),(40,Tryz.f40),(41,Tryz.f41),(42,Tryz.f42),(43,Tryz.f43),(44,Tryz.f44),(45,Tryz.f45),(46,Tryz.f46),(47,Tryz.f47),(48,Tryz.f48),(49,Tryz.f49),(50,Tryz.f50),(51,Tryz.f51),(52,Tryz.f52),(53,Tryz.f53),(54,Tryz.f54),(55,Tryz.f55),(56,Tryz.f56),(57,Tryz.f57),(58,Tryz.f58),(59,Tryz.f59),(60,Tryz.f60),(61,Tryz.f61),(62,Tryz.f62),(63,Tryz.f63),(64,Tryz.f64),(65,Tryz.f65),(66,Tryz.f66),(67,Tryz.f67),(68,Tryz.f68),(69,Tryz.f69),(70,Tryz.f70),(71,Tryz.f71),(72,Tryz.f72),(73,Tryz.f73),(74,Tryz.f74),(75,Tryz.f75),(76,Tryz.f76),(77,Tryz.f77),(78,Tryz.f78),(79,Tryz.f79),(80,Tryz.f80),(81,Tryz.f81),(82,Tryz.f82),(83,Tryz.f83),(84,Tryz.f84),(85,Tryz.f85),(86,Tryz.f86),(87,Tryz.f87),(88,Tryz.f88),(89,Tryz.f89),(90,Tryz.f90),(91,Tryz.f91),(92,Tryz.f92),(93,Tryz.f93),(94,Tryz.f94),(95,Tryz.f95),(96,Tryz.f96),(97,Tryz.f97),(98,Tryz.f98),(99,Tryz.f99),(100,Tryz.f100),(101,Tryz.f101),(102,Tryz.f102),(103,Tryz.f103),(104,Tryz.f104),(105,Tryz.f105),(106,Tryz.f106),(107,Tryz.f107),(108,Tryz.f108),(109,Tryz.f109),(110,Tryz.f110),(111,Tryz.f111),(112,Tryz.f112),(113,Tryz.f113),(114,Tryz.f114),(115,Tryz.f115),(116,Tryz.f116),(117,Tryz.f117),(118,Tryz.f118),(119,Tryz.f119),(120,Tryz.f120),(121,Tryz.f121),(122,Tryz.f122),(123,Tryz.f123),(124,Tryz.f124),(125,Tryz.f125),(126,Tryz.f126),(127,Tryz.f127),(128,Tryz.f128),(129,Tryz.f129),(130,Tryz.f130),(131,Tryz.f131),(132,Tryz.f132),(133,Tryz.f133),(134,Tryz.f134),(135,Tryz.f135),(136,Tryz.f136),(137,Tryz.f137),(138,Tryz.f138),(139,Tryz.f139),(140,Tryz.f140),(141,Tryz.f141),(142,Tryz.f142),(143,Tryz.f143),(144,Tryz.f144),(145,Tryz.f145),(146,Tryz.f146),(147,Tryz.f147),(148,Tryz.f148),(149,Tryz.f149),(150,Tryz.f150),(151,Tryz.f151),(152,Tryz.f152),(153,Tryz.f153),(154,Tryz.f154),(155,Tryz.f155),(156,Tryz.f156),(157,Tryz.f157),(158,Tryz.f158),(159,Tryz.f159),(160,Tryz.f160),(161,Tryz.f161),(162,Tryz.f162),(163,Tryz.f163),(164,Tryz.f164),(165,Tryz.f165),(166,Tryz.f166),(167,Tryz.f167),(168,Tryz.f168),(169,Tryz.f169),(170,Tryz.f170),(171,Tryz.f171),(172,Tryz.f172),(173,Tryz.f173),(174,Tryz.f174),(175,Tryz.f175),(176,Tryz.f176),(177,Tryz.f177),(178,Tryz.f178),(179,Tryz.f179),(180,Tryz.f180),(181,Tryz.f181),(182,Tryz.f182),(183,Tryz.f183),(184,Tryz.f184),(185,Tryz.f185),(186,Tryz.f186),(187,Tryz.f187),(188,Tryz.f188),(189,Tryz.f189),(190,Tryz.f190),(191,Tryz.f191),(192,Tryz.f192),(193,Tryz.f193),(194,Tryz.f194),(195,Tryz.f195),(196,Tryz.f196),(197,Tryz.f197),(198,Tryz.f198),(199,Tryz.f199),(200,Tryz.f200),(201,Tryz.f201),(202,Tryz.f202),(203,Tryz.f203),(204,Tryz.f204),(205,Tryz.f205),(206,Tryz.f206),(207,Tryz.f207),(208,Tryz.f208),(209,Tryz.f209),(210,Tryz.f210),(211,Tryz.f211),(212,Tryz.f212),(213,Tryz.f213),(214,Tryz.f214),(215,Tryz.f215),(216,Tryz.f216),(217,Tryz.f217),(218,Tryz.f218),(219,Tryz.f219),(220,Tryz.f220),(221,Tryz.f221),(222,Tryz.f222),(223,Tryz.f223),(224,Tryz.f224),(225,Tryz.f225),(226,Tryz.f226),(227,Tryz.f227),(228,Tryz.f228),(229,Tryz.f229),(230,Tryz.f230),(231,Tryz.f231),(232,Tryz.f232),(233,Tryz.f233),(234,Tryz.f234),(235,Tryz.f235),(236,Tryz.f236),(237,Tryz.f237),(238,Tryz.f238),(239,Tryz.f239),(240,Tryz.f240),(241,Tryz.f241),(242,Tryz.f242),(243,Tryz.f243),(244,Tryz.f244),(245,Tryz.f245),(246,Tryz.f246),(247,Tryz.f247),(248,Tryz.f248),(249,Tryz.f249),(250,Tryz.f250),(251,Tryz.f251),(252,Tryz.f252),(253,Tryz.f253),(254,Tryz.f254),(255,Tryz.f255),(256,Tryz.f256),(257,Tryz.f257),(258,Tryz.f258),(259,Tryz.f259),(260,Tryz.f260),(261,Tryz.f261),(262,Tryz.f262),(263,Tryz.f263),(264,Tryz.f264),(265,Tryz.f265),(266,Tryz.f266),(267,Tryz.f267),(268,Tryz.f268),(269,Tryz.f269),(270,Tryz.f270),(271,Tryz.f271),(272,Tryz.f272),(273,Tryz.f273),(274,Tryz.f274),(275,Tryz.f275),(276,Tryz.f276),(277,Tryz.f277),(278,Tryz.f278),(279,Tryz.f279),(280,Tryz.f280),(281,Tryz.f281),(282,Tryz.f282),(283,Tryz.f283),(284,Tryz.f284),(285,Tryz.f285),(286,Tryz.f286),(287,Tryz.f287),(288,Tryz.f288),(289,Tryz.f289),(290,Tryz.f290),(291,Tryz.f291),(292,Tryz.f292),(293,Tryz.f293),(294,Tryz.f294),(295,Tryz.f295),(296,Tryz.f296),(297,Tryz.f297),(298,Tryz.f298),(299,Tryz.f299),(300,Tryz.f300),(301,Tryz.f301),(302,Tryz.f302),(303,Tryz.f303),(304,Tryz.f304),(305,Tryz.f305),(306,Tryz.f306),(307,Tryz.f307),(308,Tryz.f308),(309,Tryz.f309),(310,Tryz.f310),(311,Tryz.f311),(312,Tryz.f312),(313,Tryz.f313),(314,Tryz.f314),(315,Tryz.f315),(316,Tryz.f316),(317,Tryz.f317),(318,Tryz.f318),(319,Tryz.f319),(320,Tryz.f320),(321,Tryz.f321),(322,Tryz.f322),(323,Tryz.f323),(324,Tryz.f324),(325,Tryz.f325),(326,Tryz.f326),(327,Tryz.f327),(328,Tryz.f328),(329,Tryz.f329),(330,Tryz.f330),(331,Tryz.f331),(332,Tryz.f332),(333,Tryz.f333),(334,Tryz.f334),(335,Tryz.f335),(336,Tryz.f336),(337,Tryz.f337),(338,Tryz.f338),(339,Tryz.f339),(340,Tryz.f340),(341,Tryz.f341),(342,Tryz.f342),(343,Tryz.f343),(344,Tryz.f344),(345,Tryz.f345),(346,Tryz.f346),(347,Tryz.f347),(348,Tryz.f348),(349,Tryz.f349),(350,Tryz.f350),(351,Tryz.f351),(352,Tryz.f352),(353,Tryz.f353),(354,Tryz.f354),(355,Tryz.f355),(356,Tryz.f356),(357,Tryz.f357),(358,Tryz.f358),(359,Tryz.f359),(360,Tryz.f360),(361,Tryz.f361),(362,Tryz.f362),(363,Tryz.f363),(364,Tryz.f364),(365,Tryz.f365),(366,Tryz.f366),(367,Tryz.f367)]
set_option maxRecDepth 100000 in
theorem agq:FtAll Tryz.prog ft:=⟨Tryz.func2,Tryz.func3,Tryz.func4,Tryz.func5,Tryz.func6,Tryz.func7,Tryz.func8,Tryz.func9,Tryz.func10,Tryz.func11,Tryz.func12,Tryz.func13,Tryz.func14,Tryz.func15,Tryz.func16,Tryz.func17,Tryz.func18,Tryz.func19,Tryz.func20,Tryz.func21,Tryz.func22,Tryz.func23,Tryz.func24,Tryz.func25,Tryz.func26,Tryz.func27,Tryz.func28,Tryz.func29,Tryz.func30,Tryz.func31,Tryz.func32,Tryz.func33,Tryz.func34,Tryz.func35,Tryz.func36,Tryz.func37,Tryz.func38,Tryz.func39,Tryz.func40,Tryz.func41,Tryz.func42,Tryz.func43,Tryz.func44,Tryz.func45,Tryz.func46,Tryz.func47,Tryz.func48,Tryz.func49,Tryz.func50,Tryz.func51,Tryz.func52,Tryz.func53,Tryz.func54,Tryz.func55,Tryz.func56,Tryz.func57,Tryz.func58,Tryz.func59,Tryz.func60,Tryz.func61,Tryz.func62,Tryz.func63,Tryz.func64,Tryz.func65,Tryz.func66,Tryz.func67,Tryz.func68,Tryz.func69,Tryz.func70,Tryz.func71,Tryz.func72,Tryz.func73,Tryz.func74,Tryz.func75,Tryz.func76,Tryz.func77,Tryz.func78,Tryz.func79,Tryz.func80,Tryz.func81,Tryz.func82,Tryz.func83,Tryz.func84,Tryz.func85,Tryz.func86,Tryz.func87,Tryz.func88,Tryz.func89,Tryz.func90,Tryz.func91,Tryz.func92,Tryz.func93,Tryz.func94,Tryz.func95,Tryz.func96,Tryz.func97,Tryz.func98,Tryz.func99,Tryz.func100,Tryz.func101,Tryz.func102,Tryz.func103,Tryz.func104,Tryz.func105,Tryz.func106,Tryz.func107,Tryz.func108,Tryz.func109,Tryz.func110,Tryz.func111,Tryz.func112,Tryz.func113,Tryz.func114,Tryz.func115,Tryz.func116,Tryz.func117,Tryz.func118,Tryz.func119,Tryz.func120,Tryz.func121,Tryz.func122,Tryz.func123,Tryz.func124,Tryz.func125,Tryz.func126,Tryz.func127,Tryz.func128,Tryz.func129,Tryz.func130,Tryz.func131,Tryz.func132,Tryz.func133,Tryz.func134,Tryz.func135,Tryz.func136,Tryz.func137,Tryz.func138,Tryz.func139,Tryz.func140,Tryz.func141,Tryz.func142,Tryz.func143,Tryz.func144,Tryz.func145,Tryz.func146,Tryz.func147,Tryz.func148,Tryz.func149,Tryz.func150,Tryz.func151,Tryz.func152,Tryz.func153,Tryz.func154,Tryz.func155,Tryz.func156,Tryz.func157,Tryz.func158,Tryz.func159,Tryz.func160,Tryz.func161,Tryz.func162,Tryz.func163,Tryz.func164,Tryz.func165,Tryz.func166,Tryz.func167,Tryz.func168,Tryz.func169,Tryz.func170,Tryz.func171,Tryz.func172,Tryz.func173,Tryz.func174,Tryz.func175,Tryz.func176,Tryz.func177,Tryz.func178,Tryz.func179,Tryz.func180,Tryz.func181,Tryz.func182,Tryz.func183,Tryz.func184,Tryz.func185,Tryz.func186,Tryz.func187,Tryz.func188,Tryz.func189,Tryz.func190,Tryz.func191,Tryz.func192,Tryz.func193,Tryz.func194,Tryz.func195,Tryz.func196,Tryz.func197,Tryz.func198,Tryz.func199,Tryz.func200,Tryz.func201,Tryz.func202,Tryz.func203,Tryz.func204,Tryz.func205,Tryz.func206,Tryz.func207,Tryz.func208,Tryz.func209,Tryz.func210,Tryz.func211,Tryz.func212,Tryz.func213,Tryz.func214,Tryz.func215,Tryz.func216,Tryz.func217,Tryz.func218,Tryz.func219,Tryz.func220,Tryz.func221,Tryz.func222,Tryz.func223,Tryz.func224,Tryz.func225,Tryz.func226,Tryz.func227,Tryz.func228,Tryz.func229,Tryz.func230,Tryz.func231,Tryz.func232,Tryz.func233,Tryz.func234,Tryz.func235,Tryz.func236,Tryz.func237,Tryz.func238,Tryz.func239,Tryz.func240,Tryz.func241,Tryz.func242,Tryz.func243,Tryz.func244,Tryz.func245,Tryz.func246,Tryz.func247,Tryz.func248,Tryz.func249,Tryz.func250,Tryz.func251,Tryz.func252,Tryz.func253,Tryz.func254,Tryz.func255,Tryz.func256,Tryz.func257,Tryz.func258,Tryz.func259,Tryz.func260,Tryz.func261,Tryz.func262,Tryz.func263,Tryz.func264,Tryz.func265,Tryz.func266,Tryz.func267,Tryz.func268,Tryz.func269,Tryz.func270,Tryz.func271,Tryz.func272,Tryz.func273,Tryz.func274,Tryz.func275,Tryz.func276,Tryz.func277,Tryz.func278,Tryz.func279,Tryz.func280,Tryz.func281,Tryz.func282,Tryz.func283,Tryz.func284,Tryz.func285,Tryz.func286,Tryz.func287,Tryz.func288,Tryz.func289,Tryz.func290,Tryz.func291,Tryz.func292,Tryz.func293,Tryz.func294,Tryz.func295,Tryz.func296,Tryz.func297,Tryz.func298,Tryz.func299,Tryz.func300,Tryz.func301,Tryz.func302,Tryz.func303,Tryz.func304,Tryz.func305,Tryz.func306,Tryz.func307,Tryz.func308,Tryz.func309,Tryz.func310,Tryz.func311,Tryz.func312,Tryz.func313,Tryz.func314,Tryz.func315,Tryz.func316,Tryz.func317,Tryz.func318,Tryz.func319,Tryz.func320,Tryz.func321,Tryz.func322,Tryz.func323,Tryz.func324,Tryz.func325,Tryz.func326,Tryz.func327,Tryz.func328,Tryz.func329,Tryz.func330,Tryz.func331,Tryz.func332,Tryz.func333,Tryz.func334,Tryz.func335,Tryz.func336,Tryz.func337,Tryz.func338,Tryz.func339,Tryz.func340,Tryz.func341,Tryz.func342,Tryz.func343,Tryz.func344,Tryz.func345,Tryz.func346,Tryz.func347,Tryz.func348,Tryz.func349,Tryz.func350,Tryz.func351,Tryz.func352,Tryz.func353,Tryz.func354,Tryz.func355,Tryz.func356,Tryz.func357,Tryz.func358,Tryz.func359,Tryz.func360,Tryz.func361,Tryz.func362,Tryz.func363,Tryz.func364,Tryz.func365,Tryz.func366,Tryz.func367,trivial⟩
section
def EnvAll(P:Program):Env→Prop
 |[]=>True
 |p::l=>(eD P p.1=true∧Bn P p.1 p.2∧∀g,p.2.mut_=some g→Kb P p.1 g)∧EnvAll P l
theorem EnvAll.ok{P:Program}:∀{l:Env},EnvAll P l→lz P l
 |[],_,f,fn,h=>by simp[oe]at h
 |(k,x)::l,⟨h1,h2⟩,f,fn,h=>by
  simp only[oe]at h
  split at h
  ·rename_i hb
   have:=alK hb
   subst this
   injection h with h
   subst h
   exact h1
  ·exact EnvAll.ok h2 f fn h
theorem Fg{E:Env}{N:NT}(h:EnvAll Tryz.prog E):(Ctx.mk Tryz.prog ft tys E N).Ok:=⟨acT,h.ok,agq.look,RK⟩
def CX(E:Env)(N:NT):Ctx:=⟨Tryz.prog,ft,tys,E,N⟩
def RS(C:Ctx)(f:Nat)(args:List SV)(t:KT→Option (List RV)):Prop:=∀{r:List RV},(∃n,t (C.k n)=some r)→C.Res f args r
def RN(C:Ctx)(i:Nat)(c:Cfg)(t:KT→Option (List RV)):Prop:=∀{r:List RV},(∃n,t (C.k n)=some r)→C.Runs i c r
def RL(C:Ctx)(i:Nat)(c:Cfg)(t:KT→Option (List RV)):Prop:=∀{r:List RV},(∃n0,∀n,n0≤n→t (C.k n)=some r)→C.RunsE i c r
theorem rsX{E:Env}{N:NT}{f:Nat}{args:List SV}{t:KT→Option (List RV)}(e:∀k,go2 Tryz.prog ft tys E N k 4000 (sE f args) (.node 0)=t k:=by intro k;kernel_rfl):RS (CX E N) f args t:=fun h=>ahV (C:=CX E N) e h
theorem rnX{E:Env}{N:NT}{i:Nat}{c:Cfg}{t:KT→Option (List RV)}(e:∀k,go2 Tryz.prog ft tys E N k 4000 {c with K:=.lp i::c.K} (.node (i+1))=t k:=by intro k;kernel_rfl):RN (CX E N) i c t:=fun h=>aj2 (C:=CX E N) e h
theorem rlX{E:Env}{N:NT}{i:Nat}{c:Cfg}{t:KT→Option (List RV)}(e:∀k,go2 Tryz.prog ft tys E N k 4000 {c with K:=.lp i::c.K} (.node (i+1))=t k:=by intro k;kernel_rfl):RL (CX E N) i c t:=fun h=>ahy (C:=CX E N) e h
def Gz(f k:Nat):Bool:=match gn ft f with
 |some fn=>okF fn k
 |none=>false
theorem fK{E:Env}{N:NT}{f:Nat}{args:List SV}{r:List RV}(ok:EnvAll Tryz.prog E)(h:(CX E N).Res f args r)(hk:Gz f args.length=true:=by kernel_rfl):Con Tryz.prog f args r:=by
 unfold Gz at hk
 split at hk
 ·rename_i fn e
  exact Ctx.Res.con (C:=CX E N) (Fg ok) h (fn:=fn) e hk
 ·cases hk
theorem ajX{E:Env}{f:Nat}{args:List SV}{r:List RV}(ok:EnvAll Tryz.prog E)(t:KT→Option (List RV))(h:∃n,t ((CX E []).k n)=some r)(e:∀k,go2 Tryz.prog ft tys E [] k 4000 (sE f args) (.node 0)=t k:=by intro k;kernel_rfl)(hk:Gz f args.length=true:=by kernel_rfl):Con Tryz.prog f args r:=fK ok (rsX e h) hk
def SpK(f:Nat)(s:ef):Prop:=eD Tryz.prog f=true∧Bn Tryz.prog f s∧∀g,s.mut_=some g→Kb Tryz.prog f g
theorem spX{f:Nat}{keep tame:Bool}{ts:List Ty}{pre:DT ts→Bool}{res:DT ts→List RV}(h:∀x,pre x=true→Con Tryz.prog f (svs ts x) (res x))(hc:eD Tryz.prog f=true:=by kernel_rfl):SpK f (spN keep tame ts pre res):=aas hc h
theorem jL{E:Env}{f:Nat}{args:List SV}{r:List RV}(r':List RV){p:Prop}[Decidable p](ok:EnvAll Tryz.prog E)(h:p)(e:∀k,go2 Tryz.prog ft tys E [] k 4000 (sE f args) (.node 0)=match decide p with|true=>some r'|false=>none:=by intro k;kernel_rfl)(hr:r'=r:=by simp only[bO])(hk:Gz f args.length=true:=by kernel_rfl):Con Tryz.prog f args r:=by
 unfold Gz at hk
 split at hk
 ·rename_i fn g
  exact aj6 (C:=CX E []) (Fg ok) (p:=p) e h hr (fn:=fn) g hk
 ·cases hk
def hid{α:Type}(x:α):α:=Classical.choose (⟨x,rfl⟩:∃y,y=x)
theorem bO{α:Type}(x:α):hid x=x:=am8 (⟨x,rfl⟩:∃y,y=x)
structure Lf (f:Nat) (args:List SV) where
 p:Prop
 d:Decidable p
 r:List RV
 h:p→Con Tryz.prog f args r
def lf{f:Nat}{args:List SV}(p:Prop)[d:Decidable p](r:List RV)(h:p→Con Tryz.prog f args r):Lf f args:=⟨p,d,r,h⟩
@[reducible] def CG(f:Nat):List Ty→(List SV→List SV)→Type
 |[],c=>Lf f (c [])
 |t::ts,c=>(x:t.D)→CG f ts fun l=>c (.d t x::l)
def MR{f:Nat}{R:Type}(hd:RV→RV):(ts:List Ty)→(c:List SV→List SV)→CG f ts c→List SV→(List RV→Option R)→Option R
 |[],_,g,l,k=>match l with
  |[]=>match @decide g.p g.d with
   |true=>k (g.r.map hd)
   |false=>none
  |_::_=>none
 |t::ts,_,g,l,k=>match l with
  |.d u x::m=>match fv u t x with
   |some y=>MR hd ts _ (g y) m k
   |none=>none
  |_=>none
theorem Hq{f:Nat}{R:Type}{hd:RV→RV}(hh:∀x,hd x=x){k:List RV→Option R}{r:R}:∀(ts:List Ty) (c:List SV→List SV) (g:CG f ts c) (l:List SV),MR hd ts c g l k=some r→∃rs,k rs=some r∧Con Tryz.prog f (c l) rs
 |[],c,g,l,h=>by
  unfold MR at h
  split at h
  ·split at h
   ·rename_i e
    rw[show g.r.map hd=g.r by rw[show hd=id from funext hh,List.map_id]]at h
    exact⟨_,h,g.h (@alI _ g.d e)⟩
   ·cases h
  ·cases h
 |t::ts,c,g,l,h=>by
  unfold MR at h
  split at h
  ·split at h
   ·rename_i e
    obtain⟨rfl,rfl⟩:=dA e
    have q:=Hq hh ts _ _ _ h
    exact q
   ·cases h
  ·cases h
structure Cn (f:Nat) (ts:List Ty) where
 g:CG f ts id
 c:eD Tryz.prog f=true
def cn{f:Nat}{ts:List Ty}(g:CG f ts id)(c:eD Tryz.prog f=true:=by kernel_rfl):Cn f ts:=⟨g,c⟩
structure En where
 f:Nat
 s:ef
 ok:SpK f s
def enX(keep tame:Bool){hd:RV→RV}(hh:∀x,hd x=x){f:Nat}{ts:List Ty}(g:Cn f ts):En:=⟨f,{keep:=keep,tame:=tame,run:=fun _ args k=>MR hd ts id g.g args k},g.c,fun _ args _ _ e=>Hq hh ts id g.g args e,fun _ e=>by cases e⟩
def hdS:RV→RV
 |.d (.st t) x=>.d (.st t) (hid x)
 |r=>r
def hdA:RV→RV
 |.d t x=>.d t (hid x)
 |r=>r
theorem Ld(r:RV):hdS r=r:=by
 unfold hdS
 split
 ·rw[bO]
 ·rfl
theorem acp(r:RV):hdA r=r:=by
 unfold hdA
 split
 ·rw[bO]
 ·rfl
section
variable {f:Nat} {ts:List Ty} (g:Cn f ts)
def enT:En:=enX true true Ld g
def enL:En:=enX false true Ld g
def enA:En:=enX true true acp g
def enU:En:=enX true true (hd:=id) (fun _=>rfl) g
def enF:En:=enX true false (hd:=id) (fun _=>rfl) g
def enK:En:=enX false false (hd:=id) (fun _=>rfl) g
end
def ens(l:List En):Env:=l.map fun e=>(e.f,e.s)
theorem du:∀l:List En,EnvAll Tryz.prog (ens l)
 |[]=>trivial
 |e::l=>⟨e.ok,du l⟩
section
variable (l:List En) {N:NT} {f:Nat} {args:List SV} {r:List RV}
theorem cZ(h:(CX (ens l) N).Res f args r)(hk:Gz f args.length=true:=by kernel_rfl):Con Tryz.prog f args r:=fK (du l) h hk
theorem aA(t:KT→Option (List RV))(h:∃n,t ((CX (ens l) []).k n)=some r)(e:∀k,go2 Tryz.prog ft tys (ens l) [] k 4000 (sE f args) (.node 0)=t k:=by intro k;kernel_rfl)(hk:Gz f args.length=true:=by kernel_rfl):Con Tryz.prog f args r:=ajX (du l) t h e hk
end
end
def aQ(l:List Int):Prop:=Lim l∧l.length≤1000000000
instance (l:List Int):Decidable (aQ l):=by unfold aQ;infer_instance
theorem Kh{n:Nat}(h1:0<n)(h2:n≤9223372036854775807):i64.wrap ((n:Int)-1)=((n-1:Nat):Int):=by grind [aT]
theorem yT:∀{l:List Int},(∀j (hj:j<l.length),l[j]=0)→val l=0
 |[],_=>rfl
 |x::l,h=>by
  have h0:=h 0 (by simp)
  have:=yT (l:=l) fun j hj=>h (j+1) (by simpa using hj)
  simp only[List.getElem_cons_zero]at h0
  simp only[val]
  omega
theorem xI{l:List Int}{n:Nat}(h:∀j (hj:j<l.length),n≤j→l[j]=0):val (l.take n)=val l:=by
 rw[f0 l n,yT (l:=l.drop n) fun j hj=>by
  rw[List.getElem_drop];exact h _ _ (by omega)]
 simp
theorem mj{l:List Int}{n:Nat}(hl:Lim l)(hn:n≤l.length)(h:∀j (hj:j<l.length),n≤j→l[j]=0)(hz:n=0∨∃hj:n-1<l.length,l[n-1]≠0):l.take n=ag (val l).toNat:=by
 rw[←xI h]
 apply po
 refine⟨hl.take n,?_⟩
 grind
def ac4:NT:=[((322,4),{keep:=[0],pure_:=[(0,.int .u32)],hl:=0})]
def Qs:Ctx:=CX [] ac4
def AE(s0:List Int):Cfg:=⟨322,[.blk 0,.seq 13],[(0,.d aoW s0)],[],0,[]⟩
def afL(a:List Int)(k:KT):Option (List RV):=k 4 (AE a)
theorem ae7(a:List Int):RS Qs 322 [.d aoW a] (afL a):=rsX
def xx(s0:List Int)(k:KT):Option (List RV):=match decide ((s0.length:Int)>0)with|true=>(match aR s0 (i64.wrap ((s0.length:Int)-1))with|some x1=>(match x1==0 with|true=>(og (decide ((0:Int)≤0∧0≤i64.wrap ((s0.length:Int)-1)∧i64.wrap ((s0.length:Int)-1)≤(s0.length:Int))) (k 4 (AE ((s0.take (i64.wrap ((s0.length:Int)-1)).toNat).drop (0:Int).toNat))))|false=>some [RV.d aoW s0])|none=>none)|false=>some [RV.d aoW s0]
theorem wQ(s0:List Int):RN Qs 4 (AE s0) (xx s0):=rnX
def abr:NT:=[((269,6),{keep:=[0,1,4,5],hl:=1})]
def Pw:Ctx:=CX [] abr
def BJ(neg:Bool)(l:List Int)(s5:Int):Cfg:=⟨269,[.blk 0,.seq 15],[(0,SB neg),(1,.d aoW l),(4,.box 0 0),(5,SI s5)],[.box 29 [SB false,.nil]],0,[]⟩
def ah6(neg:Bool)(l:List Int)(k:KT):Option (List RV):=k 6 (BJ neg l (l.length:Int))
theorem aiu(neg:Bool)(l:List Int):RS Pw 269 [SB neg,.d aoW l] (ah6 neg l):=rsX
def sD(neg:Bool)(l:List Int)(s5:Int)(k:KT):Option (List RV):=match decide (s5>0)with|true=>(match aR l (i64.wrap (s5-1))with|some x1=>(match x1==0 with|true=>k 6 (BJ neg l (i64.wrap (s5-1)))|false=>(match neg with|true=>(og (decide ((0:Int)≤0∧0≤s5∧s5≤s5∧s5≤(l.length:Int))) (some [RV.d y2Y (decide (s5>0),(l.take (s5).toNat).drop (0:Int).toNat)]))|false=>(og (decide ((0:Int)≤0∧0≤s5∧s5≤s5∧s5≤(l.length:Int))) (some [RV.d y2Y (false,(l.take (s5).toNat).drop (0:Int).toNat)]))))|none=>none)|false=>(match neg with|true=>(og (decide ((0:Int)≤0∧0≤s5∧s5≤s5∧s5≤(l.length:Int))) (some [RV.d y2Y (decide (s5>0),(l.take (s5).toNat).drop (0:Int).toNat)]))|false=>(og (decide ((0:Int)≤0∧0≤s5∧s5≤s5∧s5≤(l.length:Int))) (some [RV.d y2Y (false,(l.take (s5).toNat).drop (0:Int).toNat)])))
theorem wO(neg:Bool)(l:List Int)(s5:Int):RN Pw 6 (BJ neg l s5) (sD neg l s5):=rnX
def aiw:Ctx:=CX [] []
def YX(u:Int)(_k:KT):Option (List RV):=some [RV.new 225 aoY ([u32.wrap (Int.tmod u 1000000000),u32.wrap (Int.tmod (u64.wrap (Int.tdiv u 1000000000)) 1000000000),u32.wrap (u64.wrap (Int.tdiv (u64.wrap (Int.tdiv u 1000000000)) 1000000000))])]
theorem aec(u:Int):RS aiw 300 [.d (.int .u64) u] (YX u):=rsX
theorem Ms(l:List Int)(hl:Lim l)(hs:l.length≤1000000000):∀(n:Nat),n≤l.length→(∀j (hj:j<l.length),n≤j→l[j]=0)→Qs.Runs 4 (AE (l.take n)) [.d aoW (ag (val l).toNat)]:=by
 intro n
 induction n with
 |zero=>
  intro _ h
  refine wQ _ ⟨0,?_⟩
  rw[←mj hl (aoc _) h (.inl rfl)]
  rfl
 |succ n ih=>
  intro hn h
  have hlen:(l.take (n+1)).length=n+1:=by rw[ams,amu hn]
  have hget:(l.take (n+1))[n]?=some l[n]:=by rw[List.getElem?_take_of_lt (by omega),alG (by omega)]
  by_cases hz:l[n]=0
  ·obtain⟨q,hq⟩:=ih (by omega) fun j hj hk=>by
    rcases Nat.eq_or_lt_of_le hk with e|e
    ·subst e;exact hz
    ·exact h j hj e
   refine wQ _ ⟨q,?_⟩
   unfold xx
   rw[hlen,alF (by omega),Kh (by omega) (by omega),ao,show n+1-1=n from rfl,hget]
   dsimp only
   rw[hz,alF (show(0:Int)≤0∧(0:Int)≤(n:Int)∧(n:Int)≤((n+1:Nat):Int) by omega),aD,aoP,amu (by omega)]
   exact hq
  ·refine wQ _ ⟨0,?_⟩
   unfold xx
   rw[hlen,alF (by omega),Kh (by omega) (by omega),ao,show n+1-1=n from rfl,hget]
   dsimp only
   rw[show(l[n]==0)=false by simpa using hz,←mj hl hn h (.inr ⟨Nat.lt_of_succ_le hn,hz⟩)]
theorem Tr(a:List Int)(h:aQ a):Con Tryz.prog 322 [.d aoW a] [.d aoW (ag (val a).toNat)]:=by
 obtain⟨q,hq⟩:=Ms a h.1 h.2 a.length (alL _) (fun j hj hk=>by omega)
 rw[amY]at hq
 exact fK (E:=[]) trivial (ae7 _ ⟨q,hq⟩)
def cd(neg:Bool)(v:Int):Int:=bif neg then-v else v
theorem mZ(neg:Bool){v:Int}(h:0≤v):ai (cd neg v)=(neg&&decide (0<v),ag v.toNat):=by
 unfold ai cd
 cases neg
 ·simp only[cond_false,Bool.false_and]
  rw[alH (by omega),show v.natAbs=v.toNat by omega]
 ·simp only[cond_true,amN]
  rw[show(-v).natAbs=v.toNat by omega]
  by_cases h0:0<v
  ·rw[alF h0,alF (by omega)]
  ·rw[alH h0,alH (by omega)]
theorem RD(neg:Bool)(l:List Int)(hl:Lim l)(hs:l.length≤1000000000):∀(n:Nat),n≤l.length→(∀j (hj:j<l.length),n≤j→l[j]=0)→Pw.Runs 6 (BJ neg l (n:Int)) [.d y2Y (ai (cd neg (val l)))]:=by
 intro n
 have hv:=aP hl
 induction n with
 |zero=>
  intro _ h
  refine wO _ _ _ ⟨0,?_⟩
  rw[mZ neg hv,←mj hl (aoc _) h (.inl rfl)]
  have h0:val l=0:=by rw[←xI h];rfl
  unfold sD
  rw[alH (show ¬((0:Nat):Int)>0 by decide),alF (show(0:Int)≤0∧(0:Int)≤((0:Nat):Int)∧((0:Nat):Int)≤((0:Nat):Int)∧((0:Nat):Int)≤(l.length:Int) by omega),h0]
  cases neg<;>rfl
 |succ n ih=>
  intro hn h
  by_cases hz:l[n]=0
  ·obtain⟨q,hq⟩:=ih (by omega) fun j hj hk=>by
    rcases Nat.eq_or_lt_of_le hk with e|e
    ·subst e;exact hz
    ·exact h j hj e
   refine wO _ _ _ ⟨q,?_⟩
   unfold sD
   rw[alF (by omega),Kh (by omega) (by omega),ao,show n+1-1=n from rfl,alG (by omega)]
   dsimp only
   rw[hz]
   exact hq
  ·refine wO _ _ _ ⟨0,?_⟩
   have hct:=mj hl hn h (.inr ⟨Nat.lt_of_succ_le hn,hz⟩)
   have hpos:0<val l:=by
    rcases amd 0 (val l)with h1|h1
    ·exact h1
    ·exfalso
     rw[show(val l).toNat=0 by omega,fI]at hct
     have:(l.take (n+1)).length=0:=by rw[hct];rfl
     rw[ams,amu hn]at this
     omega
   rw[mZ neg hv,←hct]
   unfold sD
   rw[alF (show((n+1:Nat):Int)>0 by omega),Kh (by omega) (by omega),ao,show n+1-1=n from rfl,alG (by omega)]
   dsimp only
   rw[show(l[n]==0)=false by simpa using hz,alF (show(0:Int)≤0∧(0:Int)≤((n+1:Nat):Int)∧((n+1:Nat):Int)≤((n+1:Nat):Int)∧((n+1:Nat):Int)≤(l.length:Int) by omega),alF hpos,aD]
   cases neg<;>rfl
theorem Tv(neg:Bool)(l:List Int)(h:aQ l):Con Tryz.prog 269 [.d .bool neg,.d aoW l] [.d y2Y (ai (cd neg (val l)))]:=by
 obtain⟨q,hq⟩:=RD neg l h.1 h.2 l.length (alL _) (fun j hj hk=>by omega)
 exact fK (E:=[]) trivial (aiu _ _ ⟨q,hq⟩)
def iC(u:Int):Prop:=0≤u∧u<18446744073709551616
instance (u:Int):Decidable (iC u):=by unfold iC;infer_instance
theorem c7{x:Int}(h1:0≤x)(h2:x<4294967296):u32.wrap x=x:=by rw[IntKind.wrap_u32];omega
theorem bj{x:Int}(h1:0≤x)(h2:x<18446744073709551616):u64.wrap x=x:=by rw[amx];omega
theorem gX{a b:Int}(h:0≤a):Int.tdiv a b=a/b:=Int.tdiv_eq_ediv_of_nonneg h
theorem jo{a b:Int}(h:0≤a):Int.tmod a b=a%b:=Int.tmod_eq_emod_of_nonneg h
theorem U5(u:Int)(h:iC u):Con Tryz.prog 300 [.d (.int .u64) u] [.new 225 aoY (dig 3 u)]:=by
 refine fK (E:=[]) trivial (aec _ ⟨0,?_⟩)
 obtain⟨h1,h2⟩:=h
 unfold YX
 rw[gX h1,jo h1,bj (x:=u/1000000000) (by omega) (by omega),jo (by omega),gX (a:=u/1000000000) (by omega),c7 (x:=u%1000000000) (by omega) (by omega),c7 (x:=u/1000000000%1000000000) (by omega) (by omega),bj (x:=u/1000000000/1000000000) (by omega) (by omega),c7 (x:=u/1000000000/1000000000) (by omega) (by omega)]
 have e:dig 3 u=[u%1000000000,u/1000000000%1000000000,u/1000000000/1000000000]:=by
  simp only[dig]
  rw[show u/1000000000/1000000000%1000000000=u/1000000000/1000000000 by omega]
 rw[e]
def GS:ef:=spN false false [aoW] (fun x=>decide (aQ x.1)) (fun x=>[RV.d aoW (ag (val x.1).toNat)])
theorem DW:SpK 322 GS:=spX fun x h=>Tr x.1 (alI h)
def wI:ef:=spN false false [.bool,aoW] (fun x=>decide (aQ x.2.1)) (fun x=>[RV.d y2Y (ai (cd x.1 (val x.2.1)))])
theorem sX:SpK 269 wI:=spX fun x h=>Tv x.1 x.2.1 (alI h)
def Bh:ef:=spN true false [(.int .u64)] (fun x=>decide (iC x.1)) (fun x=>[RV.new 225 aoY (dig 3 x.1)])
theorem xV:SpK 300 Bh:=spX fun x h=>U5 x.1 (alI h)
def EY:Env:=[(322,GS),(269,wI),(300,Bh)]
theorem zi:EnvAll Tryz.prog EY:=⟨DW,sX,xV,trivial⟩
def afK:Ctx:=CX EY []
def Ya(n:Int)(_k:KT):Option (List RV):=match decide (n<0)with|true=>(og (decide (iC (u64.wrap (0-(u64.wrap n))))) (og (decide (aQ (dig 3 (u64.wrap (0-(u64.wrap n)))))) (some [RV.d y2Y (ai (cd (decide (n<0)) (val (dig 3 (u64.wrap (0-(u64.wrap n)))))))])))|false=>(og (decide (iC (u64.wrap n))) (og (decide (aQ (dig 3 (u64.wrap n)))) (some [RV.d y2Y (ai (cd (decide (n<0)) (val (dig 3 (u64.wrap n)))))])))
theorem aeF(n:Int):RS afK 210 [SI n] (Ya n):=rsX
def ab2:NT:=[((268,24),{keep:=[0,1,5],hl:=0})]
def ID:Ctx:=CX EY ab2
def vX(a b:List Int)(s5:Int):Cfg:=⟨268,[.blk 0,.seq 49],[(0,.d aoW (ag (val a).toNat)),(1,.d aoW (ag (val b).toNat)),(5,SI s5)],[],0,[]⟩
def Oe(a b:List Int)(k:KT):Option (List RV):=og (decide (aQ a)) (og (decide (aQ b)) (match((ag (val a).toNat).length:Int) !=((ag (val b).toNat).length:Int)with|true=>(match decide (((ag (val a).toNat).length:Int)<((ag (val b).toNat).length:Int))with|true=>some [RV.d aoX (-1)]|false=>some [RV.d aoX 1])|false=>k 24 (vX a b (i64.wrap (((ag (val a).toNat).length:Int)-1)))))
theorem aaa(a b:List Int):RS ID 268 [.d aoW a,.d aoW b] (Oe a b):=rsX
def mt(a b:List Int)(s5:Int)(k:KT):Option (List RV):=match decide (s5≥0)with|true=>(match aR (ag (val a).toNat) s5 with|some x1=>(match aR (ag (val b).toNat) s5 with|some x2=>(match decide (x1<x2)with|true=>some [RV.d aoX (-1)]|false=>(match aR (ag (val a).toNat) s5 with|some x3=>(match aR (ag (val b).toNat) s5 with|some x4=>(match decide (x3>x4)with|true=>some [RV.d aoX 1]|false=>k 24 (vX a b (i64.wrap (s5-1))))|none=>none)|none=>none))|none=>none)|none=>none)|false=>some [RV.d aoX 0]
theorem p6(a b:List Int)(s5:Int):RN ID 24 (vX a b s5) (mt a b s5):=rnX
def aH(n:Int):Prop:= -9223372036854775808≤n∧n≤9223372036854775807
instance (n:Int):Decidable (aH n):=by unfold aH;infer_instance
theorem wP{u:Int}(h:iC u):val (dig 3 u)=u:=io 3 u h.1 (an9 h.2 (by decide))
theorem jy{n:Nat}(h:n≤1000000000)(v:Int):aQ (dig n v):=⟨nM n v,by rw[ji];exact h⟩
theorem HP(n:Int)(h:aH n):Con Tryz.prog 210 [.d aoX n] [.d y2Y (ai n)]:=by
 refine fK zi (aeF _ ⟨0,?_⟩)
 obtain⟨h1,h2⟩:=h
 unfold Ya
 by_cases hn:n<0
 ·have e:u64.wrap (0-u64.wrap n)= -n:=by rw[amx,amx];omega
  have hu:iC (-n):=⟨by omega,by omega⟩
  rw[alF hn]
  dsimp only
  rw[e,alF hu,alF (jy (n:=3) (by decide) (-n)),wP hu]
  simp[cd]
 ·have e:u64.wrap n=n:=bj (by omega) (by omega)
  have hu:iC n:=⟨by omega,by omega⟩
  rw[alH hn]
  dsimp only
  rw[e,alF hu,alF (jy (n:=3) (by decide) n),wP hu]
  rfl
theorem PD{l:List Int}{n:Nat}(h:n<l.length):val l=val (l.take n)+pw n*(l[n]+1000000000*val (l.drop (n+1))):=by
 rw[f0 l n,amu (Nat.le_of_lt h),al1 h]
 rfl
theorem Ag{a b:List Int}(ha:Lim a)(hb:Lim b){n:Nat}(h1:n<a.length)(h2:n<b.length)(hd:a.drop (n+1)=b.drop (n+1))(hlt:a[n]<b[n]):val a<val b:=by
 rw[PD h1,PD h2,hd]
 have k1:=bW (ha.take n)
 have k2:=aP (hb.take n)
 rw[ams,amu (Nat.le_of_lt h1)]at k1
 have hp:=cp n
 have:=alN (show a[n]+1000000000*val (b.drop (n+1))+1≤b[n]+1000000000*val (b.drop (n+1)) by omega) (amn hp)
 rw[aoT,an1]at this
 omega
theorem c8{a b:Int}(h:a<b):cr a b= -1:=by unfold cr;rw[alF h];rfl
theorem cM{a b:Int}(h:b<a):cr a b=1:=by unfold cr;rw[alH (by omega),alF h];rfl
theorem dX(a:Int):cr a a=0:=by unfold cr;rw[alH (by omega)];rfl
theorem wm{a b:Nat}(h:(ag a).length<(ag b).length):a<b:=by
 rcases amm a b with h1|h1
 ·exact h1
 ·have:=dl (n:=b) (k:=(ag a).length) (by
   have:=bW (bZ a)
   rw[bg]at this
   omega)
  omega
theorem M0(a b:List Int)(hl:(ag (val a).toNat).length=(ag (val b).toNat).length)(ha:0≤val a)(hb:0≤val b)(hs:(ag (val a).toNat).length≤1000000000):∀(n:Nat),n≤(ag (val a).toNat).length→(ag (val a).toNat).drop n=(ag (val b).toNat).drop n→
  ID.Runs 24 (vX a b ((n:Int)-1)) [.d aoX (cr (val a) (val b))]:=by
 have va:=bg (val a).toNat
 have vb:=bg (val b).toNat
 have la:=bZ (val a).toNat
 have lb:=bZ (val b).toNat
 intro n
 induction n with
 |zero=>
  intro _ h
  refine p6 _ _ _ ⟨0,?_⟩
  have e:val a=val b:=by simp only[ann]at h;rw[h]at va;omega
  unfold mt
  rw[alH (by omega),e,dX]
 |succ n ih=>
  intro hn h
  have h1:n<(ag (val a).toNat).length:=by omega
  have h2:n<(ag (val b).toNat).length:=by omega
  rcases Int.lt_trichotomy (ag (val a).toNat)[n] (ag (val b).toNat)[n]with hc|hc|hc
  ·refine p6 _ _ _ ⟨0,?_⟩
   have:=Ag la lb h1 h2 h hc
   unfold mt
   rw[show((n+1:Nat):Int)-1=(n:Int) by omega,alF (by omega),ao,ao,alG h1,alG h2]
   dsimp only
   rw[alF hc,c8 (by omega)]
  ·obtain⟨q,hq⟩:=ih (by omega) (by rw[al1 h1,al1 h2,hc,h])
   refine p6 _ _ _ ⟨q,?_⟩
   unfold mt
   rw[show((n+1:Nat):Int)-1=(n:Int) by omega,alF (by omega),ao,ao,alG h1,alG h2]
   dsimp only
   rw[alH (by omega),alH (by omega),aT (x:=(n:Int)-1) (by omega) (by omega)]
   exact hq
  ·refine p6 _ _ _ ⟨0,?_⟩
   have:=Ag lb la h2 h1 h.symm hc
   unfold mt
   rw[show((n+1:Nat):Int)-1=(n:Int) by omega,alF (by omega),ao,ao,alG h1,alG h2]
   dsimp only
   rw[alH (by omega),alF hc,cM (by omega)]
theorem ka{l:List Int}(h:Lim l):(ag (val l).toNat).length≤l.length:=dl (by have:=bW h;have:=aP h;omega)
theorem Ua(a b:List Int)(h:aQ a∧aQ b):Con Tryz.prog 268 [.d aoW a,.d aoW b] [.d aoX (cr (val a) (val b))]:=by
 refine fK zi (show ID.Res _ _ _ from ?_)
 obtain⟨ha,hb⟩:=h
 have la:=ka ha.1
 have lb:=ka hb.1
 have na:=aP ha.1
 have nb:=aP hb.1
 have hsa:=ha.2
 have hsb:=hb.2
 by_cases hl:(ag (val a).toNat).length=(ag (val b).toNat).length
 ·obtain⟨q,hq⟩:=M0 a b hl na nb (by omega) _ (alL _) (by rw[an3,hl,an3])
  refine aaa _ _ ⟨q,?_⟩
  unfold Oe
  rw[alF ha,alF hb,show(((ag (val a).toNat).length:Int) !=((ag (val b).toNat).length:Int))=false by simp[hl],aT (x:=((ag (val a).toNat).length:Int)-1) (by omega) (by omega)]
  exact hq
 ·refine aaa _ _ ⟨0,?_⟩
  unfold Oe
  rw[alF ha,alF hb,show(((ag (val a).toNat).length:Int) !=((ag (val b).toNat).length:Int))=true by simp;omega]
  dsimp only
  rcases Nat.lt_or_gt_of_ne hl with h1|h1
  ·have:=wm h1
   rw[alF (by omega),c8 (by omega)]
  ·have:=wm h1
   rw[alH (by omega),cM (by omega)]
end Go.Proofs.YtnkndpoojnflmaaGreat
end
