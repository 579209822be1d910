/- The pure machine is sound: the induction. -/
import Derived.Test.YtpiabmjipgfjjaaDoorPuS
namespace Go.Proofs.YtpiabmjipgfjjaaDoor
open Go.RowKit
theorem at_draw2 {P : Program} {fn : Func} {R : Ending → World → Prop} {B : Code} {K : List KI} {i : Nat} {a : Act} {w : World} (st : Option Nat) (S : World → Prop) {id : Nat} (hm : P.follows .mixedOrders = true) (hc : nth B i = .region id (opsAt (nth B i)) true) (h : AtG P fn R B K i st S (opsAt (nth B i)).size [] a w.drew) : At P fn R B K i a w := by
  unfold At; rw [hc]
  refine wp_region_any hm (any_of_G (st := st) (S0 := S) _ _ _ _ ?_)
  simpa [AtG, mkL, opsAt] using h
section
variable {Z : Nat → Prop} {w0 : World} {F : FT} {P : Program} {T : TT} {E : Env} {N : NT} {Fin : Nat → Cfg → Option (List RV)} {Rt : Ending → World → Prop} {r : List RV}
set_option maxHeartbeats 2000000 in
theorem go_sound (hT : chkAll P T = true) (hE : EnvOk P E) (hI : inv w0) (hF : ∀ f fn, lookF F f = some fn → P.funcs[f]? = some fn) (hm : P.follows .mixedOrders = true)
    (hRt : ∀ vs H G w ss tys, outR T H ss tys = some r → SR Z w0 H G w → all2 (Rel G (Av Z H G) w) ss vs → Rt (.returned (bundle vs)) w)
    (hFin : ∀ i c G w a ats fn, Fin i c = some r → CR Z F w0 c G w a ats → lookF F c.f = some fn → InLoop P (nth (bodyF F c.f) (i + 1)) (cont P fn (RetR P F Rt c.fs ats) (bodyF F c.f) (toKI P fn (RetR P F Rt c.fs ats) (bodyF F c.f) c.K)) a w) :
    ∀ (m : Nat) (c : Cfg) (p : Pos), go P F T E N Fin m c p = some r → ∀ G w a ats fn, CR Z F w0 c G w a ats → lookF F c.f = some fn → PosOk P F Rt c fn G w a ats p := by
  have headOk : ∀ i c, head N Fin i c = some r → ∀ G w a ats fn, CR Z F w0 c G w a ats → lookF F c.f = some fn → InLoop P (nth (bodyF F c.f) (i + 1)) (cont P fn (RetR P F Rt c.fs ats) (bodyF F c.f) (toKI P fn (RetR P F Rt c.fs ats) (bodyF F c.f) c.K)) a w := by
    intro i c h G w a ats fn hc hfn
    unfold head at h
    split at h
    · split at h <;> try (cases h; done)
      rename_i c' hn
      obtain ⟨G', k1, k2, k3, k4⟩ := norm_ok hn hc
      have := hFin i c' G' w a ats fn h k1 (by rw [k2]; exact hfn)
      rw [k2, k3, k4] at this
      exact this
    · exact hFin i c G w a ats fn h hc hfn
  intro m
  induction m with
  | zero => intro c p h; simp [go] at h
  | succ m ih =>
    intro c p h G w a ats fn hc hfn
    simp only [go] at h
    split at h
    · -- nrm
      split at h
      · rename_i hK
        have := ih _ _ h G w a ats fn hc hfn
        simp only [PosOk] at this ⊢
        rw [hK]
        exact this
      · rename_i j K hK
        have := ih _ _ h G w a ats fn ⟨hc.sr, hc.fr, hc.fl, hc.frs⟩ hfn
        simp only [PosOk] at this ⊢
        rw [hK]
        exact this
      · rename_i id K hK
        have := ih _ _ h G w a ats fn ⟨hc.sr, hc.fr, hc.fl, hc.frs⟩ hfn
        simp only [PosOk] at this ⊢
        rw [hK]
        exact this
      · rename_i i K hK
        have := headOk i { c with K := K } h G w a ats fn ⟨hc.sr, hc.fr, hc.fl, hc.frs⟩ hfn
        simp only [PosOk]
        rw [hK]
        exact this
    · -- node
      rename_i i
      simp only [PosOk]
      split at h
      · rename_i hn
        exact at_skip hn (ih _ _ h G w a ats fn hc hfn)
      · rename_i x y hn
        have := ih _ _ h G w a ats fn ⟨hc.sr, hc.fr, hc.fl, hc.frs⟩ hfn
        exact at_seq (kid_seq hn) this
      · rename_i id x hn
        have := ih _ _ h G w a ats fn ⟨hc.sr, hc.fr, hc.fl, hc.frs⟩ hfn
        exact at_block (kid_block hn) this
      · rename_i id hn
        split at h <;> try (cases h; done)
        rename_i K hK
        have := ih _ _ h G w a ats fn ⟨hc.sr, hc.fr, hc.fl, hc.frs⟩ hfn
        exact at_exit hn (wayE_ok (wayJ_ok hK) this)
      · rename_i hn
        exact at_ret hn (ih _ _ h G w a ats fn hc hfn)
      · rename_i x p q hn
        split at h <;> try (cases h; done)
        rename_i b hb
        have hv := rel_bool (opS_rel hc.fr hb)
        unfold At
        rw [kid_cond hn]
        split at h
        · exact wp_cond_true hv (ih _ _ h G w a ats fn hc hfn)
        · exact wp_cond_false hv (ih _ _ h G w a ats fn hc hfn)
      · rename_i x hn
        unfold At
        rw [kid_loop hn]
        exact (headOk i c h G w a ats fn hc hfn).wp
      · rename_i id ops hn
        have := ih _ _ h G w a ats fn hc hfn
        exact at_region (id := id) (by rw [hn]; rfl) this
      · rename_i id ops hn
        split at h <;> try (cases h; done)
        rename_i st hns hsa
        have hops : opsAt (nth (bodyF F c.f) i) = ops := by rw [hn]; rfl
        have hb : Below w.heap.size w w.drew := (Below.refl _ _).drew
        have hsg := step_grow hc.sr hb
        have hev : Ev Z c.fl c.H G w c.H G w.drew := fun s v hs _ => rel_new hc.sr hsg hs
        have hcr : CR Z F w0 c G w.drew a ats := ⟨sr_grow hc.sr hb, hc.fr.keep fun s v hs => rel_new hc.sr hsg hs, hc.fl, hc.frs.ev hev (Nat.le_refl _)⟩
        refine at_draw2 st (Agr (!(ops.any fun o => isApp o.op)) c.H G w.drew) hm (id := id) (by rw [hn]; rfl) ?_
        exact ih _ _ h G w.drew a ats fn hcr hfn st c.H G w.drew (by rw [hops]; exact hsa) (.inr ⟨Agr.refl, fun _ _ hx => hx, fun _ => ⟨rfl, rfl, rfl⟩, fun s hs => by rw [hops]; exact mkL_nil (storeAt_lt hsa s hs)⟩) (by rw [hops]; exact hns) _ (by simp)
      · cases h
    · -- ops
      rename_i i k
      simp only [PosOk]
      split at h
      · rename_i hk
        exact atR_nil hk (ih _ _ h G w a ats fn hc hfn)
      · rename_i o hk
        rcases guarded_ok hc.fr h with ⟨L1, h1, hf1, hw⟩ | ⟨L1, h1, hf1, hw⟩
        · refine atR_yes hk hw ?_
          split at h1
          · obtain ⟨s, v, h2, h3, h4⟩ := qop_sound hT hc.sr hf1 h1
            split at h2 <;> try (cases h2; done)
            rename_i L2 hp
            rw [h4 w (fun _ => Agr.refl)]
            exact ih _ _ h2 G w (a.put o.dst v) ats fn ⟨hc.sr, hf1.put hp h3, hc.fl, hc.frs⟩ hfn
          · split at h1
            · rename_i g ss hin
              obtain ⟨f, args, tys, fg, caps, e1, e2, e3, e4, e5, e6, e7⟩ := into_ok hf1 hin
              have hcl : callable P g = true := by unfold callable; rw [hF g fg e2]; simp only [e6, e7, Bool.and_self]
              rw [run_call hcl a.eval o f args tys caps e1 e3 w]
              obtain ⟨B, hB⟩ := Option.isSome_iff_exists.1 e7
              have hbf : bodyF F g = B := by simp [bodyF, e2, hB]
              have hcal : Calls P g (args.map a.eval ++ caps) w (RetR P F Rt ({ f := c.f, K := c.K, i := i, k := k, L := L1, fl := c.fl } :: c.fs) (a :: ats)) := by
                have hto : args.map a.eval ++ caps = (args.map a.eval ++ caps).toList.toArray := by simp
                rw [hto]
                refine enter (hF g fg e2) hB (Nat.ble_eq_true_of_le (by rw [← all2_len e4]; exact e5)) fun a2 hst => ?_
                have := ih _ _ h1 G w a2 (a :: ats) fg ⟨hc.sr, ⟨hst.defers, by rw [hst.size]; simp [ntm, e2], argsL_rel e4 hst.slot⟩, Nat.le_refl _, ⟨hf1, fun t s hs => by obtain ⟨v, _, hv⟩ := hf1.slot t s hs; exact rel_refsT hc.sr hv, ⟨hc.fl, fn, hfn⟩, hc.frs⟩⟩ e2
                simp only [PosOk, toKI] at this
                rw [hbf] at this
                exact this
              refine Calls.mono hcal ?_
              rintro e w' ⟨v, rfl, fn', o', q1, q2, q3⟩
              simp only at q1 q2 q3
              rw [hfn] at q1
              injection q1 with q1
              subst q1
              rw [hk] at q2
              injection q2 with q2
              subst q2
              exact q3
            · refine eop_sound hT hE hI hc.sr hf1 h1 fun s H' L2 G' w' v h2 h3 h4 h5 h6 => ?_
              split at h2 <;> try (cases h2; done)
              rename_i L3 hp
              exact ih _ _ h2 G' w' (a.put o.dst v) ats fn ⟨h3, h4.put hp h5, Nat.le_trans hc.fl h6.len, hc.frs.ev h6.ev (Nat.le_refl _)⟩ hfn
        · refine atR_no hk hw ?_
          split at h1 <;> try (cases h1; done)
          rename_i L2 hp
          exact ih _ _ h1 G w (a.put o.dst undef) ats fn ⟨hc.sr, hf1.put hp rfl, hc.fl, hc.frs⟩ hfn
    · -- drw
      rename_i i rw eff D
      simp only [PosOk]
      intro st Hs Gs ws hsa hinv hns m' hm'
      split at h
      · rename_i hrd
        exact wpG_done hrd (ih _ _ h G w a ats fn hc hfn) _
      · rename_i rs hrd
        split at h <;> try (cases h; done)
        rename_i hlen
        have hlen := Nat.le_of_ble_eq_true hlen
        obtain ⟨m'', rfl⟩ : ∃ m'', m' = m'' + 1 := ⟨m' - 1, by omega⟩
        obtain ⟨hagr, hrows, heff, hun⟩ := hinv.resolve_left (by omega)
        split at h
        · rename_i j hj
          obtain ⟨j1, o, j2, j3, j4, j5, j6⟩ := pickQ_ok hj
          rw [j2] at h
          dsimp only at h
          have hns1 : isStore o.op = false := by
            cases hop : o.op <;> first | rfl | (rw [hop] at j3; cases j3)
          have hst := storeAt_ok hsa (i := j) (Array.getElem?_eq_some_iff.1 j2).1 (fun o' ho' => by rw [j2] at ho'; injection ho' with ho'; subst ho'; exact hns1)
          have hun' : ∀ s, st = some s → (mkL (opsAt (nth (bodyF F c.f) i)).size (j :: D)).getD s true = false := fun s hs => by
            simp only [mkL]; rw [getD_set_ne true (Ne.symm (hst s hs).1)]; exact hun s hs
          have take : ∀ {v : Value}, YieldsIf P (opsAt (nth (bodyF F c.f) i)) (Agr rw Hs Gs ws) o v a → AtG P fn (RetR P F Rt c.fs ats) (bodyF F c.f) (toKI P fn (RetR P F Rt c.fs ats) (bodyF F c.f) c.K) i st (Agr rw Hs Gs ws) m'' (j :: D) (a.put o.dst v) w → AtG P fn (RetR P F Rt c.fs ats) (bodyF F c.f) (toKI P fn (RetR P F Rt c.fs ats) (bodyF F c.f) c.K) i st (Agr rw Hs Gs ws) (m'' + 1) D a w := by
            intro v hy hk
            exact wpG_first j2 (Region.noSelect_spec hns) (fun cc a w hq => PQ_cont _ cc a _ _ w hq) hst m'' _ a w (Region.free_spec j2 j6) hun j1 hy hagr hk
          rcases guarded_ok hc.fr h with ⟨L1, h1, hf1, hw⟩ | ⟨L1, h1, hf1, hw⟩
          · obtain ⟨s, v, h2, h3, h4⟩ := qop_sound hT hc.sr hf1 h1
            split at h2 <;> try (cases h2; done)
            rename_i L2 hp
            refine take (v := v) (.inl ⟨hw, fun w' hS => h4 w' fun hl => ?_⟩) ?_
            · obtain ⟨e1, e2, e3⟩ := heff (j4 hl)
              rw [e1, e2, e3]
              exact hS
            · exact ih _ _ h2 G w (a.put o.dst v) ats fn ⟨hc.sr, hf1.put hp h3, hc.fl, hc.frs⟩ hfn st Hs Gs ws hsa (.inr ⟨hagr, hrows, heff, hun'⟩) hns m'' (by simp; omega)
          · split at h1 <;> try (cases h1; done)
            rename_i L2 hp
            refine take (v := undef) (.inr ⟨hw, rfl⟩) ?_
            exact ih _ _ h1 G w (a.put o.dst undef) ats fn ⟨hc.sr, hf1.put hp rfl, hc.fl, hc.frs⟩ hfn st Hs Gs ws hsa (.inr ⟨hagr, hrows, heff, hun'⟩) hns m'' (by simp; omega)
        · refine wpG_all (rs := Region.ready .any (opsAt (nth (bodyF F c.f) i)) (mkL (opsAt (nth (bodyF F c.f) i)).size D)) rfl (by assumption) fun k hk => ?_
          have h := allR_some h k hk
          split at h <;> try (cases h; done)
          rename_i o j2
          have hunj : isStore o.op = false → ∀ s, st = some s → (mkL (opsAt (nth (bodyF F c.f) i)).size (k :: D)).getD s true = false := fun hns1 s hs => by
            have hst := storeAt_ok hsa (i := k) (Array.getElem?_eq_some_iff.1 j2).1 (fun o' ho' => by rw [j2] at ho'; injection ho' with ho'; subst ho'; exact hns1)
            simp only [mkL]; rw [getD_set_ne true (Ne.symm (hst s hs).1)]; exact hun s hs
          have lst : isStore o.op = true → Nat.beq (D.length + 1) (opsAt (nth (bodyF F c.f) i)).size = true → st = some k := fun h1 _ => storeAt_is hsa j2 h1
          unfold wpOp
          simp only [j2]
          rcases guarded_ok hc.fr h with ⟨L1, h1, hf1, hw⟩ | ⟨L1, h1, hf1, hw⟩
          · rw [if_pos hw]
            refine .inl ?_
            unfold Oper.wp
            split at h1
            · rename_i hq
              have hns1 : isStore o.op = false := by
                cases hop : o.op <;> first | rfl | (rw [hop] at hq; cases hq)
              obtain ⟨s, v, h2, h3, h4⟩ := qop_sound hT hc.sr hf1 h1
              split at h2 <;> try (cases h2; done)
              rename_i L2 hp
              rw [h4 w (fun _ => Agr.refl)]
              exact ⟨.inr hagr, ih _ _ h2 G w (a.put o.dst v) ats fn ⟨hc.sr, hf1.put hp h3, hc.fl, hc.frs⟩ hfn st Hs Gs ws hsa (.inr ⟨hagr, hrows, heff, hunj hns1⟩) hns m'' (by simp; omega)⟩
            · split at h1 <;> try (cases h1; done)
              rename_i hcond
              simp only [Bool.or_eq_false_iff] at hcond
              obtain ⟨⟨hst0, hst1⟩, hst2⟩ := hcond
              simp only [Bool.and_eq_false_iff] at hst2
              refine eop_sound hT hE hI hc.sr hf1 h1 fun s H' L2 G' w' v h2 h3 h4 h5 h6 => ?_
              split at h2 <;> try (cases h2; done)
              rename_i L3 hp
              have hcr : CR Z F w0 { c with L := L3, H := H' } G' w' (a.put o.dst v) ats := ⟨h3, h4.put hp h5, Nat.le_trans hc.fl h6.len, hc.frs.ev h6.ev (Nat.le_refl _)⟩
              cases hiss : isStore o.op with
              | true =>
                have hlast : Nat.beq (D.length + 1) (opsAt (nth (bodyF F c.f) i)).size = true := by
                  rw [hiss] at hst0; simpa using hst0
                refine ⟨.inl ⟨k, lst hiss hlast, getD_set_self _ _⟩, ih _ _ h2 G' w' (a.put o.dst v) ats fn hcr hfn st Hs Gs ws hsa (.inl ?_) hns m'' (by simp; omega)⟩
                have := Nat.eq_of_beq_eq_true hlast
                simpa using this
              | false =>
                have hag := h6.agr.resolve_left (by rw [hiss, hst1]; simp)
                have hagr' : Agr rw Hs Gs ws w' := by
                  refine ⟨Nat.le_trans hagr.1 hag.1.1, fun b hb hor => ?_⟩
                  rw [← hagr.2 b hb hor]
                  refine hag.1.2 b (Nat.lt_of_lt_of_le hb hagr.1) ?_
                  rcases hst2 with h7 | h7
                  · left; rw [h7]; rfl
                  · right
                    rcases hor with hor | hor
                    · rw [h7] at hor; cases hor
                    · exact fun hx => hor (hrows b hb hx)
                exact ⟨.inr hagr', ih _ _ h2 G' w' (a.put o.dst v) ats fn hcr hfn st Hs Gs ws hsa (.inr ⟨hagr', fun b hb hx => hrows b hb (hag.2 b (Nat.lt_of_lt_of_le hb hagr.1) hx), (fun e => by cases e), hunj hiss⟩) hns m'' (by simp; omega)⟩
          · rw [if_neg (by rw [hw]; simp)]
            split at h1 <;> try (cases h1; done)
            rename_i L2 hp hcond
            refine ⟨.inr hagr, ih _ _ h1 G w (a.put o.dst undef) ats fn ⟨hc.sr, hf1.put hp rfl, hc.fl, hc.frs⟩ hfn st Hs Gs ws hsa ?_ hns m'' (by simp; omega)⟩
            cases hiss : isStore o.op with
            | true =>
              rw [hiss] at hcond
              left
              have := Nat.eq_of_beq_eq_true (show Nat.beq (D.length + 1) (opsAt (nth (bodyF F c.f) i)).size = true by simpa using hcond)
              simpa using this
            | false => exact .inr ⟨hagr, hrows, heff, hunj hiss⟩
    · -- ret
      simp only [PosOk]
      rw [hfn] at h
      dsimp only at h
      split at h <;> try (cases h; done)
      rename_i ss hss
      split at h
      · rename_i hfs
        rw [hfs]
        have hats : ats = [] := by
          have := hc.frs
          rw [hfs] at this
          cases ats with
          | nil => rfl
          | cons => exact this.elim
        subst hats
        exact ret_ok hT hc.sr hc.fr hss fun vs hvs => hRt vs _ _ _ _ _ h hc.sr hvs
      · rename_i fm fs hfs
        split at h <;> try (cases h; done)
        rename_i o ho
        split at h <;> try (cases h; done)
        rename_i L2 hp hgood
        have hfrs := hc.frs
        rw [hfs] at hfrs ⊢
        match ats, hfrs with
        | a0 :: ats, ⟨k1, k2, k3, k4⟩ =>
          obtain ⟨k3, fn', hfn'⟩ := k3
          refine ret_ok hT hc.sr hc.fr hss fun vs hvs => ⟨_, rfl, fn', o, hfn', ho, ?_⟩
          have hb := bndl_rel (fun s hs l e => by subst e; have := List.all_eq_true.1 hgood _ hs; simp [SV.good] at this) hvs
          exact ih _ _ h G w (a0.put o.dst _) ats fn' ⟨hc.sr, k1.put hp hb, Nat.le_trans k3 hc.fl, k4⟩ hfn'
end
end Go.Proofs.YtpiabmjipgfjjaaDoor
