/- The law ChooseBound returns true: weak duality. -/
import Derived.Test.YtfkidjkpgliffaaCh7
import Derived.Test.YtfkidjkpgliffaaCh11
import Derived.Test.YtfkidjkpgliffaaCh14
namespace Go.Proofs.Ytfkidjkpgliffaa
open Go.RowKit
theorem costL_cons (cost l : List Int) (t : Int) : costF cost (t :: l) = cost.getD t.toNat 0 + costF cost l := by simp [costF]
theorem costL_perm {cost l m : List Int} (h : l.Perm m) : costF cost l = costF cost m := by
  induction h with
  | nil => rfl
  | cons x _ ih => rw [costL_cons, costL_cons, ih]
  | swap x y l => rw [costL_cons, costL_cons, costL_cons, costL_cons]; omega
  | trans _ _ ih1 ih2 => exact ih1.trans ih2
theorem greedy_end {reach : List (List Bool)} {cost : List Int} : ∀ m l, GInv reach l → openTo reach l (npc reach) ≤ m → GInv reach (greedyTo reach cost m l) ∧ anyOpen reach (greedyTo reach cost m l) = false
  | 0, l, g, hm => by
    refine ⟨g, ?_⟩
    show anyOpen reach l = false
    cases ha : anyOpen reach l with
    | false => rfl
    | true => have := (ginv_step (cost := cost) g ha).2; omega
  | m + 1, l, g, hm => by
    unfold greedyTo
    cases ha : anyOpen reach l with
    | false => exact ⟨g, ha⟩
    | true =>
      obtain ⟨g', hl⟩ := ginv_step (cost := cost) g ha
      exact greedy_end m _ g' (by omega)
theorem reached_perm {reach : List (List Bool)} {l m : List Int} (h : l.Perm m) (p : Int) : reachedF reach l p = reachedF reach m p := by
  unfold reachedF
  rw [Bool.eq_iff_iff, List.any_eq_true, List.any_eq_true]
  constructor <;> rintro ⟨x, hx, he⟩
  · exact ⟨x, h.mem_iff.1 hx, he⟩
  · exact ⟨x, h.mem_iff.2 hx, he⟩
theorem inR_perm {reach : List (List Bool)} {l m : List Int} (h : l.Perm m) : inR reach l = inR reach m := by
  unfold inR
  rw [Bool.eq_iff_iff, List.all_eq_true, List.all_eq_true]
  constructor <;> intro hx x hm
  · exact hx x (h.mem_iff.2 hm)
  · exact hx x (h.mem_iff.1 hm)
theorem covers_perm {reach : List (List Bool)} {l m : List Int} (h : l.Perm m) : coversF reach l = coversF reach m := by
  unfold coversF
  rw [inR_perm h, opn_any, opn_any]
  congr 1
  exact all_mem fun p _ => by rw [reached_perm h]
/-- A list without doubles is one of the sets. -/
theorem set_of {reach : List (List Bool)} {l : List Int} (hr : inR reach l = true) (hd : l.Nodup) : ∃ s, s < 2 ^ reach.length ∧ (setTo s reach.length).Perm l := by
  let bs : List Bool := (List.range reach.length).map fun (t : Nat) => decide ((t : Int) ∈ l)
  have hl : bs.length = reach.length := by simp [bs]
  refine ⟨maskN bs bs.length, by rw [← hl]; exact maskN_lt bs _, ?_⟩
  rw [List.perm_iff_count]
  intro a
  rw [(setTo_nodup _ _).count, hd.count]
  have : a ∈ setTo (maskN bs bs.length) reach.length ↔ a ∈ l := by
    rw [setTo_mem, mask_all]
    constructor
    · rintro ⟨h1, h2, h3⟩
      have : bs.getD a.toNat false = decide (((a.toNat : Nat) : Int) ∈ l) := by simp [bs, List.getD, show a.toNat < reach.length by omega]
      rw [this, Int.toNat_of_nonneg h1] at h3
      exact of_decide_eq_true h3
    · intro ha
      have := List.all_eq_true.1 hr a ha
      rw [Bool.and_eq_true] at this
      have h1 := of_decide_eq_true this.1
      have h2 := of_decide_eq_true this.2
      refine ⟨h1, h2, ?_⟩
      have : bs.getD a.toNat false = decide (((a.toNat : Nat) : Int) ∈ l) := by simp [bs, List.getD, show a.toNat < reach.length by omega]
      rw [this, Int.toNat_of_nonneg h1]
      exact decide_eq_true ha
  simp only [this]
def paidL (reach : List (List Bool)) (ps l : List Int) (k : Nat) : Int := (l.map fun t => paidTo (reach.getD t.toNat []) ps k).sum
theorem paidL_succ (reach : List (List Bool)) (ps : List Int) (k : Nat) : ∀ l, paidL reach ps l (k + 1) = paidL reach ps l k + (l.map fun t => bif (reach.getD t.toNat []).getD k false then ps.getD k 0 else 0).sum
  | [] => by simp [paidL]
  | t :: l => by
    have ih := paidL_succ reach ps k l
    unfold paidL at ih ⊢
    simp only [List.map_cons, List.sum_cons]
    rw [ih, paidTo_succ]
    omega
theorem price_part (reach : List (List Bool)) (k : Nat) (x : Int) (hx : 0 ≤ x) : ∀ l : List Int, 0 ≤ (l.map fun t => bif (reach.getD t.toNat []).getD k false then x else 0).sum ∧ (reachedF reach l (k : Int) = true → x ≤ (l.map fun t => bif (reach.getD t.toNat []).getD k false then x else 0).sum)
  | [] => by simp [reachedF]
  | t :: l => by
    obtain ⟨i1, i2⟩ := price_part reach k x hx l
    have e : reachedF reach (t :: l) (k : Int) = ((reach.getD t.toNat []).getD k false || reachedF reach l (k : Int)) := by simp [reachedF]
    rw [e]
    simp only [List.map_cons, List.sum_cons]
    cases (reach.getD t.toNat []).getD k false with
    | true =>
      rw [cond_true]
      exact ⟨by omega, fun _ => by omega⟩
    | false =>
      rw [cond_false, Bool.false_or]
      exact ⟨by omega, fun h => by have := i2 h; omega⟩
theorem sum_paid {reach : List (List Bool)} {ps l : List Int} (hc : coversF reach l = true) (ho : okAll reach ps = true) : ∀ k, k ≤ npc reach → sumTo ps k ≤ paidL reach ps l k
  | 0, _ => by
    have : ∀ l : List Int, paidL reach ps l 0 = 0 := fun l => by
      induction l with
      | nil => rfl
      | cons t l ih => unfold paidL at ih ⊢; simp only [List.map_cons, List.sum_cons]; rw [ih]; rfl
    rw [this]
    exact Int.le_refl _
  | k + 1, h => by
    have ih := sum_paid hc ho k (by omega)
    have hk := okP_iff (List.all_eq_true.1 ho k (List.mem_range.2 (by omega)))
    have hp := price_part reach k (ps.getD k 0) hk.1 l
    rw [sumTo_succ, paidL_succ]
    unfold coversF at hc
    rw [Bool.and_eq_true, opn_any] at hc
    have := List.all_eq_true.1 hc.2 k (List.mem_range.2 (by omega))
    rcases hk.2.2 with h2 | h2
    · rw [h2] at this
      have := hp.2 (by simpa using this)
      omega
    · have := hp.1
      omega
theorem paid_cost {reach : List (List Bool)} {cost ps : List Int} (hp : paidAll reach cost ps = true) : ∀ l : List Int, inR reach l = true → paidL reach ps l (npc reach) ≤ costF cost l
  | [], _ => by simp [paidL, costF]
  | t :: l, h => by
    have h' := List.all_eq_true.1 h
    have ih := paid_cost hp l (List.all_eq_true.2 fun x hx => h' x (List.mem_cons_of_mem _ hx))
    have ht := h' t List.mem_cons_self
    rw [Bool.and_eq_true] at ht
    have t0 := of_decide_eq_true ht.1
    have t1 := of_decide_eq_true ht.2
    have := List.all_eq_true.1 hp t.toNat (List.mem_range.2 (by omega))
    have : ¬ paidTo (reach.getD t.toNat []) ps (npc reach) > cost.getD t.toNat 0 := by
      unfold paidAt at this
      simpa using this
    rw [costL_cons]
    unfold paidL at ih ⊢
    simp only [List.map_cons, List.sum_cons]
    omega
/-- Weak duality. -/
theorem duality {reach : List (List Bool)} {cost ps l : List Int} (hf : fairF reach cost ps = true) (hc : coversF reach l = true) : sumTo ps (npc reach) ≤ costF cost l := by
  unfold fairF at hf
  rw [Bool.and_eq_true, Bool.and_eq_true] at hf
  have h1 := sum_paid hc hf.2.1 (npc reach) (Nat.le_refl _)
  have h2 : inR reach l = true := by
    unfold coversF at hc
    rw [Bool.and_eq_true] at hc
    exact hc.1
  have := paid_cost hf.2.2 l h2
  omega
theorem valid_small {reach : List (List Bool)} {cost : List Int} (h : validF reach cost 200 200 = 0) (h1 : reach.length ≤ 12) (h2 : npc reach ≤ 20) : validF reach cost 12 64 = 0 := by
  have g := good_of_valid (t := 200) (p := 200) h
  have c1 : (decide ((reach.length : Int) > 12) || reach.any (longer 64)) = false := by
    rw [decide_eq_false (by omega), Bool.false_or, List.any_eq_false]
    intro l hl
    have := g.rect l hl
    have : decide ((l.length : Int) > 64) = false := decide_eq_false (by omega)
    rw [show longer 64 l = false from this]
    decide
  have c2 : (decide ((reach.length : Int) > 200) || reach.any (longer 200)) = false := by
    rw [decide_eq_false (by omega), Bool.false_or, List.any_eq_false]
    intro l hl
    have := g.rect l hl
    have : decide ((l.length : Int) > 200) = false := decide_eq_false (by omega)
    rw [show longer 200 l = false from this]
    decide
  unfold validF largeF at h ⊢
  rw [c1]
  rw [c2] at h
  exact h
def cbe_sp : Spec := { keep := false, run := fun _ args k => match args with
  | [.d (.sl (.sl .bool)) reach, .d (.sl (.int .i64)) cost] => match decide (reach.length ≤ 9223372036854775807) with
    | true => k [RV.d (.sl (.int .i64)) (bestF reach cost), RV.d (.int .i64) (bestC reach cost), RV.d (.int .i64) (validF reach cost 12 64)]
    | false => none
  | _ => none }
theorem cbe_spec : callable Try.prog 37 = true ∧ SpecOk Try.prog 37 cbe_sp ∧ ∀ g, cbe_sp.mut_ = some g → MCon Try.prog 37 g := by
  refine ⟨by kernel_rfl, fun R args k r h => ?_, fun g h => by simp [cbe_sp] at h⟩
  unfold cbe_sp at h
  dsimp only at h
  split at h <;> try (cases h; done)
  split at h <;> try (cases h; done)
  rename_i hd
  exact ⟨_, h, cbe_con _ _ (of_decide_eq_true hd)⟩
def cgr_sp : Spec := { keep := false, run := fun _ args k => match args with
  | [.d (.sl (.sl .bool)) reach, .d (.sl (.int .i64)) cost] => match decide (reach.length ≤ 9223372036854775807) with
    | true => k [RV.d (.sl (.int .i64)) (greedyF reach cost), RV.d (.int .i64) (bif validF reach cost 200 200 != 0 then 0 else costF cost (greedyTo reach cost (npc reach) [])), RV.d (.int .i64) (validF reach cost 200 200)]
    | false => none
  | _ => none }
theorem cgr_spec : callable Try.prog 40 = true ∧ SpecOk Try.prog 40 cgr_sp ∧ ∀ g, cgr_sp.mut_ = some g → MCon Try.prog 40 g := by
  refine ⟨by kernel_rfl, fun R args k r h => ?_, fun g h => by simp [cgr_sp] at h⟩
  unfold cgr_sp at h
  dsimp only at h
  split at h <;> try (cases h; done)
  split at h <;> try (cases h; done)
  rename_i hd
  exact ⟨_, h, cgr_con _ _ (of_decide_eq_true hd)⟩
def cra_sp : Spec := { keep := false, run := fun _ args k => match args with
  | [.d (.sl (.sl .bool)) reach, .d (.sl (.int .i64)) cost] => match decide (reach.length ≤ 9223372036854775807) with
    | true => k [RV.d (.sl (.int .i64)) (raiseF reach cost), RV.d (.int .i64) (validF reach cost 200 200)]
    | false => none
  | _ => none }
theorem cra_spec : callable Try.prog 45 = true ∧ SpecOk Try.prog 45 cra_sp ∧ ∀ g, cra_sp.mut_ = some g → MCon Try.prog 45 g := by
  refine ⟨by kernel_rfl, fun R args k r h => ?_, fun g h => by simp [cra_sp] at h⟩
  unfold cra_sp at h
  dsimp only at h
  split at h <;> try (cases h; done)
  split at h <;> try (cases h; done)
  rename_i hd
  exact ⟨_, h, cra_con _ _ (of_decide_eq_true hd)⟩
def envLD : Env := [(33, awake_sp), (42, right_sp), (43, cpr_sp), (48, rcs_sp), (49, rco_sp), (37, cbe_sp), (40, cgr_sp), (45, cra_sp)]
theorem envLD_ok : EnvAll Try.prog envLD := ⟨awake_spec, right_spec, cpr_spec, rcs_spec, rco_spec, cbe_spec, cgr_spec, cra_spec, trivial⟩
def lawD_nt : NT := []
noncomputable def lawD_C : Ctx := ⟨Try.prog, ft, tys, envLD, lawD_nt⟩
def lawD_t (_k : Nat → Cfg → Option (List RV)) (reach : List (List Bool)) (cost : List Int) (ps : List Int) : Option (List RV) := match !true with | true => some [RV.d .bool true] | false => (match decide (reach.length ≤ 9223372036854775807) with | true => (match !(rightF reach cost) with | true => some [RV.d .bool true] | false => (match decide ((ps.length : Int) > 30) with | true => some [RV.d .bool true] | false => (match decide (reach.length ≤ 9223372036854775807) with | true => (match decide (reach.length ≤ 9223372036854775807) with | true => (match decide (reach.length ≤ 9223372036854775807) with | true => (match (validF reach cost 12 64) != 0 with | true => some [RV.d .bool false] | false => (match (validF reach cost 200 200) != 0 with | true => some [RV.d .bool false] | false => (match (validF reach cost 200 200) != 0 with | true => some [RV.d .bool false] | false => (match decide (small3 reach ∧ cost.length = reach.length) with | true => (match decide (small3 reach ∧ cost.length = reach.length) with | true => (match fairF reach cost (raiseF reach cost) with | true => (match decide ((bif fairF reach cost (raiseF reach cost) then sumTo (raiseF reach cost) (npc reach) else 0) ≤ (bestC reach cost)) with | true => (match decide ((bestC reach cost) ≤ (bif validF reach cost 200 200 != 0 then 0 else costF cost (greedyTo reach cost (npc reach) []))) with | true => (match !(fairF reach cost ps) with | true => (match decide (small3 reach ∧ (greedyF reach cost).length ≤ 1000000) with | true => (match coversF reach (greedyF reach cost) with | true => (match decide (costP cost (greedyF reach cost)) with | true => some [RV.d .bool ((bif validF reach cost 200 200 != 0 then 0 else costF cost (greedyTo reach cost (npc reach) [])) == (costF cost (greedyF reach cost)))] | false => none) | false => some [RV.d .bool false]) | false => none) | false => (match decide ((bif fairF reach cost ps then sumTo ps (npc reach) else 0) ≤ (bestC reach cost)) with | true => (match decide (small3 reach ∧ (greedyF reach cost).length ≤ 1000000) with | true => (match coversF reach (greedyF reach cost) with | true => (match decide (costP cost (greedyF reach cost)) with | true => some [RV.d .bool ((bif validF reach cost 200 200 != 0 then 0 else costF cost (greedyTo reach cost (npc reach) [])) == (costF cost (greedyF reach cost)))] | false => none) | false => some [RV.d .bool false]) | false => none) | false => some [RV.d .bool false])) | false => some [RV.d .bool false]) | false => some [RV.d .bool false]) | false => some [RV.d .bool false]) | false => none) | false => none)))) | false => none) | false => none) | false => none))) | false => none)
theorem lawD_eq (k : Nat → Cfg → Option (List RV)) (reach : List (List Bool)) (cost : List Int) (ps : List Int) : go Try.prog ft tys envLD lawD_nt k 4000 (start 12 [.d (.sl (.sl .bool)) reach, .d (.sl (.int .i64)) cost, .d (.sl (.int .i64)) ps]) (.node 0) = lawD_t k reach cost ps := by kernel_rfl
theorem lawD_s (reach : List (List Bool)) (cost : List Int) (ps : List Int) {r : List RV} (h : ∃ n, lawD_t (lawD_C.k n) reach cost ps = some r) : lawD_C.Res 12 [.d (.sl (.sl .bool)) reach, .d (.sl (.int .i64)) cost, .d (.sl (.int .i64)) ps] r := by
  obtain ⟨n, h⟩ := h
  exact ⟨n, (lawD_eq _ reach cost ps).trans h⟩
theorem lawD_con (reach : List (List Bool)) (cost ps : List Int) (h1 : (Ty.sl (.sl .bool)).ok reach) (h2 : (Ty.sl (.int .i64)).ok cost) (h3 : (Ty.sl (.int .i64)).ok ps) : Con Try.prog 12 [.d (.sl (.sl .bool)) reach, .d (.sl (.int .i64)) cost, .d (.sl (.int .i64)) ps] [.d .bool true] := by
  refine Ctx.Res.con (C := lawD_C) (ctx_ok envLD_ok) ?_ (fn := Try.f12) (by kernel_rfl) (by kernel_rfl)
  refine lawD_s _ _ _ ⟨0, ?_⟩
  have hb := h1.1
  unfold lawD_t
  rw [decide_eq_true (show reach.length ≤ 9223372036854775807 from hb)]
  dsimp only
  cases c1 : rightF reach cost with
  | false => rfl
  | true =>
    try dsimp only
    cases c2 : decide ((ps.length : Int) > 30) with
    | true => rfl
    | false =>
      try dsimp only
      have g := right_good c1
      have hn := g.n
      have hp := g.p
      have h3 := g.s3 (by omega) (by omega)
      have v200 : validF reach cost 200 200 = 0 := by
        unfold rightF at c1
        rw [Bool.and_eq_true] at c1
        simpa using c1.2
      have v12 := valid_small v200 hn hp
      obtain ⟨b, hbest⟩ := best_some reach cost
      obtain ⟨s', hs', hbs, hbc⟩ := bestTo_set hbest
      have eB : bestC reach cost = costF cost b := by
        unfold bestC bestL
        rw [v12, hbest]; rfl
      have eG : greedyF reach cost = isort (greedyTo reach cost (npc reach) []) := by
        unfold greedyF
        rw [v200]; rfl
      have eR : raiseF reach cost = (raiseTo reach cost (npc reach)).1 := by
        unfold raiseF
        rw [v200]; rfl
      have hf := inv_fair (raise_inv g (npc reach) (Nat.le_refl _))
      obtain ⟨gi, hend⟩ := greedy_end (reach := reach) (cost := cost) (npc reach) [] (ginv_nil reach) (openTo_le reach [] (npc reach))
      have gop := gi.op
      have gcov : coversF reach (greedyTo reach cost (npc reach) []) = true := by
        unfold coversF
        rw [gi.inr]
        unfold anyOpen at hend
        rw [hend]; rfl
      have gle : costF cost b ≤ costF cost (greedyTo reach cost (npc reach) []) := by
        obtain ⟨s, hs, hperm⟩ := set_of gi.inr gi.nd
        obtain ⟨b', hb', hle⟩ := bestTo_min (cost := cost) hs (by rw [covers_perm hperm]; exact gcov)
        rw [hbest] at hb'
        cases hb'
        rw [costL_perm hperm] at hle
        exact hle
      generalize greedyTo reach cost (npc reach) [] = l at *
      have cpl : costP cost (isort l) := by
        refine ⟨?_, List.all_eq_true.2 fun c hcm => by simpa using g.c c hcm, by rw [isort_len]; omega⟩
        rw [g.len]
        exact (inR_perm (isort_perm l)).trans gi.inr
      have d1 := duality hf hbc
      rw [v12, v200, decide_eq_true (show small3 reach ∧ cost.length = reach.length from ⟨h3, g.len⟩), eB, eG, eR, hf, decide_eq_true (show small3 reach ∧ (isort l).length ≤ 1000000 from ⟨h3, by rw [isort_len]; omega⟩), decide_eq_true cpl, covers_perm (isort_perm l), gcov, costL_perm (isort_perm l)]
      cases hps : fairF reach cost ps with
      | false => simp [d1, gle]
      | true =>
        have d2 := duality hps hbc
        simp [d1, d2, gle]
end Go.Proofs.Ytfkidjkpgliffaa
