/- choose.Greedy walks as greedyTo. -/
import Derived.Test.YtfkidjkpgliffaaCh10
namespace Go.Proofs.Ytfkidjkpgliffaa
open Go.RowKit
def env11 : Env := [(70, cvalid_sp), (50, ccov_sp), (74, contb_sp), (75, spSort)]
theorem env11_ok : EnvAll Try.prog env11 := ⟨cvalid_spec, ccov_spec, contb_spec, sort_spec, trivial⟩
def cgr_nt : NT := [((40, 20), { keep := [0, 1, 8, 9, 10], own := [(9, 3, .int .i64)], hl := 2 }), ((40, 34), { keep := [0, 1, 8, 9, 10, 11, 12, 30, 31, 32], hl := 2 }), ((40, 51), { keep := [0, 1, 8, 9, 10, 11, 12, 13, 15, 30, 31, 32, 37, 38, 39], hl := 2 }), ((40, 78), { keep := [0, 1, 8, 9, 10, 11, 81, 82, 83], hl := 2 })]
noncomputable def cgr_C : Ctx := ⟨Try.prog, ft, tys, env11, cgr_nt⟩
def cgr_h20 (reach : List (List Bool)) (cost : List Int) (s10 : Int) (r1 : List Int) (r0 : List Bool) : Cfg := ⟨40, [.blk 0, .seq 92], [(0, .d (.sl (.sl .bool)) reach), (1, .d (.sl (.int .i64)) cost), (8, .own 0), (9, .own 1), (10, SI s10)], [.row 4 .bool r0, .row 3 (.int .i64) r1], 0, []⟩
def cgr_h34 (reach : List (List Bool)) (cost : List Int) (s10 : Int) (r0 : List Bool) (r1 : List Int) (s11 : Int) (s32 : Int) (s12 : Int) : Cfg := ⟨40, [.blk 2, .seq 74, .blk 1, .lp 20, .blk 0, .seq 92], [(0, .d (.sl (.sl .bool)) reach), (1, .d (.sl (.int .i64)) cost), (8, .own 0), (9, .own 1), (10, SI s10), (11, SI s11), (12, SI s12), (30, .d (.sl (.sl .bool)) reach), (31, SI (reach.length : Int)), (32, SI s32)], [.row 4 .bool r0, .row 3 (.int .i64) r1], 0, []⟩
def cgr_h51 (reach : List (List Bool)) (cost : List Int) (s10 : Int) (r0 : List Bool) (r1 : List Int) (s11 : Int) (s12 : Int) (s32 : Int) (x1 : List Bool) (s15 : Int) (s39 : Int) : Cfg := ⟨40, [.blk 4, .seq 68, .blk 3, .seq 73, .lp 34, .blk 2, .seq 74, .blk 1, .lp 20, .blk 0, .seq 92], [(0, .d (.sl (.sl .bool)) reach), (1, .d (.sl (.int .i64)) cost), (8, .own 0), (9, .own 1), (10, SI s10), (11, SI s11), (12, SI s12), (13, SI s32), (15, SI s15), (30, .d (.sl (.sl .bool)) reach), (31, SI (reach.length : Int)), (32, SI s32), (37, .d (.sl .bool) x1), (38, SI (x1.length : Int)), (39, SI s39)], [.row 4 .bool r0, .row 3 (.int .i64) r1], 0, []⟩
def cgr_h78 (reach : List (List Bool)) (cost : List Int) (s10 : Int) (r1 : List Int) (s11 : Int) (x2 : List Bool) (s83 : Int) (r0 : List Bool) : Cfg := ⟨40, [.blk 6, .seq 91, .blk 1, .lp 20, .blk 0, .seq 92], [(0, .d (.sl (.sl .bool)) reach), (1, .d (.sl (.int .i64)) cost), (8, .own 0), (9, .own 1), (10, SI s10), (11, SI s11), (81, .d (.sl .bool) x2), (82, SI (x2.length : Int)), (83, SI s83)], [.row 4 .bool r0, .row 3 (.int .i64) r1], 0, []⟩
def cgr_t (k : Nat → Cfg → Option (List RV)) (reach : List (List Bool)) (cost : List Int) : Option (List RV) := match decide (reach.length ≤ 9223372036854775807) with | true => (match (validF reach cost 200 200) != 0 with | true => some [RV.d (.sl (.int .i64)) ([]), RV.d (.int .i64) 0, RV.d (.int .i64) (validF reach cost 200 200)] | false => (match decide (small3 reach) with | true => k 20 (cgr_h20 reach cost 0 ([]) (covF reach)) | false => none)) | false => none
theorem cgr_eq (k : Nat → Cfg → Option (List RV)) (reach : List (List Bool)) (cost : List Int) : go Try.prog ft tys env11 cgr_nt k 4000 (start 40 [.d (.sl (.sl .bool)) reach, .d (.sl (.int .i64)) cost]) (.node 0) = cgr_t k reach cost := by kernel_rfl
theorem cgr_s (reach : List (List Bool)) (cost : List Int) {r : List RV} (h : ∃ n, cgr_t (cgr_C.k n) reach cost = some r) : cgr_C.Res 40 [.d (.sl (.sl .bool)) reach, .d (.sl (.int .i64)) cost] r := by
  obtain ⟨n, h⟩ := h
  exact ⟨n, (cgr_eq _ reach cost).trans h⟩
def cgr_h20_t (k : Nat → Cfg → Option (List RV)) (reach : List (List Bool)) (cost : List Int) (s10 : Int) (r1 : List Int) (r0 : List Bool) : Option (List RV) := match decide (r0.length ≤ 1000000) with | true => (match r0.any fun x => true == x with | true => k 34 (cgr_h34 reach cost s10 r0 r1 (-1) 0 0) | false => (match decide (r1.length ≤ 140737488355328) with | true => some [RV.d (.sl (.int .i64)) (isort r1), RV.d (.int .i64) s10, RV.d (.int .i64) 0] | false => none)) | false => none
theorem cgr_h20_eq (k : Nat → Cfg → Option (List RV)) (reach : List (List Bool)) (cost : List Int) (s10 : Int) (r1 : List Int) (r0 : List Bool) : go Try.prog ft tys env11 cgr_nt k 4000 { cgr_h20 reach cost s10 r1 r0 with K := .lp 20 :: (cgr_h20 reach cost s10 r1 r0).K } (.node 21) = cgr_h20_t k reach cost s10 r1 r0 := by kernel_rfl
theorem cgr_h20_s (reach : List (List Bool)) (cost : List Int) (s10 : Int) (r1 : List Int) (r0 : List Bool) {r : List RV} (h : ∃ n, cgr_h20_t (cgr_C.k n) reach cost s10 r1 r0 = some r) : cgr_C.Runs 20 (cgr_h20 reach cost s10 r1 r0) r := by
  obtain ⟨n, h⟩ := h
  exact ⟨n + 1, (cgr_h20_eq _ reach cost s10 r1 r0).trans h⟩
def cgr_h34_t (k : Nat → Cfg → Option (List RV)) (reach : List (List Bool)) (cost : List Int) (s10 : Int) (r0 : List Bool) (r1 : List Int) (s11 : Int) (s32 : Int) (s12 : Int) : Option (List RV) := match decide (s32 < (reach.length : Int)) with | true => (match getI reach s32 with | some x1 => k 51 (cgr_h51 reach cost s10 r0 r1 s11 s12 s32 x1 0 0) | none => none) | false => (match getI reach s11 with | some x2 => k 78 (cgr_h78 reach cost s10 r1 s11 x2 0 r0) | none => none)
theorem cgr_h34_eq (k : Nat → Cfg → Option (List RV)) (reach : List (List Bool)) (cost : List Int) (s10 : Int) (r0 : List Bool) (r1 : List Int) (s11 : Int) (s32 : Int) (s12 : Int) : go Try.prog ft tys env11 cgr_nt k 4000 { cgr_h34 reach cost s10 r0 r1 s11 s32 s12 with K := .lp 34 :: (cgr_h34 reach cost s10 r0 r1 s11 s32 s12).K } (.node 35) = cgr_h34_t k reach cost s10 r0 r1 s11 s32 s12 := by kernel_rfl
theorem cgr_h34_s (reach : List (List Bool)) (cost : List Int) (s10 : Int) (r0 : List Bool) (r1 : List Int) (s11 : Int) (s32 : Int) (s12 : Int) {r : List RV} (h : ∃ n, cgr_h34_t (cgr_C.k n) reach cost s10 r0 r1 s11 s32 s12 = some r) : cgr_C.Runs 34 (cgr_h34 reach cost s10 r0 r1 s11 s32 s12) r := by
  obtain ⟨n, h⟩ := h
  exact ⟨n + 1, (cgr_h34_eq _ reach cost s10 r0 r1 s11 s32 s12).trans h⟩
def cgr_h51_t (k : Nat → Cfg → Option (List RV)) (reach : List (List Bool)) (cost : List Int) (s10 : Int) (r0 : List Bool) (r1 : List Int) (s11 : Int) (s12 : Int) (s32 : Int) (x1 : List Bool) (s15 : Int) (s39 : Int) : Option (List RV) := match decide (s39 < (x1.length : Int)) with | true => (match getI x1 s39 with | some x3 => (match x3 with | true => (match getI r0 s39 with | some _ => (match true, r0[(s39).toNat]? with | true, some x4 => (match x4 with | true => k 51 (cgr_h51 reach cost s10 r0 r1 s11 s12 s32 x1 (IntKind.i64.wrap (s15 + 1)) (IntKind.i64.wrap (s39 + 1))) | false => k 51 (cgr_h51 reach cost s10 r0 r1 s11 s12 s32 x1 s15 (IntKind.i64.wrap (s39 + 1)))) | _, _ => none) | none => none) | false => k 51 (cgr_h51 reach cost s10 r0 r1 s11 s12 s32 x1 s15 (IntKind.i64.wrap (s39 + 1)))) | none => none) | false => (match decide (s15 > 0) with | true => (match decide (s11 < 0) with | true => k 34 (cgr_h34 reach cost s10 r0 r1 s32 (IntKind.i64.wrap (s32 + 1)) s15) | false => (match getI cost s32 with | some x5 => (match getI cost s11 with | some x6 => (match decide ((IntKind.i64.wrap (x5 * s12)) < (IntKind.i64.wrap (x6 * s15))) with | true => k 34 (cgr_h34 reach cost s10 r0 r1 s32 (IntKind.i64.wrap (s32 + 1)) s15) | false => k 34 (cgr_h34 reach cost s10 r0 r1 s11 (IntKind.i64.wrap (s32 + 1)) s12)) | none => none) | none => none)) | false => k 34 (cgr_h34 reach cost s10 r0 r1 s11 (IntKind.i64.wrap (s32 + 1)) s12))
theorem cgr_h51_eq (k : Nat → Cfg → Option (List RV)) (reach : List (List Bool)) (cost : List Int) (s10 : Int) (r0 : List Bool) (r1 : List Int) (s11 : Int) (s12 : Int) (s32 : Int) (x1 : List Bool) (s15 : Int) (s39 : Int) : go Try.prog ft tys env11 cgr_nt k 4000 { cgr_h51 reach cost s10 r0 r1 s11 s12 s32 x1 s15 s39 with K := .lp 51 :: (cgr_h51 reach cost s10 r0 r1 s11 s12 s32 x1 s15 s39).K } (.node 52) = cgr_h51_t k reach cost s10 r0 r1 s11 s12 s32 x1 s15 s39 := by kernel_rfl
theorem cgr_h51_s (reach : List (List Bool)) (cost : List Int) (s10 : Int) (r0 : List Bool) (r1 : List Int) (s11 : Int) (s12 : Int) (s32 : Int) (x1 : List Bool) (s15 : Int) (s39 : Int) {r : List RV} (h : ∃ n, cgr_h51_t (cgr_C.k n) reach cost s10 r0 r1 s11 s12 s32 x1 s15 s39 = some r) : cgr_C.Runs 51 (cgr_h51 reach cost s10 r0 r1 s11 s12 s32 x1 s15 s39) r := by
  obtain ⟨n, h⟩ := h
  exact ⟨n + 1, (cgr_h51_eq _ reach cost s10 r0 r1 s11 s12 s32 x1 s15 s39).trans h⟩
def cgr_h78_t (k : Nat → Cfg → Option (List RV)) (reach : List (List Bool)) (cost : List Int) (s10 : Int) (r1 : List Int) (s11 : Int) (x2 : List Bool) (s83 : Int) (r0 : List Bool) : Option (List RV) := match decide (s83 < (x2.length : Int)) with | true => (match getI x2 s83 with | some x7 => (match getI r0 s83 with | some _ => (match true, r0[(s83).toNat]? with | true, some x8 => (match x8 with | true => (match getI r0 s83 with | some _ => (match true, r0[(s83).toNat]? with | true, some _ => k 78 (cgr_h78 reach cost s10 r1 s11 x2 (IntKind.i64.wrap (s83 + 1)) (r0.set ((s83).toNat) (!x7))) | _, _ => none) | none => none) | false => (match getI r0 s83 with | some _ => (match true, r0[(s83).toNat]? with | true, some _ => k 78 (cgr_h78 reach cost s10 r1 s11 x2 (IntKind.i64.wrap (s83 + 1)) (r0.set ((s83).toNat) false)) | _, _ => none) | none => none)) | _, _ => none) | none => none) | none => none) | false => (match getI cost s11 with | some x11 => (match decide ((r1.length + ([s11]).length) * 8 ≤ 140737488355328 ∧ r1.length + ([s11]).length ≤ 140737488355328) with | true => k 20 (cgr_h20 reach cost (IntKind.i64.wrap (s10 + x11)) (r1 ++ ([s11])) r0) | false => none) | none => none)
theorem cgr_h78_eq (k : Nat → Cfg → Option (List RV)) (reach : List (List Bool)) (cost : List Int) (s10 : Int) (r1 : List Int) (s11 : Int) (x2 : List Bool) (s83 : Int) (r0 : List Bool) : go Try.prog ft tys env11 cgr_nt k 4000 { cgr_h78 reach cost s10 r1 s11 x2 s83 r0 with K := .lp 78 :: (cgr_h78 reach cost s10 r1 s11 x2 s83 r0).K } (.node 79) = cgr_h78_t k reach cost s10 r1 s11 x2 s83 r0 := by kernel_rfl
theorem cgr_h78_s (reach : List (List Bool)) (cost : List Int) (s10 : Int) (r1 : List Int) (s11 : Int) (x2 : List Bool) (s83 : Int) (r0 : List Bool) {r : List RV} (h : ∃ n, cgr_h78_t (cgr_C.k n) reach cost s10 r1 s11 x2 s83 r0 = some r) : cgr_C.Runs 78 (cgr_h78 reach cost s10 r1 s11 x2 s83 r0) r := by
  obtain ⟨n, h⟩ := h
  exact ⟨n + 1, (cgr_h78_eq _ reach cost s10 r1 s11 x2 s83 r0).trans h⟩
def gainOf (reach : List (List Bool)) (l : List Int) (b : Int) : Int := bif decide (b < 0) then 0 else freshF reach l b
theorem freshF_bd (reach : List (List Bool)) (l : List Int) (t : Int) (h : small3 reach) : 0 ≤ freshF reach l t ∧ freshF reach l t ≤ 1000 := by
  have := freshN_le reach l t.toNat (npc reach)
  have := h.2.1
  unfold freshF
  omega
theorem mul_bd {a b : Int} (h1 : 0 ≤ a ∧ a ≤ 2147483648) (h2 : 0 ≤ b ∧ b ≤ 1000) : -9223372036854775808 ≤ a * b ∧ a * b ≤ 9223372036854775807 := by
  have h3 := Int.mul_nonneg h1.1 h2.1
  have h4 : a * b ≤ 2147483648 * 1000 := Int.mul_le_mul h1.2 h2.2 h2.1 (by decide)
  omega
theorem cgr_l51 (reach : List (List Bool)) (cost : List Int) (tot : Int) (l out : List Int) (t : Nat) (ht : t < reach.length) (r : List RV) (h : small3 reach) (hc : cost.length = reach.length) (hb : ∀ c ∈ cost, 0 ≤ c ∧ c ≤ 2147483648)
    (hk : cgr_C.Runs 34 (cgr_h34 reach cost tot (opn reach l) out (selTo reach cost l (t + 1)) (IntKind.i64.wrap ((t : Int) + 1)) (gainOf reach l (selTo reach cost l (t + 1)))) r) :
    ∀ d k, npc reach - k = d → k ≤ npc reach → cgr_C.Runs 51 (cgr_h51 reach cost tot (opn reach l) out (selTo reach cost l t) (gainOf reach l (selTo reach cost l t)) (t : Int) reach[t] (freshN reach l t k : Int) (k : Int)) r := by
  have h2 := h.2.1
  have hm := h.rect _ (List.getElem_mem ht)
  intro d
  induction d with
  | zero =>
    intro k hd hkl
    have hf : freshF reach l (t : Int) = (freshN reach l t (npc reach) : Int) := by unfold freshF; rw [toNat_nat]
    refine cgr_h51_s _ _ _ _ _ _ _ _ _ _ _ ?_
    unfold cgr_h51_t
    rw [ge_dec (by omega), show k = npc reach by omega, ← hf]
    dsimp only
    have htc : t < cost.length := by omega
    unfold selTo at hk
    rw [getD_get htc] at hk
    have hsp := selTo_spec (reach := reach) (cost := cost) (l := l) t
    generalize selTo reach cost l t = b at *
    cases c1 : decide (freshF reach l (t : Int) > 0) with
    | false => rw [c1] at hk; exact hk
    | true =>
      rw [c1] at hk
      have e2 : gainOf reach l (t : Int) = freshF reach l (t : Int) := by unfold gainOf; rw [decide_eq_false (by omega)]; rfl
      dsimp only
      cases c2 : decide (b < 0) with
      | true =>
        rw [c2] at hk
        simp only [Bool.true_or, Bool.and_self, cond_true] at hk
        rw [e2] at hk
        exact hk
      | false =>
        have b0 := of_decide_eq_false c2
        have b1 : b < (cost.length : Int) := by
          rcases hsp with ⟨h1, _⟩ | ⟨_, h1, _⟩ <;> omega
        have e3 : gainOf reach l b = freshF reach l b := by unfold gainOf; rw [c2]; rfl
        rw [c2] at hk
        simp only [Bool.false_or, Bool.true_and] at hk
        dsimp only
        rw [getI_nat, List.getElem?_eq_getElem htc, getI_in 0 (by omega) b1, e3]
        dsimp only
        have m1 := mul_bd (hb _ (List.getElem_mem htc)) (freshF_bd reach l b h)
        have m2 := mul_bd (hb _ (getD_mem 0 (show 0 ≤ b by omega) b1)) (freshF_bd reach l (t : Int) h)
        rw [wrap64 m1.1 m1.2, wrap64 m2.1 m2.2]
        cases c3 : decide (cost[t] * freshF reach l b < cost.getD b.toNat 0 * freshF reach l (t : Int)) with
        | true =>
          rw [c3] at hk
          simp only [cond_true] at hk
          rw [e2] at hk
          exact hk
        | false =>
          rw [c3] at hk
          simp only [cond_false] at hk
          rw [e3] at hk
          exact hk
  | succ d ih =>
    intro k hd hkl
    have hn := ih (k + 1) (by omega) (by omega)
    have hle := freshN_le reach l t k
    have hkr : k < reach[t].length := by omega
    have hko : k < (opn reach l).length := by rw [opn_len]; omega
    have hg : rch reach t k = reach[t][k] := by unfold rch; rw [getD_get ht, getD_get hkr]
    refine cgr_h51_s _ _ _ _ _ _ _ _ _ _ _ ?_
    unfold cgr_h51_t
    rw [lt_dec (by omega), getI_nat, List.getElem?_eq_getElem hkr, wrapS (by omega), wrapS (by omega)]
    unfold freshN at hn
    rw [hg] at hn
    dsimp only
    cases hx : reach[t][k] with
    | false => rw [hx] at hn; exact hn
    | true =>
      rw [hx] at hn
      have hcov := (cov_iff (show k < npc reach by omega)).2 ⟨t, ht, hg.trans hx⟩
      have ho : (opn reach l)[k] = !reachedF reach l (k : Int) := by
        have : (covF reach).getD k false = reach.any fun r => r.getD k false := by simp [covF, show k < npc reach by omega]
        simp only [opn, List.getElem_map, List.getElem_range]
        rw [← this, hcov, Bool.true_and]
      dsimp only
      rw [getI_nat, toNat_nat, List.getElem?_eq_getElem hko, ho]
      dsimp only
      cases hy : reachedF reach l (k : Int) with
      | true => rw [hy] at hn; exact hn
      | false => rw [hy] at hn; exact hn
theorem cgr_l34 (reach : List (List Bool)) (cost : List Int) (tot : Int) (l out : List Int) (r : List RV) (h : small3 reach) (hc : cost.length = reach.length) (hb : ∀ c ∈ cost, 0 ≤ c ∧ c ≤ 2147483648) (ha : anyOpen reach l = true)
    (hk : cgr_C.Runs 78 (cgr_h78 reach cost tot out (sel reach cost l) (reach.getD (sel reach cost l).toNat []) 0 (opn reach l)) r) :
    ∀ d t, reach.length - t = d → t ≤ reach.length → cgr_C.Runs 34 (cgr_h34 reach cost tot (opn reach l) out (selTo reach cost l t) (t : Int) (gainOf reach l (selTo reach cost l t))) r := by
  have h1 := h.1
  intro d
  induction d with
  | zero =>
    intro t hd htl
    obtain ⟨s0, s1, _⟩ := sel_spec (cost := cost) ha
    refine cgr_h34_s _ _ _ _ _ _ _ _ ?_
    unfold cgr_h34_t
    rw [ge_dec (by omega), show t = reach.length by omega, show selTo reach cost l reach.length = sel reach cost l from rfl]
    dsimp only
    rw [getI_in [] s0 s1]
    exact hk
  | succ d ih =>
    intro t hd htl
    have hlt : t < reach.length := by omega
    have hn := ih (t + 1) (by omega) (by omega)
    rw [← wrapS (show t + 1 ≤ 9223372036854775807 by omega)] at hn
    refine cgr_h34_s _ _ _ _ _ _ _ _ ?_
    unfold cgr_h34_t
    rw [lt_dec hlt, getI_nat, List.getElem?_eq_getElem hlt]
    exact cgr_l51 reach cost tot l out t hlt r h hc hb hn _ 0 rfl (Nat.zero_le _)
theorem cgr_l78 (reach : List (List Bool)) (cost : List Int) (tot : Int) (out : List Int) (b : Int) (row a : List Bool) (r : List RV) (hl : row.length = a.length) (hm : row.length ≤ 1000) (hb0 : 0 ≤ b) (hb1 : b < (cost.length : Int)) (ho : out.length ≤ 1000)
    (hk : cgr_C.Runs 20 (cgr_h20 reach cost (IntKind.i64.wrap (tot + cost.getD b.toNat 0)) (out ++ [b]) (a.mapIdx (andNot row))) r) :
    ∀ d k, row.length - k = d → k ≤ row.length → cgr_C.Runs 78 (cgr_h78 reach cost tot out b row (k : Int) (updTo (andNot row) k a)) r := by
  intro d
  induction d with
  | zero =>
    intro k hd hkl
    refine cgr_h78_s _ _ _ _ _ _ _ _ ?_
    unfold cgr_h78_t
    rw [ge_dec (by omega), updTo_all _ _ _ (by omega)]
    dsimp only
    rw [getI_in 0 hb0 hb1]
    dsimp only
    rw [List.length_singleton, app_ok (by omega) (by omega)]
    exact hk
  | succ d ih =>
    intro k hd hkl
    have h1 : k < row.length := by omega
    have h2 : k < a.length := by omega
    refine cgr_h78_s _ _ _ _ _ _ _ _ ?_
    unfold cgr_h78_t
    rw [lt_dec h1, getI_nat, getI_nat, toNat_nat, updTo_get, List.getElem?_eq_getElem h1, List.getElem?_eq_getElem h2, wrapS (by omega)]
    have hs := updTo_set (andNot row) a k h2
    have hg : row.getD k false = row[k] := by simp [List.getD, h1]
    have hn := ih (k + 1) (by omega) (by omega)
    rw [← hs] at hn
    unfold andNot at hn ⊢
    rw [hg] at hn
    cases hx : a[k] with
    | true => rw [hx] at hn; exact hn
    | false => rw [hx] at hn; exact hn
theorem cgr_l20 (reach : List (List Bool)) (cost : List Int) (h : small3 reach) (hc : cost.length = reach.length) (hb : ∀ c ∈ cost, 0 ≤ c ∧ c ≤ 2147483648) :
    ∀ m l, GInv reach l → openTo reach l (npc reach) ≤ m → cgr_C.Runs 20 (cgr_h20 reach cost (costF cost l) l (opn reach l)) [.d (.sl (.int .i64)) (isort (greedyTo reach cost m l)), .d (.int .i64) (costF cost (greedyTo reach cost m l)), .d (.int .i64) 0] := by
  have h2 := h.2.1
  have fin : ∀ l, GInv reach l → anyOpen reach l = false → cgr_C.Runs 20 (cgr_h20 reach cost (costF cost l) l (opn reach l)) [.d (.sl (.int .i64)) (isort l), .d (.int .i64) (costF cost l), .d (.int .i64) 0] := by
    intro l g ha
    have := g.op
    refine cgr_h20_s _ _ _ _ _ ⟨0, ?_⟩
    unfold cgr_h20_t
    rw [decide_eq_true (show (opn reach l).length ≤ 1000000 by rw [opn_len]; omega), show ((opn reach l).any fun x => true == x) = false from ha, decide_eq_true (show l.length ≤ 140737488355328 by omega)]
  intro m
  induction m with
  | zero =>
    intro l g hm
    refine fin l g ?_
    cases ha : anyOpen reach l with
    | false => rfl
    | true => have := (ginv_step (cost := cost) g ha).2; omega
  | succ m ih =>
    intro l g hm
    unfold greedyTo
    cases ha : anyOpen reach l with
    | false => exact fin l g ha
    | true =>
      obtain ⟨g', hl⟩ := ginv_step (cost := cost) g ha
      obtain ⟨s0, s1, _⟩ := sel_spec (cost := cost) ha
      have hn := ih _ g' (by omega)
      have hop := g'.op
      have hop0 := g.op
      have bd := costF_bd hb (l ++ [sel reach cost l])
      rw [costF_snoc, ← opn_step] at hn
      rw [costF_snoc] at bd
      rw [← wrap64 (show -9223372036854775808 ≤ costF cost l + cost.getD (sel reach cost l).toNat 0 by omega) (by omega)] at hn
      have hr := h.rect _ (getD_mem (xs := reach) (t := sel reach cost l) [] s0 s1)
      have h78 := cgr_l78 reach cost (costF cost l) l (sel reach cost l) (reach.getD (sel reach cost l).toNat []) (opn reach l) _ (by rw [hr, opn_len]) (by omega) s0 (by omega) (by omega) hn _ 0 rfl (Nat.zero_le _)
      rw [updTo_zero] at h78
      refine cgr_h20_s _ _ _ _ _ ?_
      unfold cgr_h20_t
      rw [decide_eq_true (show (opn reach l).length ≤ 1000000 by rw [opn_len]; omega), show ((opn reach l).any fun x => true == x) = true from ha]
      exact cgr_l34 reach cost (costF cost l) l l _ h hc hb ha h78 _ 0 rfl (Nat.zero_le _)
def greedyF (reach : List (List Bool)) (cost : List Int) : List Int := bif validF reach cost 200 200 != 0 then [] else isort (greedyTo reach cost (npc reach) [])
theorem cgr_con (reach : List (List Bool)) (cost : List Int) (hb : reach.length ≤ 9223372036854775807) : Con Try.prog 40 [.d (.sl (.sl .bool)) reach, .d (.sl (.int .i64)) cost] [.d (.sl (.int .i64)) (greedyF reach cost), .d (.int .i64) (bif validF reach cost 200 200 != 0 then 0 else costF cost (greedyTo reach cost (npc reach) [])), .d (.int .i64) (validF reach cost 200 200)] := by
  refine Ctx.Res.con (C := cgr_C) (ctx_ok env11_ok) ?_ (fn := Try.f40) (by kernel_rfl) (by kernel_rfl)
  refine cgr_s _ _ ?_
  unfold cgr_t greedyF
  rw [decide_eq_true (show reach.length ≤ 9223372036854775807 from hb)]
  dsimp only
  cases hv : (validF reach cost 200 200 != 0) with
  | true => exact ⟨0, rfl⟩
  | false =>
    have e : validF reach cost 200 200 = 0 := by simpa using hv
    have g := good_of_valid (t := 200) (p := 200) e
    have h := g.s3 (by omega) (by omega)
    rw [decide_eq_true h, e, ← opn_nil]
    exact cgr_l20 reach cost h g.len g.c _ [] (ginv_nil reach) (openTo_le reach [] (npc reach))
end Go.Proofs.Ytfkidjkpgliffaa
