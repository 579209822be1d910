/- choose: Prices of both sides. -/
import Derived.Test.YtfkidjkpgliffaaCh4
namespace Go.Proofs.Ytfkidjkpgliffaa
open Go.RowKit
def okP (c : Bool) (x : Int) : Bool := !decide (x < 0) && !decide (x > 2147483648) && !(decide (x > 0) && !c)
def sumTo (ps : List Int) (k : Nat) : Int := ((List.range k).map fun p => ps.getD p 0).sum
def paidTo (l : List Bool) (ps : List Int) (k : Nat) : Int := ((List.range k).map fun p => bif l.getD p false then ps.getD p 0 else 0).sum
theorem sumTo_succ (ps : List Int) (k : Nat) : sumTo ps (k + 1) = sumTo ps k + ps.getD k 0 := by simp [sumTo, List.range_succ]
theorem paidTo_succ (l : List Bool) (ps : List Int) (k : Nat) : paidTo l ps (k + 1) = paidTo l ps k + bif l.getD k false then ps.getD k 0 else 0 := by simp [paidTo, List.range_succ]
def okAt (reach : List (List Bool)) (ps : List Int) (p : Nat) : Bool := okP ((covF reach).getD p false) (ps.getD p 0)
def paidAt (reach : List (List Bool)) (cost ps : List Int) (t : Nat) : Bool := !decide (paidTo (reach.getD t []) ps (npc reach) > cost.getD t 0)
def okAll (reach : List (List Bool)) (ps : List Int) : Bool := (List.range (npc reach)).all (okAt reach ps)
def paidAll (reach : List (List Bool)) (cost ps : List Int) : Bool := (List.range reach.length).all (paidAt reach cost ps)
def fairF (reach : List (List Bool)) (cost ps : List Int) : Bool := decide (ps.length = npc reach) && (okAll reach ps && paidAll reach cost ps)
def priceR (s : Int) (b : Bool) : List RV := [.d (.int .i64) (bif b then s else 0), .d .bool b]
theorem okP_iff {c : Bool} {x : Int} (h : okP c x = true) : 0 ≤ x ∧ x ≤ 2147483648 ∧ (c = true ∨ x = 0) := by
  unfold okP at h
  rw [Bool.and_eq_true, Bool.and_eq_true] at h
  have h1 : ¬ x < 0 := by simpa using h.1.1
  have h2 : ¬ x > 2147483648 := by simpa using h.1.2
  refine ⟨by omega, by omega, ?_⟩
  have h3 := h.2
  cases c with
  | true => exact .inl rfl
  | false =>
    right
    have : ¬ x > 0 := by simpa using h3
    omega
theorem sumTo_bd {reach : List (List Bool)} {ps : List Int} : ∀ {k : Nat}, (∀ p < k, okAt reach ps p = true) → 0 ≤ sumTo ps k ∧ sumTo ps k ≤ k * 2147483648
  | 0, _ => by simp [sumTo]
  | k + 1, h => by
    have := sumTo_bd (k := k) fun p hp => h p (by omega)
    have := okP_iff (h k (by omega))
    rw [sumTo_succ]
    omega
theorem paidTo_bd {reach : List (List Bool)} {ps : List Int} (l : List Bool) : ∀ {k : Nat}, (∀ p < k, okAt reach ps p = true) → 0 ≤ paidTo l ps k ∧ paidTo l ps k ≤ k * 2147483648
  | 0, _ => by simp [paidTo]
  | k + 1, h => by
    have := paidTo_bd (k := k) l fun p hp => h p (by omega)
    have := okP_iff (h k (by omega))
    rw [paidTo_succ]
    cases l.getD k false with
    | true => simp only [cond_true]; omega
    | false => simp only [cond_false]; omega
theorem getD_get {α : Type} {xs : List α} {k : Nat} {d : α} (h : k < xs.length) : xs.getD k d = xs[k] := by simp [List.getD, h]
def env5 : Env := [(50, ccov_sp), (51, rcov_sp), (77, cpieces_sp), (78, rpieces_sp)]
theorem env5_ok : EnvAll Try.prog env5 := ⟨ccov_spec, rcov_spec, cpieces_spec, rpieces_spec, trivial⟩
def cpr_nt : NT := [((43, 18), { keep := [0, 1, 2, 8, 9, 24, 25, 26], hl := 1 }), ((43, 43), { keep := [1, 2, 9, 52, 53, 54], hl := 1 }), ((43, 60), { keep := [1, 2, 9, 12, 14, 52, 53, 54, 59, 60, 61], hl := 1 })]
noncomputable def cpr_C : Ctx := ⟨Try.prog, ft, tys, env5, cpr_nt⟩
def cpr_h18 (reach : List (List Bool)) (cost : List Int) (ps : List Int) (s9 : Int) (s26 : Int) : Cfg := ⟨43, [.blk 0, .seq 39], [(0, .d (.sl (.sl .bool)) reach), (1, .d (.sl (.int .i64)) cost), (2, .d (.sl (.int .i64)) ps), (8, .own 0), (9, SI s9), (24, .d (.sl (.int .i64)) ps), (25, SI (ps.length : Int)), (26, SI s26)], [.row 4 .bool (covF reach)], 0, []⟩
def cpr_h43 (reach : List (List Bool)) (cost : List Int) (ps : List Int) (s9 : Int) (s54 : Int) : Cfg := ⟨43, [.blk 2, .seq 85], [(1, .d (.sl (.int .i64)) cost), (2, .d (.sl (.int .i64)) ps), (9, SI s9), (52, .d (.sl (.sl .bool)) reach), (53, SI (reach.length : Int)), (54, SI s54)], [.row 4 .bool (covF reach)], 0, []⟩
def cpr_h60 (reach : List (List Bool)) (cost : List Int) (ps : List Int) (s9 : Int) (s54 : Int) (x3 : List Bool) (s14 : Int) (s61 : Int) : Cfg := ⟨43, [.blk 4, .seq 77, .blk 3, .seq 84, .lp 43, .blk 2, .seq 85], [(1, .d (.sl (.int .i64)) cost), (2, .d (.sl (.int .i64)) ps), (9, SI s9), (12, SI s54), (14, SI s14), (52, .d (.sl (.sl .bool)) reach), (53, SI (reach.length : Int)), (54, SI s54), (59, .d (.sl .bool) x3), (60, SI (x3.length : Int)), (61, SI s61)], [.row 4 .bool (covF reach)], 0, []⟩
def cpr_t (k : Nat → Cfg → Option (List RV)) (reach : List (List Bool)) (cost : List Int) (ps : List Int) : Option (List RV) := match (ps.length : Int) != (npc reach : Int) with | true => some [RV.d (.int .i64) 0, RV.d .bool false] | false => (match decide (small3 reach) with | true => k 18 (cpr_h18 reach cost ps 0 0) | false => none)
theorem cpr_eq (k : Nat → Cfg → Option (List RV)) (reach : List (List Bool)) (cost : List Int) (ps : List Int) : go Try.prog ft tys env5 cpr_nt k 4000 (start 43 [.d (.sl (.sl .bool)) reach, .d (.sl (.int .i64)) cost, .d (.sl (.int .i64)) ps]) (.node 0) = cpr_t k reach cost ps := by kernel_rfl
theorem cpr_s (reach : List (List Bool)) (cost : List Int) (ps : List Int) {r : List RV} (h : ∃ n, cpr_t (cpr_C.k n) reach cost ps = some r) : cpr_C.Res 43 [.d (.sl (.sl .bool)) reach, .d (.sl (.int .i64)) cost, .d (.sl (.int .i64)) ps] r := by
  obtain ⟨n, h⟩ := h
  exact ⟨n, (cpr_eq _ reach cost ps).trans h⟩
def cpr_h18_t (k : Nat → Cfg → Option (List RV)) (reach : List (List Bool)) (cost : List Int) (ps : List Int) (s9 : Int) (s26 : Int) : Option (List RV) := match decide (s26 < (ps.length : Int)) with | true => (match getI ps s26 with | some x1 => (match decide (x1 < 0) with | true => some [RV.d (.int .i64) 0, RV.d .bool false] | false => (match decide (x1 > 2147483648) with | true => some [RV.d (.int .i64) 0, RV.d .bool false] | false => (match decide (x1 > 0) with | true => (match getI (covF reach) s26 with | some _ => (match true, (covF reach)[(s26).toNat]? with | true, some x2 => (match !x2 with | true => some [RV.d (.int .i64) 0, RV.d .bool false] | false => k 18 (cpr_h18 reach cost ps (IntKind.i64.wrap (s9 + x1)) (IntKind.i64.wrap (s26 + 1)))) | _, _ => none) | none => none) | false => k 18 (cpr_h18 reach cost ps (IntKind.i64.wrap (s9 + x1)) (IntKind.i64.wrap (s26 + 1)))))) | none => none) | false => k 43 (cpr_h43 reach cost ps s9 0)
theorem cpr_h18_eq (k : Nat → Cfg → Option (List RV)) (reach : List (List Bool)) (cost : List Int) (ps : List Int) (s9 : Int) (s26 : Int) : go Try.prog ft tys env5 cpr_nt k 4000 { cpr_h18 reach cost ps s9 s26 with K := .lp 18 :: (cpr_h18 reach cost ps s9 s26).K } (.node 19) = cpr_h18_t k reach cost ps s9 s26 := by kernel_rfl
theorem cpr_h18_s (reach : List (List Bool)) (cost : List Int) (ps : List Int) (s9 : Int) (s26 : Int) {r : List RV} (h : ∃ n, cpr_h18_t (cpr_C.k n) reach cost ps s9 s26 = some r) : cpr_C.Runs 18 (cpr_h18 reach cost ps s9 s26) r := by
  obtain ⟨n, h⟩ := h
  exact ⟨n + 1, (cpr_h18_eq _ reach cost ps s9 s26).trans h⟩
def cpr_h43_t (k : Nat → Cfg → Option (List RV)) (reach : List (List Bool)) (cost : List Int) (ps : List Int) (s9 : Int) (s54 : Int) : Option (List RV) := match decide (s54 < (reach.length : Int)) with | true => (match getI reach s54 with | some x3 => k 60 (cpr_h60 reach cost ps s9 s54 x3 0 0) | none => none) | false => some [RV.d (.int .i64) s9, RV.d .bool true]
theorem cpr_h43_eq (k : Nat → Cfg → Option (List RV)) (reach : List (List Bool)) (cost : List Int) (ps : List Int) (s9 : Int) (s54 : Int) : go Try.prog ft tys env5 cpr_nt k 4000 { cpr_h43 reach cost ps s9 s54 with K := .lp 43 :: (cpr_h43 reach cost ps s9 s54).K } (.node 44) = cpr_h43_t k reach cost ps s9 s54 := by kernel_rfl
theorem cpr_h43_s (reach : List (List Bool)) (cost : List Int) (ps : List Int) (s9 : Int) (s54 : Int) {r : List RV} (h : ∃ n, cpr_h43_t (cpr_C.k n) reach cost ps s9 s54 = some r) : cpr_C.Runs 43 (cpr_h43 reach cost ps s9 s54) r := by
  obtain ⟨n, h⟩ := h
  exact ⟨n + 1, (cpr_h43_eq _ reach cost ps s9 s54).trans h⟩
def cpr_h60_t (k : Nat → Cfg → Option (List RV)) (reach : List (List Bool)) (cost : List Int) (ps : List Int) (s9 : Int) (s54 : Int) (x3 : List Bool) (s14 : Int) (s61 : Int) : Option (List RV) := match decide (s61 < (x3.length : Int)) with | true => (match getI x3 s61 with | some x4 => (match x4 with | true => (match getI ps s61 with | some x5 => k 60 (cpr_h60 reach cost ps s9 s54 x3 (IntKind.i64.wrap (s14 + x5)) (IntKind.i64.wrap (s61 + 1))) | none => none) | false => k 60 (cpr_h60 reach cost ps s9 s54 x3 s14 (IntKind.i64.wrap (s61 + 1)))) | none => none) | false => (match getI cost s54 with | some x6 => (match decide (s14 > x6) with | true => some [RV.d (.int .i64) 0, RV.d .bool false] | false => k 43 (cpr_h43 reach cost ps s9 (IntKind.i64.wrap (s54 + 1)))) | none => none)
theorem cpr_h60_eq (k : Nat → Cfg → Option (List RV)) (reach : List (List Bool)) (cost : List Int) (ps : List Int) (s9 : Int) (s54 : Int) (x3 : List Bool) (s14 : Int) (s61 : Int) : go Try.prog ft tys env5 cpr_nt k 4000 { cpr_h60 reach cost ps s9 s54 x3 s14 s61 with K := .lp 60 :: (cpr_h60 reach cost ps s9 s54 x3 s14 s61).K } (.node 61) = cpr_h60_t k reach cost ps s9 s54 x3 s14 s61 := by kernel_rfl
theorem cpr_h60_s (reach : List (List Bool)) (cost : List Int) (ps : List Int) (s9 : Int) (s54 : Int) (x3 : List Bool) (s14 : Int) (s61 : Int) {r : List RV} (h : ∃ n, cpr_h60_t (cpr_C.k n) reach cost ps s9 s54 x3 s14 s61 = some r) : cpr_C.Runs 60 (cpr_h60 reach cost ps s9 s54 x3 s14 s61) r := by
  obtain ⟨n, h⟩ := h
  exact ⟨n + 1, (cpr_h60_eq _ reach cost ps s9 s54 x3 s14 s61).trans h⟩
def rpr_nt : NT := [((44, 18), { keep := [0, 1, 2, 8, 9, 10], hl := 1 }), ((44, 41), { keep := [0, 1, 2, 9, 11], hl := 1 }), ((44, 56), { keep := [0, 1, 2, 9, 11, 12, 13], hl := 1 })]
noncomputable def rpr_C : Ctx := ⟨Try.prog, ft, tys, env5, rpr_nt⟩
def rpr_h18 (reach : List (List Bool)) (cost : List Int) (ps : List Int) (s9 : Int) (s10 : Int) : Cfg := ⟨44, [.blk 0, .seq 37], [(0, .d (.sl (.sl .bool)) reach), (1, .d (.sl (.int .i64)) cost), (2, .d (.sl (.int .i64)) ps), (8, .own 0), (9, SI s9), (10, SI s10)], [.row 4 .bool (covF reach)], 0, []⟩
def rpr_h41 (reach : List (List Bool)) (cost : List Int) (ps : List Int) (s9 : Int) (s11 : Int) : Cfg := ⟨44, [.blk 2, .seq 79], [(0, .d (.sl (.sl .bool)) reach), (1, .d (.sl (.int .i64)) cost), (2, .d (.sl (.int .i64)) ps), (9, SI s9), (11, SI s11)], [.row 4 .bool (covF reach)], 0, []⟩
def rpr_h56 (reach : List (List Bool)) (cost : List Int) (ps : List Int) (s9 : Int) (s11 : Int) (s12 : Int) (s13 : Int) : Cfg := ⟨44, [.blk 4, .seq 71, .blk 3, .seq 78, .lp 41, .blk 2, .seq 79], [(0, .d (.sl (.sl .bool)) reach), (1, .d (.sl (.int .i64)) cost), (2, .d (.sl (.int .i64)) ps), (9, SI s9), (11, SI s11), (12, SI s12), (13, SI s13)], [.row 4 .bool (covF reach)], 0, []⟩
def rpr_t (k : Nat → Cfg → Option (List RV)) (reach : List (List Bool)) (cost : List Int) (ps : List Int) : Option (List RV) := match (ps.length : Int) != (npc reach : Int) with | true => some [RV.d (.int .i64) 0, RV.d .bool false] | false => (match decide (small3 reach) with | true => k 18 (rpr_h18 reach cost ps 0 0) | false => none)
theorem rpr_eq (k : Nat → Cfg → Option (List RV)) (reach : List (List Bool)) (cost : List Int) (ps : List Int) : go Try.prog ft tys env5 rpr_nt k 4000 (start 44 [.d (.sl (.sl .bool)) reach, .d (.sl (.int .i64)) cost, .d (.sl (.int .i64)) ps]) (.node 0) = rpr_t k reach cost ps := by kernel_rfl
theorem rpr_s (reach : List (List Bool)) (cost : List Int) (ps : List Int) {r : List RV} (h : ∃ n, rpr_t (rpr_C.k n) reach cost ps = some r) : rpr_C.Res 44 [.d (.sl (.sl .bool)) reach, .d (.sl (.int .i64)) cost, .d (.sl (.int .i64)) ps] r := by
  obtain ⟨n, h⟩ := h
  exact ⟨n, (rpr_eq _ reach cost ps).trans h⟩
def rpr_h18_t (k : Nat → Cfg → Option (List RV)) (reach : List (List Bool)) (cost : List Int) (ps : List Int) (s9 : Int) (s10 : Int) : Option (List RV) := match decide (s10 < (ps.length : Int)) with | true => (match getI ps s10 with | some x1 => (match decide (x1 < 0) with | true => some [RV.d (.int .i64) 0, RV.d .bool false] | false => (match getI ps s10 with | some x2 => (match decide (x2 > 2147483648) with | true => some [RV.d (.int .i64) 0, RV.d .bool false] | false => (match getI (covF reach) s10 with | some _ => (match true, (covF reach)[(s10).toNat]? with | true, some x3 => (match !x3 with | true => (match getI ps s10 with | some x4 => (match x4 != 0 with | true => some [RV.d (.int .i64) 0, RV.d .bool false] | false => (match getI ps s10 with | some x5 => k 18 (rpr_h18 reach cost ps (IntKind.i64.wrap (s9 + x5)) (IntKind.i64.wrap (s10 + 1))) | none => none)) | none => none) | false => (match getI ps s10 with | some x6 => k 18 (rpr_h18 reach cost ps (IntKind.i64.wrap (s9 + x6)) (IntKind.i64.wrap (s10 + 1))) | none => none)) | _, _ => none) | none => none)) | none => none)) | none => none) | false => k 41 (rpr_h41 reach cost ps s9 0)
theorem rpr_h18_eq (k : Nat → Cfg → Option (List RV)) (reach : List (List Bool)) (cost : List Int) (ps : List Int) (s9 : Int) (s10 : Int) : go Try.prog ft tys env5 rpr_nt k 4000 { rpr_h18 reach cost ps s9 s10 with K := .lp 18 :: (rpr_h18 reach cost ps s9 s10).K } (.node 19) = rpr_h18_t k reach cost ps s9 s10 := by kernel_rfl
theorem rpr_h18_s (reach : List (List Bool)) (cost : List Int) (ps : List Int) (s9 : Int) (s10 : Int) {r : List RV} (h : ∃ n, rpr_h18_t (rpr_C.k n) reach cost ps s9 s10 = some r) : rpr_C.Runs 18 (rpr_h18 reach cost ps s9 s10) r := by
  obtain ⟨n, h⟩ := h
  exact ⟨n + 1, (rpr_h18_eq _ reach cost ps s9 s10).trans h⟩
def rpr_h41_t (k : Nat → Cfg → Option (List RV)) (reach : List (List Bool)) (cost : List Int) (ps : List Int) (s9 : Int) (s11 : Int) : Option (List RV) := match decide (s11 < (reach.length : Int)) with | true => k 56 (rpr_h56 reach cost ps s9 s11 0 0) | false => some [RV.d (.int .i64) s9, RV.d .bool true]
theorem rpr_h41_eq (k : Nat → Cfg → Option (List RV)) (reach : List (List Bool)) (cost : List Int) (ps : List Int) (s9 : Int) (s11 : Int) : go Try.prog ft tys env5 rpr_nt k 4000 { rpr_h41 reach cost ps s9 s11 with K := .lp 41 :: (rpr_h41 reach cost ps s9 s11).K } (.node 42) = rpr_h41_t k reach cost ps s9 s11 := by kernel_rfl
theorem rpr_h41_s (reach : List (List Bool)) (cost : List Int) (ps : List Int) (s9 : Int) (s11 : Int) {r : List RV} (h : ∃ n, rpr_h41_t (rpr_C.k n) reach cost ps s9 s11 = some r) : rpr_C.Runs 41 (rpr_h41 reach cost ps s9 s11) r := by
  obtain ⟨n, h⟩ := h
  exact ⟨n + 1, (rpr_h41_eq _ reach cost ps s9 s11).trans h⟩
def rpr_h56_t (k : Nat → Cfg → Option (List RV)) (reach : List (List Bool)) (cost : List Int) (ps : List Int) (s9 : Int) (s11 : Int) (s12 : Int) (s13 : Int) : Option (List RV) := match decide (s13 < (ps.length : Int)) with | true => (match getI reach s11 with | some x7 => (match getI x7 s13 with | some x8 => (match x8 with | true => (match getI ps s13 with | some x9 => k 56 (rpr_h56 reach cost ps s9 s11 (IntKind.i64.wrap (s12 + x9)) (IntKind.i64.wrap (s13 + 1))) | none => none) | false => k 56 (rpr_h56 reach cost ps s9 s11 s12 (IntKind.i64.wrap (s13 + 1)))) | none => none) | none => none) | false => (match getI cost s11 with | some x10 => (match decide (s12 > x10) with | true => some [RV.d (.int .i64) 0, RV.d .bool false] | false => k 41 (rpr_h41 reach cost ps s9 (IntKind.i64.wrap (s11 + 1)))) | none => none)
theorem rpr_h56_eq (k : Nat → Cfg → Option (List RV)) (reach : List (List Bool)) (cost : List Int) (ps : List Int) (s9 : Int) (s11 : Int) (s12 : Int) (s13 : Int) : go Try.prog ft tys env5 rpr_nt k 4000 { rpr_h56 reach cost ps s9 s11 s12 s13 with K := .lp 56 :: (rpr_h56 reach cost ps s9 s11 s12 s13).K } (.node 57) = rpr_h56_t k reach cost ps s9 s11 s12 s13 := by kernel_rfl
theorem rpr_h56_s (reach : List (List Bool)) (cost : List Int) (ps : List Int) (s9 : Int) (s11 : Int) (s12 : Int) (s13 : Int) {r : List RV} (h : ∃ n, rpr_h56_t (rpr_C.k n) reach cost ps s9 s11 s12 s13 = some r) : rpr_C.Runs 56 (rpr_h56 reach cost ps s9 s11 s12 s13) r := by
  obtain ⟨n, h⟩ := h
  exact ⟨n + 1, (rpr_h56_eq _ reach cost ps s9 s11 s12 s13).trans h⟩
theorem cpr_in (reach : List (List Bool)) (cost ps : List Int) (s : Int) (t : Nat) (l : List Bool) (r : List RV) (ht : t < reach.length) (hlr : reach.getD t [] = l) (hl : l.length = npc reach) (hp : ps.length = npc reach) (hs : npc reach ≤ 1000) (hc : cost.length = reach.length) (ok : ∀ p < npc reach, okAt reach ps p = true)
    (hb : paidAt reach cost ps t = false → r = priceR s false) (hg : paidAt reach cost ps t = true → cpr_C.Runs 43 (cpr_h43 reach cost ps s (IntKind.i64.wrap ((t : Int) + 1))) r) :
    ∀ d k, npc reach - k = d → k ≤ npc reach → cpr_C.Runs 60 (cpr_h60 reach cost ps s (t : Int) l (paidTo l ps k) (k : Int)) r := by
  intro d
  induction d with
  | zero =>
    intro k hd hk
    refine cpr_h60_s _ _ _ _ _ _ _ _ ?_
    unfold cpr_h60_t
    rw [ge_dec (by omega)]
    dsimp only
    rw [getI_nat, List.getElem?_eq_getElem (show t < cost.length by omega), show k = npc reach by omega]
    have e : decide (paidTo l ps (npc reach) > cost[t]) = !paidAt reach cost ps t := by unfold paidAt; rw [hlr, getD_get (by omega), Bool.not_not]
    dsimp only
    rw [e]
    cases hx : paidAt reach cost ps t with
    | false => rw [hb hx]; exact ⟨0, rfl⟩
    | true => exact hg hx
  | succ d ih =>
    intro k hd hk
    have h1 : k < l.length := by omega
    have h2 : k < ps.length := by omega
    have hn := ih (k + 1) (by omega) (by omega)
    have bd := paidTo_bd (reach := reach) (ps := ps) l (k := k + 1) fun p hp => ok p (by omega)
    rw [paidTo_succ, getD_get h1, getD_get h2] at hn bd
    refine cpr_h60_s _ _ _ _ _ _ _ _ ?_
    unfold cpr_h60_t
    rw [lt_dec (by omega)]
    dsimp only
    rw [getI_nat, List.getElem?_eq_getElem h1]
    dsimp only
    cases hx : l[k] with
    | true =>
      rw [hx] at hn bd
      simp only [cond_true] at hn bd
      dsimp only
      rw [getI_nat, List.getElem?_eq_getElem h2, wrapS (by omega)]
      dsimp only
      rw [wrap64 (by omega) (by omega)]
      exact hn
    | false =>
      rw [hx] at hn
      simp only [cond_false, Int.add_zero] at hn
      dsimp only
      rw [wrapS (by omega)]
      exact hn
theorem cpr_mid (reach : List (List Bool)) (cost ps : List Int) (s : Int) (h : small3 reach) (hp : ps.length = npc reach) (hc : cost.length = reach.length) (ok : ∀ p < npc reach, okAt reach ps p = true) : ∀ d k, reach.length - k = d → k ≤ reach.length → cpr_C.Runs 43 (cpr_h43 reach cost ps s (k : Int)) (priceR s (((List.range reach.length).drop k).all (paidAt reach cost ps))) := by
  have h1 := h.1
  have h2 := h.2.1
  intro d
  induction d with
  | zero =>
    intro k hd hk
    refine cpr_h43_s _ _ _ _ _ ⟨0, ?_⟩
    unfold cpr_h43_t
    rw [ge_dec (by omega), drop_end (by simp; omega)]
    rfl
  | succ d ih =>
    intro k hd hk
    have hlt : k < reach.length := by omega
    have hr := h.rect _ (List.getElem_mem hlt)
    refine cpr_h43_s _ _ _ _ _ ?_
    unfold cpr_h43_t
    rw [lt_dec hlt, getI_nat, List.getElem?_eq_getElem hlt, drop_get (show k < (List.range reach.length).length by simpa using hlt), List.all_cons, List.getElem_range]
    have hn := ih (k + 1) (by omega) (by omega)
    rw [← wrapS (show k + 1 ≤ 9223372036854775807 by omega)] at hn
    exact cpr_in reach cost ps s k reach[k] _ hlt (getD_get hlt) hr hp h2 hc ok (fun e => by rw [e]; rfl) (fun e => by rw [e]; exact hn) _ 0 rfl (Nat.zero_le _)
theorem cpr_out (reach : List (List Bool)) (cost ps : List Int) (h : small3 reach) (hp : ps.length = npc reach) (hc : cost.length = reach.length) : ∀ d k, npc reach - k = d → k ≤ npc reach → (∀ p < k, okAt reach ps p = true) → cpr_C.Runs 18 (cpr_h18 reach cost ps (sumTo ps k) (k : Int)) (priceR (sumTo ps (npc reach)) (((List.range (npc reach)).drop k).all (okAt reach ps) && paidAll reach cost ps)) := by
  have h1 := h.1
  have h2 := h.2.1
  intro d
  induction d with
  | zero =>
    intro k hd hk ok
    refine cpr_h18_s _ _ _ _ _ ?_
    unfold cpr_h18_t
    rw [ge_dec (by omega), drop_end (by simp; omega), show k = npc reach by omega]
    exact cpr_mid reach cost ps _ h hp hc (fun p hp => ok p (by omega)) _ 0 rfl (Nat.zero_le _)
  | succ d ih =>
    intro k hd hk ok
    have hlt : k < ps.length := by omega
    have hlc : k < (covF reach).length := by rw [covF_len]; omega
    have hn := ih (k + 1) (by omega) (by omega)
    refine cpr_h18_s _ _ _ _ _ ?_
    unfold cpr_h18_t
    rw [lt_dec hlt, getI_nat, getI_nat, toNat_nat, List.getElem?_eq_getElem hlt, List.getElem?_eq_getElem hlc, drop_get (show k < (List.range (npc reach)).length by simp; omega), List.all_cons, List.getElem_range, wrapS (by omega)]
    have ek : okAt reach ps k = (!decide (ps[k] < 0) && !decide (ps[k] > 2147483648) && !(decide (ps[k] > 0) && !(covF reach)[k])) := by unfold okAt okP; rw [getD_get hlt, getD_get hlc]
    have go : okAt reach ps k = true → cpr_C.Runs 18 (cpr_h18 reach cost ps (IntKind.i64.wrap (sumTo ps k + ps[k])) ((k + 1 : Nat) : Int)) (priceR (sumTo ps (npc reach)) (((List.range (npc reach)).drop (k + 1)).all (okAt reach ps) && paidAll reach cost ps)) := by
      intro e
      have hn := hn (fun p hp => if hpk : p = k then by rw [hpk]; exact e else ok p (by omega))
      have bd := sumTo_bd (reach := reach) (ps := ps) (k := k + 1) (fun p hp => if hpk : p = k then by rw [hpk]; exact e else ok p (by omega))
      rw [sumTo_succ, getD_get hlt] at hn bd
      rw [wrap64 (by omega) (by omega)]
      exact hn
    dsimp only
    rw [ek] at go ⊢
    cases c1 : decide (ps[k] < 0) with
    | true => exact ⟨0, rfl⟩
    | false =>
      cases c2 : decide (ps[k] > 2147483648) with
      | true => exact ⟨0, rfl⟩
      | false =>
        cases c3 : decide (ps[k] > 0) with
        | false => rw [c1, c2, c3] at go; exact go rfl
        | true =>
          cases c4 : (covF reach)[k] with
          | true => rw [c1, c2, c3, c4] at go; exact go rfl
          | false => exact ⟨0, rfl⟩
theorem cpr_con (reach : List (List Bool)) (cost ps : List Int) (h : small3 reach ∧ cost.length = reach.length) : Con Try.prog 43 [.d (.sl (.sl .bool)) reach, .d (.sl (.int .i64)) cost, .d (.sl (.int .i64)) ps] (priceR (sumTo ps (npc reach)) (fairF reach cost ps)) := by
  refine Ctx.Res.con (C := cpr_C) (ctx_ok env5_ok) ?_ (fn := Try.f43) (by kernel_rfl) (by kernel_rfl)
  refine cpr_s _ _ _ ?_
  unfold cpr_t fairF
  rw [decide_eq_true h.1]
  by_cases hp : ps.length = npc reach
  · rw [decide_eq_true hp, show ((ps.length : Int) != (npc reach : Int)) = false by simp [hp]]
    exact cpr_out reach cost ps h.1 hp h.2 _ 0 rfl (Nat.zero_le _) (fun p hp => by omega)
  · rw [decide_eq_false hp, show ((ps.length : Int) != (npc reach : Int)) = true by simp; omega]
    exact ⟨0, rfl⟩
theorem rpr_in (reach : List (List Bool)) (cost ps : List Int) (s : Int) (t : Nat) (l : List Bool) (r : List RV) (ht : t < reach.length) (hlr : reach.getD t [] = l) (hl : l.length = npc reach) (hp : ps.length = npc reach) (hs : npc reach ≤ 1000) (hc : cost.length = reach.length) (ok : ∀ p < npc reach, okAt reach ps p = true)
    (hb : paidAt reach cost ps t = false → r = priceR s false) (hg : paidAt reach cost ps t = true → rpr_C.Runs 41 (rpr_h41 reach cost ps s (IntKind.i64.wrap ((t : Int) + 1))) r) :
    ∀ d k, npc reach - k = d → k ≤ npc reach → rpr_C.Runs 56 (rpr_h56 reach cost ps s (t : Int) (paidTo l ps k) (k : Int)) r := by
  intro d
  induction d with
  | zero =>
    intro k hd hk
    refine rpr_h56_s _ _ _ _ _ _ _ ?_
    unfold rpr_h56_t
    rw [ge_dec (by omega)]
    dsimp only
    rw [getI_nat, List.getElem?_eq_getElem (show t < cost.length by omega), show k = npc reach by omega]
    have e : decide (paidTo l ps (npc reach) > cost[t]) = !paidAt reach cost ps t := by unfold paidAt; rw [hlr, getD_get (by omega), Bool.not_not]
    dsimp only
    rw [e]
    cases hx : paidAt reach cost ps t with
    | false => rw [hb hx]; exact ⟨0, rfl⟩
    | true => exact hg hx
  | succ d ih =>
    intro k hd hk
    have h1 : k < l.length := by omega
    have h2 : k < ps.length := by omega
    have hn := ih (k + 1) (by omega) (by omega)
    have bd := paidTo_bd (reach := reach) (ps := ps) l (k := k + 1) fun p hp => ok p (by omega)
    rw [paidTo_succ, getD_get h1, getD_get h2] at hn bd
    refine rpr_h56_s _ _ _ _ _ _ _ ?_
    unfold rpr_h56_t
    rw [lt_dec (by omega), getI_nat, List.getElem?_eq_getElem ht]
    dsimp only
    rw [show reach[t] = l by rw [← hlr, getD_get ht], getI_nat, List.getElem?_eq_getElem h1]
    dsimp only
    cases hx : l[k] with
    | true =>
      rw [hx] at hn bd
      simp only [cond_true] at hn bd
      dsimp only
      rw [getI_nat, List.getElem?_eq_getElem h2, wrapS (by omega)]
      dsimp only
      rw [wrap64 (by omega) (by omega)]
      exact hn
    | false =>
      rw [hx] at hn
      simp only [cond_false, Int.add_zero] at hn
      dsimp only
      rw [wrapS (by omega)]
      exact hn
theorem rpr_mid (reach : List (List Bool)) (cost ps : List Int) (s : Int) (h : small3 reach) (hp : ps.length = npc reach) (hc : cost.length = reach.length) (ok : ∀ p < npc reach, okAt reach ps p = true) : ∀ d k, reach.length - k = d → k ≤ reach.length → rpr_C.Runs 41 (rpr_h41 reach cost ps s (k : Int)) (priceR s (((List.range reach.length).drop k).all (paidAt reach cost ps))) := by
  have h1 := h.1
  have h2 := h.2.1
  intro d
  induction d with
  | zero =>
    intro k hd hk
    refine rpr_h41_s _ _ _ _ _ ⟨0, ?_⟩
    unfold rpr_h41_t
    rw [ge_dec (by omega), drop_end (by simp; omega)]
    rfl
  | succ d ih =>
    intro k hd hk
    have hlt : k < reach.length := by omega
    have hr := h.rect _ (List.getElem_mem hlt)
    refine rpr_h41_s _ _ _ _ _ ?_
    unfold rpr_h41_t
    rw [lt_dec hlt, drop_get (show k < (List.range reach.length).length by simpa using hlt), List.all_cons, List.getElem_range]
    have hn := ih (k + 1) (by omega) (by omega)
    rw [← wrapS (show k + 1 ≤ 9223372036854775807 by omega)] at hn
    exact rpr_in reach cost ps s k reach[k] _ hlt (getD_get hlt) hr hp h2 hc ok (fun e => by rw [e]; rfl) (fun e => by rw [e]; exact hn) _ 0 rfl (Nat.zero_le _)
theorem rpr_out (reach : List (List Bool)) (cost ps : List Int) (h : small3 reach) (hp : ps.length = npc reach) (hc : cost.length = reach.length) : ∀ d k, npc reach - k = d → k ≤ npc reach → (∀ p < k, okAt reach ps p = true) → rpr_C.Runs 18 (rpr_h18 reach cost ps (sumTo ps k) (k : Int)) (priceR (sumTo ps (npc reach)) (((List.range (npc reach)).drop k).all (okAt reach ps) && paidAll reach cost ps)) := by
  have h1 := h.1
  have h2 := h.2.1
  intro d
  induction d with
  | zero =>
    intro k hd hk ok
    refine rpr_h18_s _ _ _ _ _ ?_
    unfold rpr_h18_t
    rw [ge_dec (by omega), drop_end (by simp; omega), show k = npc reach by omega]
    exact rpr_mid reach cost ps _ h hp hc (fun p hp => ok p (by omega)) _ 0 rfl (Nat.zero_le _)
  | succ d ih =>
    intro k hd hk ok
    have hlt : k < ps.length := by omega
    have hlc : k < (covF reach).length := by rw [covF_len]; omega
    have hn := ih (k + 1) (by omega) (by omega)
    refine rpr_h18_s _ _ _ _ _ ?_
    unfold rpr_h18_t
    rw [lt_dec hlt, getI_nat, getI_nat, toNat_nat, List.getElem?_eq_getElem hlt, List.getElem?_eq_getElem hlc, drop_get (show k < (List.range (npc reach)).length by simp; omega), List.all_cons, List.getElem_range, wrapS (by omega)]
    have ek : okAt reach ps k = (!decide (ps[k] < 0) && !decide (ps[k] > 2147483648) && !(decide (ps[k] > 0) && !(covF reach)[k])) := by unfold okAt okP; rw [getD_get hlt, getD_get hlc]
    have go : okAt reach ps k = true → rpr_C.Runs 18 (rpr_h18 reach cost ps (IntKind.i64.wrap (sumTo ps k + ps[k])) ((k + 1 : Nat) : Int)) (priceR (sumTo ps (npc reach)) (((List.range (npc reach)).drop (k + 1)).all (okAt reach ps) && paidAll reach cost ps)) := by
      intro e
      have hn := hn (fun p hp => if hpk : p = k then by rw [hpk]; exact e else ok p (by omega))
      have bd := sumTo_bd (reach := reach) (ps := ps) (k := k + 1) (fun p hp => if hpk : p = k then by rw [hpk]; exact e else ok p (by omega))
      rw [sumTo_succ, getD_get hlt] at hn bd
      rw [wrap64 (by omega) (by omega)]
      exact hn
    dsimp only
    rw [ek] at go ⊢
    cases c1 : decide (ps[k] < 0) with
    | true => exact ⟨0, rfl⟩
    | false =>
      cases c2 : decide (ps[k] > 2147483648) with
      | true => exact ⟨0, rfl⟩
      | false =>
        have i0 := of_decide_eq_false c1
        cases c4 : (covF reach)[k] with
        | true =>
          cases c3 : decide (ps[k] > 0) with
          | true => rw [c1, c2, c3, c4] at go; exact go rfl
          | false => rw [c1, c2, c3] at go; exact go rfl
        | false =>
          cases c3 : decide (ps[k] > 0) with
          | true =>
            have := of_decide_eq_true c3
            dsimp only [Bool.not_false]
            rw [show (ps[k] != 0) = true by simp; omega]
            exact ⟨0, rfl⟩
          | false =>
            have := of_decide_eq_false c3
            rw [c1, c2, c3] at go
            dsimp only [Bool.not_false]
            rw [show (ps[k] != 0) = false by simp; omega]
            exact go rfl
theorem rpr_con (reach : List (List Bool)) (cost ps : List Int) (h : small3 reach ∧ cost.length = reach.length) : Con Try.prog 44 [.d (.sl (.sl .bool)) reach, .d (.sl (.int .i64)) cost, .d (.sl (.int .i64)) ps] (priceR (sumTo ps (npc reach)) (fairF reach cost ps)) := by
  refine Ctx.Res.con (C := rpr_C) (ctx_ok env5_ok) ?_ (fn := Try.f44) (by kernel_rfl) (by kernel_rfl)
  refine rpr_s _ _ _ ?_
  unfold rpr_t fairF
  rw [decide_eq_true h.1]
  by_cases hp : ps.length = npc reach
  · rw [decide_eq_true hp, show ((ps.length : Int) != (npc reach : Int)) = false by simp [hp]]
    exact rpr_out reach cost ps h.1 hp h.2 _ 0 rfl (Nat.zero_le _) (fun p hp => by omega)
  · rw [decide_eq_false hp, show ((ps.length : Int) != (npc reach : Int)) = true by simp; omega]
    exact ⟨0, rfl⟩
end Go.Proofs.Ytfkidjkpgliffaa
