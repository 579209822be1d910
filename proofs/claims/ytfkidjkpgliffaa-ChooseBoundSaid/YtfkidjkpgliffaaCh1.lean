/- choose.Valid and the reference's. -/
import Derived.Test.YtfkidjkpgliffaaPuT
import Derived.Test.YtfkidjkpgliffaaPuW
import Derived.Test.YtfkidjkpgliffaaEnvKit
namespace Go.Proofs.Ytfkidjkpgliffaa
open Go.RowKit
def large_nt : NT := [((123, 6), { keep := [0, 1, 7, 8], hl := 1 })]
noncomputable def large_C : Ctx := ⟨Try.prog, ft, tys, [], large_nt⟩
def large_h123_6 (reach : List (List Bool)) (tools : Int) (pieces : Int) (s123_8 : Int) : Cfg := ⟨123, [.blk 0, .seq 25], [(0, .d (.sl (.sl .bool)) reach), (1, .clo 107 [0]), (7, SI (reach.length : Int)), (8, SI s123_8)], [.box 3 [SI pieces]], 1, [⟨106, [.seq 4], 3, 2, [(6, .clo 107 [0]), (5, .d (.sl (.sl .bool)) reach), (4, SB false), (0, .d (.sl (.sl .bool)) reach), (1, .clo 107 [0])], 1⟩, ⟨89, [.seq 4], 3, 7, [(11, SB false), (13, .clo 107 [0]), (12, .d (.sl (.sl .bool)) reach), (10, SB (decide ((reach.length : Int) > tools))), (9, SI tools), (8, SI (reach.length : Int)), (7, .d (.sl (.sl .bool)) reach), (6, SB false), (5, .box 0 0), (0, .d (.sl (.sl .bool)) reach), (1, SI tools), (2, SI pieces)], 0⟩]⟩
def large_t (k : Nat → Cfg → Option (List RV)) (reach : List (List Bool)) (tools : Int) (pieces : Int) : Option (List RV) := match decide ((reach.length : Int) > tools) with | true => some [RV.d .bool true] | false => k 6 (large_h123_6 reach tools pieces 0)
theorem large_eq (k : Nat → Cfg → Option (List RV)) (reach : List (List Bool)) (tools : Int) (pieces : Int) : go Try.prog ft tys [] large_nt k 4000 (start 89 [.d (.sl (.sl .bool)) reach, SI tools, SI pieces]) (.node 0) = large_t k reach tools pieces := by kernel_rfl
theorem large_s (reach : List (List Bool)) (tools : Int) (pieces : Int) {r : List RV} (h : ∃ n, large_t (large_C.k n) reach tools pieces = some r) : large_C.Res 89 [.d (.sl (.sl .bool)) reach, SI tools, SI pieces] r := by
  obtain ⟨n, h⟩ := h
  exact ⟨n, (large_eq _ reach tools pieces).trans h⟩
def large_h123_6_t (k : Nat → Cfg → Option (List RV)) (reach : List (List Bool)) (tools : Int) (pieces : Int) (s123_8 : Int) : Option (List RV) := match decide (s123_8 < (reach.length : Int)) with | true => (match getI reach s123_8 with | some x1 => (match decide ((x1.length : Int) > pieces) with | true => some [RV.d .bool (decide (s123_8 ≥ 0))] | false => k 6 (large_h123_6 reach tools pieces (IntKind.i64.wrap (s123_8 + 1)))) | none => none) | false => some [RV.d .bool (decide ((-1) ≥ 0))]
theorem large_h123_6_eq (k : Nat → Cfg → Option (List RV)) (reach : List (List Bool)) (tools : Int) (pieces : Int) (s123_8 : Int) : go Try.prog ft tys [] large_nt k 4000 { large_h123_6 reach tools pieces s123_8 with K := .lp 6 :: (large_h123_6 reach tools pieces s123_8).K } (.node 7) = large_h123_6_t k reach tools pieces s123_8 := by kernel_rfl
theorem large_h123_6_s (reach : List (List Bool)) (tools : Int) (pieces : Int) (s123_8 : Int) {r : List RV} (h : ∃ n, large_h123_6_t (large_C.k n) reach tools pieces s123_8 = some r) : large_C.Runs 6 (large_h123_6 reach tools pieces s123_8) r := by
  obtain ⟨n, h⟩ := h
  exact ⟨n + 1, (large_h123_6_eq _ reach tools pieces s123_8).trans h⟩
def small_nt : NT := [((34, 14), { keep := [0, 3, 9], hl := 0 })]
noncomputable def small_C : Ctx := ⟨Try.prog, ft, tys, [], small_nt⟩
def small_h14 (reach : List (List Bool)) (pieces : Int) (s9 : Int) : Cfg := ⟨34, [.blk 0, .seq 31], [(0, .d (.sl (.sl .bool)) reach), (3, SI pieces), (9, SI s9)], [], 0, []⟩
def small_t (k : Nat → Cfg → Option (List RV)) (reach : List (List Bool)) (cost : List Int) (tools : Int) (pieces : Int) : Option (List RV) := match decide ((reach.length : Int) > tools) with | true => some [RV.d .bool false] | false => (match decide ((cost.length : Int) > (IntKind.i64.wrap (tools + 1))) with | true => some [RV.d .bool false] | false => k 14 (small_h14 reach pieces 0))
theorem small_eq (k : Nat → Cfg → Option (List RV)) (reach : List (List Bool)) (cost : List Int) (tools : Int) (pieces : Int) : go Try.prog ft tys [] small_nt k 4000 (start 34 [.d (.sl (.sl .bool)) reach, .d (.sl (.int .i64)) cost, SI tools, SI pieces]) (.node 0) = small_t k reach cost tools pieces := by kernel_rfl
theorem small_s (reach : List (List Bool)) (cost : List Int) (tools : Int) (pieces : Int) {r : List RV} (h : ∃ n, small_t (small_C.k n) reach cost tools pieces = some r) : small_C.Res 34 [.d (.sl (.sl .bool)) reach, .d (.sl (.int .i64)) cost, SI tools, SI pieces] r := by
  obtain ⟨n, h⟩ := h
  exact ⟨n, (small_eq _ reach cost tools pieces).trans h⟩
def small_h14_t (k : Nat → Cfg → Option (List RV)) (reach : List (List Bool)) (pieces : Int) (s9 : Int) : Option (List RV) := match decide (s9 < (reach.length : Int)) with | true => (match getI reach s9 with | some x1 => (match decide ((x1.length : Int) > pieces) with | true => some [RV.d .bool false] | false => k 14 (small_h14 reach pieces (IntKind.i64.wrap (s9 + 1)))) | none => none) | false => some [RV.d .bool true]
theorem small_h14_eq (k : Nat → Cfg → Option (List RV)) (reach : List (List Bool)) (pieces : Int) (s9 : Int) : go Try.prog ft tys [] small_nt k 4000 { small_h14 reach pieces s9 with K := .lp 14 :: (small_h14 reach pieces s9).K } (.node 15) = small_h14_t k reach pieces s9 := by kernel_rfl
theorem small_h14_s (reach : List (List Bool)) (pieces : Int) (s9 : Int) {r : List RV} (h : ∃ n, small_h14_t (small_C.k n) reach pieces s9 = some r) : small_C.Runs 14 (small_h14 reach pieces s9) r := by
  obtain ⟨n, h⟩ := h
  exact ⟨n + 1, (small_h14_eq _ reach pieces s9).trans h⟩
def rvalid_nt : NT := [((36, 14), { keep := [0, 1, 3, 9], hl := 0 }), ((36, 43), { keep := [0, 1, 10], hl := 0 })]
noncomputable def rvalid_C : Ctx := ⟨Try.prog, ft, tys, [], rvalid_nt⟩
def rvalid_h14 (reach : List (List Bool)) (cost : List Int) (pieces : Int) (s9 : Int) : Cfg := ⟨36, [.blk 0, .seq 31], [(0, .d (.sl (.sl .bool)) reach), (1, .d (.sl (.int .i64)) cost), (3, SI pieces), (9, SI s9)], [], 0, []⟩
def rvalid_h43 (reach : List (List Bool)) (cost : List Int) (s10 : Int) : Cfg := ⟨36, [.blk 2, .seq 60], [(0, .d (.sl (.sl .bool)) reach), (1, .d (.sl (.int .i64)) cost), (10, SI s10)], [], 0, []⟩
def rvalid_t (k : Nat → Cfg → Option (List RV)) (reach : List (List Bool)) (cost : List Int) (tools : Int) (pieces : Int) : Option (List RV) := match decide ((reach.length : Int) > tools) with | true => some [RV.d (.int .i64) 3] | false => k 14 (rvalid_h14 reach cost pieces 0)
theorem rvalid_eq (k : Nat → Cfg → Option (List RV)) (reach : List (List Bool)) (cost : List Int) (tools : Int) (pieces : Int) : go Try.prog ft tys [] rvalid_nt k 4000 (start 36 [.d (.sl (.sl .bool)) reach, .d (.sl (.int .i64)) cost, SI tools, SI pieces]) (.node 0) = rvalid_t k reach cost tools pieces := by kernel_rfl
theorem rvalid_s (reach : List (List Bool)) (cost : List Int) (tools : Int) (pieces : Int) {r : List RV} (h : ∃ n, rvalid_t (rvalid_C.k n) reach cost tools pieces = some r) : rvalid_C.Res 36 [.d (.sl (.sl .bool)) reach, .d (.sl (.int .i64)) cost, SI tools, SI pieces] r := by
  obtain ⟨n, h⟩ := h
  exact ⟨n, (rvalid_eq _ reach cost tools pieces).trans h⟩
def rvalid_h14_t (k : Nat → Cfg → Option (List RV)) (reach : List (List Bool)) (cost : List Int) (pieces : Int) (s9 : Int) : Option (List RV) := match decide (s9 < (reach.length : Int)) with | true => (match getI reach s9 with | some x1 => (match decide ((x1.length : Int) > pieces) with | true => some [RV.d (.int .i64) 3] | false => k 14 (rvalid_h14 reach cost pieces (IntKind.i64.wrap (s9 + 1)))) | none => none) | false => (match (cost.length : Int) != (reach.length : Int) with | true => some [RV.d (.int .i64) 1] | false => k 43 (rvalid_h43 reach cost 0))
theorem rvalid_h14_eq (k : Nat → Cfg → Option (List RV)) (reach : List (List Bool)) (cost : List Int) (pieces : Int) (s9 : Int) : go Try.prog ft tys [] rvalid_nt k 4000 { rvalid_h14 reach cost pieces s9 with K := .lp 14 :: (rvalid_h14 reach cost pieces s9).K } (.node 15) = rvalid_h14_t k reach cost pieces s9 := by kernel_rfl
theorem rvalid_h14_s (reach : List (List Bool)) (cost : List Int) (pieces : Int) (s9 : Int) {r : List RV} (h : ∃ n, rvalid_h14_t (rvalid_C.k n) reach cost pieces s9 = some r) : rvalid_C.Runs 14 (rvalid_h14 reach cost pieces s9) r := by
  obtain ⟨n, h⟩ := h
  exact ⟨n + 1, (rvalid_h14_eq _ reach cost pieces s9).trans h⟩
def rvalid_h43_t (k : Nat → Cfg → Option (List RV)) (reach : List (List Bool)) (cost : List Int) (s10 : Int) : Option (List RV) := match decide (s10 < (reach.length : Int)) with | true => (match getI reach s10 with | some x2 => (match getI reach 0 with | some x3 => (match (x2.length : Int) != (x3.length : Int) with | true => some [RV.d (.int .i64) 1] | false => (match getI cost s10 with | some x4 => (match decide (x4 < 0) with | true => some [RV.d (.int .i64) 1] | false => (match getI cost s10 with | some x5 => (match decide (x5 > 2147483648) with | true => some [RV.d (.int .i64) 1] | false => k 43 (rvalid_h43 reach cost (IntKind.i64.wrap (s10 + 1)))) | none => none)) | none => none)) | none => none) | none => none) | false => some [RV.d (.int .i64) 0]
theorem rvalid_h43_eq (k : Nat → Cfg → Option (List RV)) (reach : List (List Bool)) (cost : List Int) (s10 : Int) : go Try.prog ft tys [] rvalid_nt k 4000 { rvalid_h43 reach cost s10 with K := .lp 43 :: (rvalid_h43 reach cost s10).K } (.node 44) = rvalid_h43_t k reach cost s10 := by kernel_rfl
theorem rvalid_h43_s (reach : List (List Bool)) (cost : List Int) (s10 : Int) {r : List RV} (h : ∃ n, rvalid_h43_t (rvalid_C.k n) reach cost s10 = some r) : rvalid_C.Runs 43 (rvalid_h43 reach cost s10) r := by
  obtain ⟨n, h⟩ := h
  exact ⟨n + 1, (rvalid_h43_eq _ reach cost s10).trans h⟩
/-- Some row is longer. -/
def longer (pieces : Int) (l : List Bool) : Bool := decide ((l.length : Int) > pieces)
def largeF (reach : List (List Bool)) (tools pieces : Int) : Bool := decide ((reach.length : Int) > tools) || reach.any (longer pieces)
theorem large_loop (reach : List (List Bool)) (tools pieces : Int) (hb : reach.length ≤ 9223372036854775807) : ∀ d k, reach.length - k = d → k ≤ reach.length → large_C.Runs 6 (large_h123_6 reach tools pieces (k : Int)) [.d .bool ((reach.drop k).any (longer pieces))] := by
  intro d
  induction d with
  | zero =>
    intro k hd hk
    refine large_h123_6_s _ _ _ _ ⟨0, ?_⟩
    unfold large_h123_6_t
    rw [ge_dec (by omega), drop_end (by omega)]
    rfl
  | succ d ih =>
    intro k hd hk
    have hlt : k < reach.length := by omega
    refine large_h123_6_s _ _ _ _ ?_
    unfold large_h123_6_t
    rw [lt_dec hlt, getI_nat, List.getElem?_eq_getElem hlt, drop_get hlt, List.any_cons]
    dsimp only
    cases hc : decide ((reach[k].length : Int) > pieces) with
    | true =>
      refine ⟨0, ?_⟩
      have : longer pieces reach[k] = true := hc
      rw [this, decide_eq_true (show (k : Int) ≥ 0 by omega)]
      rfl
    | false =>
      have : longer pieces reach[k] = false := hc
      rw [this, Bool.false_or, wrapS (by omega)]
      exact ih (k + 1) (by omega) (by omega)
theorem large_con (reach : List (List Bool)) (tools pieces : Int) (hb : reach.length ≤ 9223372036854775807) : Con Try.prog 89 [.d (.sl (.sl .bool)) reach, SI tools, SI pieces] [.d .bool (largeF reach tools pieces)] := by
  refine Ctx.Res.con (C := large_C) (ctx_ok (E := []) trivial) ?_ (fn := Try.f89) (by kernel_rfl) (by kernel_rfl)
  refine large_s _ _ _ ?_
  unfold large_t largeF
  cases hc : decide ((reach.length : Int) > tools) with
  | true => exact ⟨0, rfl⟩
  | false => exact large_loop reach tools pieces hb _ 0 rfl (Nat.zero_le _)
end Go.Proofs.Ytfkidjkpgliffaa
