/- choose: Raise of both sides walks as raiseTo. -/
import Derived.Test.YtfkidjkpgliffaaCh6
namespace Go.Proofs.Ytfkidjkpgliffaa
open Go.RowKit
def cpr_sp : Spec := { keep := true, run := fun _ args k => match args with
  | [.d (.sl (.sl .bool)) reach, .d (.sl (.int .i64)) cost, .d (.sl (.int .i64)) ps] => match decide (small3 reach ∧ cost.length = reach.length) with
    | true => k [RV.d (.int .i64) (bif fairF reach cost ps then sumTo ps (npc reach) else 0), RV.d .bool (fairF reach cost ps)]
    | false => none
  | _ => none }
theorem cpr_spec : callable Try.prog 43 = true ∧ SpecOk Try.prog 43 cpr_sp ∧ ∀ g, cpr_sp.mut_ = some g → MCon Try.prog 43 g := by
  refine ⟨by kernel_rfl, fun R args k r h => ?_, fun g h => by simp [cpr_sp] at h⟩
  unfold cpr_sp at h
  dsimp only at h
  split at h <;> try (cases h; done)
  split at h <;> try (cases h; done)
  rename_i hd
  exact ⟨_, h, cpr_con _ _ _ (of_decide_eq_true hd)⟩
def rpr_sp : Spec := { keep := true, run := fun _ args k => match args with
  | [.d (.sl (.sl .bool)) reach, .d (.sl (.int .i64)) cost, .d (.sl (.int .i64)) ps] => match decide (small3 reach ∧ cost.length = reach.length) with
    | true => k [RV.d (.int .i64) (bif fairF reach cost ps then sumTo ps (npc reach) else 0), RV.d .bool (fairF reach cost ps)]
    | false => none
  | _ => none }
theorem rpr_spec : callable Try.prog 44 = true ∧ SpecOk Try.prog 44 rpr_sp ∧ ∀ g, rpr_sp.mut_ = some g → MCon Try.prog 44 g := by
  refine ⟨by kernel_rfl, fun R args k r h => ?_, fun g h => by simp [rpr_sp] at h⟩
  unfold rpr_sp at h
  dsimp only at h
  split at h <;> try (cases h; done)
  split at h <;> try (cases h; done)
  rename_i hd
  exact ⟨_, h, rpr_con _ _ _ (of_decide_eq_true hd)⟩
def env7 : Env := [(70, cvalid_sp), (36, rvalid_sp), (77, cpieces_sp), (78, rpieces_sp), (43, cpr_sp), (44, rpr_sp), (79, spClone)]
theorem env7_ok : EnvAll Try.prog env7 := ⟨cvalid_spec, rvalid_spec, cpieces_spec, rpieces_spec, cpr_spec, rpr_spec, clone_spec, trivial⟩
def cra_nt : NT := [((45, 20), { keep := [0, 7, 8, 27, 28], hl := 2 }), ((45, 37), { keep := [0, 7, 8, 9, 10, 27, 28, 31, 32, 33], hl := 2 }), ((45, 59), { keep := [0, 7, 8, 9, 27, 28, 64, 65, 66], hl := 2 })]
noncomputable def cra_C : Ctx := ⟨Try.prog, ft, tys, env7, cra_nt⟩
def cra_h20 (reach : List (List Bool)) (s28 : Int) (r1 : List Int) (r0 : List Int) : Cfg := ⟨45, [.blk 0, .seq 77], [(0, .d (.sl (.sl .bool)) reach), (7, .own 0), (8, .own 1), (27, SI ((List.replicate ((npc reach : Int)).toNat (0 : Int)).length : Int)), (28, SI s28)], [.row 2 (.int .i64) r0, .row 2 (.int .i64) r1], 0, []⟩
def cra_h37 (reach : List (List Bool)) (s28 : Int) (r0 : List Int) (r1 : List Int) (s10 : Int) (s33 : Int) : Cfg := ⟨45, [.blk 2, .seq 54, .blk 1, .seq 76, .lp 20, .blk 0, .seq 77], [(0, .d (.sl (.sl .bool)) reach), (7, .own 0), (8, .own 1), (9, SI s28), (10, SI s10), (27, SI ((List.replicate ((npc reach : Int)).toNat (0 : Int)).length : Int)), (28, SI s28), (31, .d (.sl (.sl .bool)) reach), (32, SI (reach.length : Int)), (33, SI s33)], [.row 2 (.int .i64) r0, .row 2 (.int .i64) r1], 0, []⟩
def cra_h59 (reach : List (List Bool)) (s28 : Int) (r1 : List Int) (s10 : Int) (s66 : Int) (r0 : List Int) : Cfg := ⟨45, [.blk 4, .blk 1, .seq 76, .lp 20, .blk 0, .seq 77], [(0, .d (.sl (.sl .bool)) reach), (7, .own 0), (8, .own 1), (9, SI s28), (27, SI ((List.replicate ((npc reach : Int)).toNat (0 : Int)).length : Int)), (28, SI s28), (64, .d (.sl (.sl .bool)) reach), (65, SI (reach.length : Int)), (66, SI s66)], [.row 2 (.int .i64) r0, .row 2 (.int .i64) (r1.set ((s28).toNat) (if s10 > 0 then s10 else 0))], 0, []⟩
def cra_t (k : Nat → Cfg → Option (List RV)) (reach : List (List Bool)) (cost : List Int) : Option (List RV) := match decide (reach.length ≤ 9223372036854775807) with | true => (match (validF reach cost 200 200) != 0 with | true => some [RV.d (.sl (.int .i64)) ([]), RV.d (.int .i64) (validF reach cost 200 200)] | false => (match decide (cost.length ≤ 10000000000) with | true => (match decide ((0 : Int) ≤ (npc reach : Int) ∧ (npc reach : Int) * ((8 : Nat) : Int) ≤ 140737488355328 ∧ (npc reach : Int) ≤ 140737488355328) with | true => k 20 (cra_h20 reach 0 (List.replicate ((npc reach : Int)).toNat (0 : Int)) cost) | false => none) | false => none)) | false => none
theorem cra_eq (k : Nat → Cfg → Option (List RV)) (reach : List (List Bool)) (cost : List Int) : go Try.prog ft tys env7 cra_nt k 4000 (start 45 [.d (.sl (.sl .bool)) reach, .d (.sl (.int .i64)) cost]) (.node 0) = cra_t k reach cost := by kernel_rfl
theorem cra_s (reach : List (List Bool)) (cost : List Int) {r : List RV} (h : ∃ n, cra_t (cra_C.k n) reach cost = some r) : cra_C.Res 45 [.d (.sl (.sl .bool)) reach, .d (.sl (.int .i64)) cost] r := by
  obtain ⟨n, h⟩ := h
  exact ⟨n, (cra_eq _ reach cost).trans h⟩
def cra_h20_t (k : Nat → Cfg → Option (List RV)) (reach : List (List Bool)) (s28 : Int) (r1 : List Int) (r0 : List Int) : Option (List RV) := match decide (s28 < ((List.replicate ((npc reach : Int)).toNat (0 : Int)).length : Int)) with | true => k 37 (cra_h37 reach s28 r0 r1 (-1) 0) | false => some [RV.d (.sl (.int .i64)) r1, RV.d (.int .i64) 0]
theorem cra_h20_eq (k : Nat → Cfg → Option (List RV)) (reach : List (List Bool)) (s28 : Int) (r1 : List Int) (r0 : List Int) : go Try.prog ft tys env7 cra_nt k 4000 { cra_h20 reach s28 r1 r0 with K := .lp 20 :: (cra_h20 reach s28 r1 r0).K } (.node 21) = cra_h20_t k reach s28 r1 r0 := by kernel_rfl
theorem cra_h20_s (reach : List (List Bool)) (s28 : Int) (r1 : List Int) (r0 : List Int) {r : List RV} (h : ∃ n, cra_h20_t (cra_C.k n) reach s28 r1 r0 = some r) : cra_C.Runs 20 (cra_h20 reach s28 r1 r0) r := by
  obtain ⟨n, h⟩ := h
  exact ⟨n + 1, (cra_h20_eq _ reach s28 r1 r0).trans h⟩
def cra_h37_t (k : Nat → Cfg → Option (List RV)) (reach : List (List Bool)) (s28 : Int) (r0 : List Int) (r1 : List Int) (s10 : Int) (s33 : Int) : Option (List RV) := match decide (s33 < (reach.length : Int)) with | true => (match getI reach s33 with | some x1 => (match getI x1 s28 with | some x2 => (match x2 with | true => (match decide (s10 < 0) with | true => (match getI r0 s33 with | some _ => (match true, r0[(s33).toNat]? with | true, some x3 => k 37 (cra_h37 reach s28 r0 r1 x3 (IntKind.i64.wrap (s33 + 1))) | _, _ => none) | none => none) | false => (match getI r0 s33 with | some _ => (match true, r0[(s33).toNat]? with | true, some x4 => (match decide (x4 < s10) with | true => (match getI r0 s33 with | some _ => (match true, r0[(s33).toNat]? with | true, some x5 => k 37 (cra_h37 reach s28 r0 r1 x5 (IntKind.i64.wrap (s33 + 1))) | _, _ => none) | none => none) | false => k 37 (cra_h37 reach s28 r0 r1 s10 (IntKind.i64.wrap (s33 + 1)))) | _, _ => none) | none => none)) | false => k 37 (cra_h37 reach s28 r0 r1 s10 (IntKind.i64.wrap (s33 + 1)))) | none => none) | none => none) | false => (match getI r1 s28 with | some _ => (match true, r1[(s28).toNat]? with | true, some _ => k 59 (cra_h59 reach s28 r1 s10 0 r0) | _, _ => none) | none => none)
theorem cra_h37_eq (k : Nat → Cfg → Option (List RV)) (reach : List (List Bool)) (s28 : Int) (r0 : List Int) (r1 : List Int) (s10 : Int) (s33 : Int) : go Try.prog ft tys env7 cra_nt k 4000 { cra_h37 reach s28 r0 r1 s10 s33 with K := .lp 37 :: (cra_h37 reach s28 r0 r1 s10 s33).K } (.node 38) = cra_h37_t k reach s28 r0 r1 s10 s33 := by kernel_rfl
theorem cra_h37_s (reach : List (List Bool)) (s28 : Int) (r0 : List Int) (r1 : List Int) (s10 : Int) (s33 : Int) {r : List RV} (h : ∃ n, cra_h37_t (cra_C.k n) reach s28 r0 r1 s10 s33 = some r) : cra_C.Runs 37 (cra_h37 reach s28 r0 r1 s10 s33) r := by
  obtain ⟨n, h⟩ := h
  exact ⟨n + 1, (cra_h37_eq _ reach s28 r0 r1 s10 s33).trans h⟩
def cra_h59_t (k : Nat → Cfg → Option (List RV)) (reach : List (List Bool)) (s28 : Int) (r1 : List Int) (s10 : Int) (s66 : Int) (r0 : List Int) : Option (List RV) := match decide (s66 < (reach.length : Int)) with | true => (match getI reach s66 with | some x7 => (match getI x7 s28 with | some x8 => (match x8 with | true => (match getI r0 s66 with | some _ => (match true, r0[(s66).toNat]? with | true, some x9 => (match getI (r1.set ((s28).toNat) (if s10 > 0 then s10 else 0)) s28 with | some _ => (match true, (r1.set ((s28).toNat) (if s10 > 0 then s10 else 0))[(s28).toNat]? with | true, some x10 => (match getI r0 s66 with | some _ => (match true, r0[(s66).toNat]? with | true, some _ => k 59 (cra_h59 reach s28 r1 s10 (IntKind.i64.wrap (s66 + 1)) (r0.set ((s66).toNat) (IntKind.i64.wrap (x9 - x10)))) | _, _ => none) | none => none) | _, _ => none) | none => none) | _, _ => none) | none => none) | false => k 59 (cra_h59 reach s28 r1 s10 (IntKind.i64.wrap (s66 + 1)) r0)) | none => none) | none => none) | false => k 20 (cra_h20 reach (IntKind.i64.wrap (s28 + 1)) (r1.set ((s28).toNat) (if s10 > 0 then s10 else 0)) r0)
theorem cra_h59_eq (k : Nat → Cfg → Option (List RV)) (reach : List (List Bool)) (s28 : Int) (r1 : List Int) (s10 : Int) (s66 : Int) (r0 : List Int) : go Try.prog ft tys env7 cra_nt k 4000 { cra_h59 reach s28 r1 s10 s66 r0 with K := .lp 59 :: (cra_h59 reach s28 r1 s10 s66 r0).K } (.node 60) = cra_h59_t k reach s28 r1 s10 s66 r0 := by kernel_rfl
theorem cra_h59_s (reach : List (List Bool)) (s28 : Int) (r1 : List Int) (s10 : Int) (s66 : Int) (r0 : List Int) {r : List RV} (h : ∃ n, cra_h59_t (cra_C.k n) reach s28 r1 s10 s66 r0 = some r) : cra_C.Runs 59 (cra_h59 reach s28 r1 s10 s66 r0) r := by
  obtain ⟨n, h⟩ := h
  exact ⟨n + 1, (cra_h59_eq _ reach s28 r1 s10 s66 r0).trans h⟩
def rra_nt : NT := [((46, 18), { keep := [0, 1, 7, 8], hl := 1 }), ((46, 30), { keep := [0, 1, 7, 8, 9], hl := 1 })]
noncomputable def rra_C : Ctx := ⟨Try.prog, ft, tys, env7, rra_nt⟩
def rra_h18 (reach : List (List Bool)) (cost : List Int) (s8 : Int) (r0 : List Int) : Cfg := ⟨46, [.blk 0, .seq 50], [(0, .d (.sl (.sl .bool)) reach), (1, .d (.sl (.int .i64)) cost), (7, .own 0), (8, SI s8)], [.row 2 (.int .i64) r0], 0, []⟩
def rra_h30 (reach : List (List Bool)) (cost : List Int) (s8 : Int) (s9 : Int) (r0 : List Int) : Cfg := ⟨46, [.blk 2, .blk 1, .seq 49, .lp 18, .blk 0, .seq 50], [(0, .d (.sl (.sl .bool)) reach), (1, .d (.sl (.int .i64)) cost), (7, .own 0), (8, SI s8), (9, SI s9)], [.row 2 (.int .i64) r0], 0, []⟩
def rra_t (k : Nat → Cfg → Option (List RV)) (reach : List (List Bool)) (cost : List Int) : Option (List RV) := match decide (reach.length ≤ 9223372036854775807) with | true => (match (validF reach cost 200 200) != 0 with | true => some [RV.d (.sl (.int .i64)) ([]), RV.d (.int .i64) (validF reach cost 200 200)] | false => (match decide ((0 : Int) ≤ (npc reach : Int) ∧ (npc reach : Int) * ((8 : Nat) : Int) ≤ 140737488355328 ∧ (npc reach : Int) ≤ 140737488355328) with | true => k 18 (rra_h18 reach cost 0 (List.replicate ((npc reach : Int)).toNat (0 : Int))) | false => none)) | false => none
theorem rra_eq (k : Nat → Cfg → Option (List RV)) (reach : List (List Bool)) (cost : List Int) : go Try.prog ft tys env7 rra_nt k 4000 (start 46 [.d (.sl (.sl .bool)) reach, .d (.sl (.int .i64)) cost]) (.node 0) = rra_t k reach cost := by kernel_rfl
theorem rra_s (reach : List (List Bool)) (cost : List Int) {r : List RV} (h : ∃ n, rra_t (rra_C.k n) reach cost = some r) : rra_C.Res 46 [.d (.sl (.sl .bool)) reach, .d (.sl (.int .i64)) cost] r := by
  obtain ⟨n, h⟩ := h
  exact ⟨n, (rra_eq _ reach cost).trans h⟩
def rra_h18_t (k : Nat → Cfg → Option (List RV)) (reach : List (List Bool)) (cost : List Int) (s8 : Int) (r0 : List Int) : Option (List RV) := match decide (s8 < (r0.length : Int)) with | true => k 30 (rra_h30 reach cost s8 2147483648 r0) | false => some [RV.d (.sl (.int .i64)) r0, RV.d (.int .i64) 0]
theorem rra_h18_eq (k : Nat → Cfg → Option (List RV)) (reach : List (List Bool)) (cost : List Int) (s8 : Int) (r0 : List Int) : go Try.prog ft tys env7 rra_nt k 4000 { rra_h18 reach cost s8 r0 with K := .lp 18 :: (rra_h18 reach cost s8 r0).K } (.node 19) = rra_h18_t k reach cost s8 r0 := by kernel_rfl
theorem rra_h18_s (reach : List (List Bool)) (cost : List Int) (s8 : Int) (r0 : List Int) {r : List RV} (h : ∃ n, rra_h18_t (rra_C.k n) reach cost s8 r0 = some r) : rra_C.Runs 18 (rra_h18 reach cost s8 r0) r := by
  obtain ⟨n, h⟩ := h
  exact ⟨n + 1, (rra_h18_eq _ reach cost s8 r0).trans h⟩
def rra_h30_t (k : Nat → Cfg → Option (List RV)) (reach : List (List Bool)) (cost : List Int) (s8 : Int) (s9 : Int) (r0 : List Int) : Option (List RV) := match decide (s9 > 0) with | true => (match getI r0 s8 with | some _ => (match true, r0[(s8).toNat]? with | true, some x1 => (match getI r0 s8 with | some _ => (match true, r0[(s8).toNat]? with | true, some _ => (match decide (small3 reach ∧ cost.length = reach.length) with | true => (match !(fairF reach cost (r0.set ((s8).toNat) (IntKind.i64.wrap (x1 + s9)))) with | true => (match getI (r0.set ((s8).toNat) (IntKind.i64.wrap (x1 + s9))) s8 with | some _ => (match true, (r0.set ((s8).toNat) (IntKind.i64.wrap (x1 + s9)))[(s8).toNat]? with | true, some x3 => (match getI (r0.set ((s8).toNat) (IntKind.i64.wrap (x1 + s9))) s8 with | some _ => (match true, (r0.set ((s8).toNat) (IntKind.i64.wrap (x1 + s9)))[(s8).toNat]? with | true, some _ => k 30 (rra_h30 reach cost s8 (IntKind.i64.wrap (Int.tdiv s9 2)) ((r0.set ((s8).toNat) (IntKind.i64.wrap (x1 + s9))).set ((s8).toNat) (IntKind.i64.wrap (x3 - s9)))) | _, _ => none) | none => none) | _, _ => none) | none => none) | false => k 30 (rra_h30 reach cost s8 (IntKind.i64.wrap (Int.tdiv s9 2)) (r0.set ((s8).toNat) (IntKind.i64.wrap (x1 + s9))))) | false => none) | _, _ => none) | none => none) | _, _ => none) | none => none) | false => k 18 (rra_h18 reach cost (IntKind.i64.wrap (s8 + 1)) r0)
theorem rra_h30_eq (k : Nat → Cfg → Option (List RV)) (reach : List (List Bool)) (cost : List Int) (s8 : Int) (s9 : Int) (r0 : List Int) : go Try.prog ft tys env7 rra_nt k 4000 { rra_h30 reach cost s8 s9 r0 with K := .lp 30 :: (rra_h30 reach cost s8 s9 r0).K } (.node 31) = rra_h30_t k reach cost s8 s9 r0 := by kernel_rfl
theorem rra_h30_s (reach : List (List Bool)) (cost : List Int) (s8 : Int) (s9 : Int) (r0 : List Int) {r : List RV} (h : ∃ n, rra_h30_t (rra_C.k n) reach cost s8 s9 r0 = some r) : rra_C.Runs 30 (rra_h30 reach cost s8 s9 r0) r := by
  obtain ⟨n, h⟩ := h
  exact ⟨n + 1, (rra_h30_eq _ reach cost s8 s9 r0).trans h⟩
theorem updTo_same {α : Type} (f : Nat → α → α) (a : List α) (j : Nat) (h : j < a.length) (e : f j a[j] = a[j]) : updTo f (j + 1) a = updTo f j a := by
  rw [← updTo_set f a j h, e]
  apply List.ext_getElem?
  intro i
  rw [List.getElem?_set]
  by_cases hij : j = i
  · subst hij
    rw [if_pos rfl, updTo_get, updTo_len, if_pos h, List.getElem?_eq_getElem h]
  · rw [if_neg hij]
theorem cra_l37 (reach : List (List Bool)) (p : Nat) (rest out : List Int) (r : List RV) (h : small3 reach) (hp : p < npc reach) (hr : rest.length = reach.length) (ho : out.length = npc reach)
    (hk : cra_C.Runs 59 (cra_h59 reach (p : Int) out (leastTo reach rest p reach.length) 0 rest) r) : ∀ d k, reach.length - k = d → k ≤ reach.length → cra_C.Runs 37 (cra_h37 reach (p : Int) rest out (leastTo reach rest p k) (k : Int)) r := by
  have h1 := h.1
  intro d
  induction d with
  | zero =>
    intro k hd hkl
    refine cra_h37_s _ _ _ _ _ _ ?_
    unfold cra_h37_t
    rw [ge_dec (by omega)]
    dsimp only
    rw [getI_nat, toNat_nat, List.getElem?_eq_getElem (show p < out.length by omega), show k = reach.length by omega]
    exact hk
  | succ d ih =>
    intro k hd hkl
    have hlt : k < reach.length := by omega
    have hm := h.rect _ (List.getElem_mem hlt)
    have hpl : p < reach[k].length := by omega
    have hrl : k < rest.length := by omega
    have hn := ih (k + 1) (by omega) (by omega)
    have hg : rch reach k p = reach[k][p] := by unfold rch; rw [getD_get hlt, getD_get hpl]
    unfold leastTo at hn
    rw [hg, getD_get hrl] at hn
    refine cra_h37_s _ _ _ _ _ _ ?_
    unfold cra_h37_t
    rw [lt_dec hlt, getI_nat, List.getElem?_eq_getElem hlt, wrapS (by omega)]
    dsimp only
    rw [getI_nat, List.getElem?_eq_getElem hpl]
    dsimp only
    cases hx : reach[k][p] with
    | false => rw [hx] at hn; exact hn
    | true =>
      rw [hx] at hn
      dsimp only
      rw [getI_nat, toNat_nat, List.getElem?_eq_getElem hrl]
      cases c1 : decide (leastTo reach rest p k < 0) with
      | true => rw [c1] at hn; exact hn
      | false =>
        rw [c1] at hn
        dsimp only
        cases c2 : decide (rest[k] < leastTo reach rest p k) with
        | true => rw [c2] at hn; exact hn
        | false => rw [c2] at hn; exact hn
theorem cra_l59 (reach : List (List Bool)) (p : Nat) (rest out : List Int) (L v : Int) (r : List RV) (h : small3 reach) (hp : p < npc reach) (hr : rest.length = reach.length) (ho : out.length = npc reach) (hv : (if L > 0 then L else 0) = v) (hv0 : 0 ≤ v) (hv1 : v ≤ 2147483648)
    (hb : ∀ t, t < reach.length → 0 ≤ rest.getD t 0 ∧ rest.getD t 0 ≤ 2147483648)
    (hk : cra_C.Runs 20 (cra_h20 reach (IntKind.i64.wrap ((p : Int) + 1)) (out.set p v) (rest.mapIdx (lessR reach p v))) r) : ∀ d k, reach.length - k = d → k ≤ reach.length → cra_C.Runs 59 (cra_h59 reach (p : Int) out L (k : Int) (updTo (lessR reach p v) k rest)) r := by
  have h1 := h.1
  intro d
  induction d with
  | zero =>
    intro k hd hkl
    refine cra_h59_s _ _ _ _ _ _ ?_
    unfold cra_h59_t
    rw [ge_dec (by omega), hv, toNat_nat, updTo_all _ _ _ (by omega)]
    exact hk
  | succ d ih =>
    intro k hd hkl
    have hlt : k < reach.length := by omega
    have hm := h.rect _ (List.getElem_mem hlt)
    have hpl : p < reach[k].length := by omega
    have hrl : k < rest.length := by omega
    have hb := hb k hlt
    rw [getD_get hrl] at hb
    have hn := ih (k + 1) (by omega) (by omega)
    have hg : rch reach k p = reach[k][p] := by unfold rch; rw [getD_get hlt, getD_get hpl]
    refine cra_h59_s _ _ _ _ _ _ ?_
    unfold cra_h59_t
    rw [lt_dec hlt, getI_nat, List.getElem?_eq_getElem hlt, wrapS (by omega)]
    dsimp only
    rw [getI_nat, List.getElem?_eq_getElem hpl]
    dsimp only
    cases hx : reach[k][p] with
    | false =>
      rw [updTo_same _ _ _ hrl (by unfold lessR; rw [hg, hx]; rfl)] at hn
      exact hn
    | true =>
      dsimp only
      rw [hv, toNat_nat, toNat_nat, getI_nat, getI_nat, updTo_get, List.getElem?_eq_getElem hrl, List.getElem?_set_self (show p < out.length by omega)]
      dsimp only
      rw [wrap64 (by omega) (by omega)]
      rw [← updTo_set _ _ _ hrl] at hn
      unfold lessR at hn ⊢
      rw [hg, hx] at hn
      exact hn
theorem cra_l20 (reach : List (List Bool)) (cost : List Int) (nt np : Nat) (g : Good reach cost nt np) (h : small3 reach) : ∀ d k, npc reach - k = d → k ≤ npc reach → cra_C.Runs 20 (cra_h20 reach (k : Int) (raiseTo reach cost k).1 (raiseTo reach cost k).2) [.d (.sl (.int .i64)) (raiseTo reach cost (npc reach)).1, .d (.int .i64) 0] := by
  have h2 := h.2.1
  intro d
  induction d with
  | zero =>
    intro k hd hkl
    refine cra_h20_s _ _ _ _ ⟨0, ?_⟩
    unfold cra_h20_t
    rw [List.length_replicate, toNat_nat, ge_dec (by omega), show k = npc reach by omega]
  | succ d ih =>
    intro k hd hkl
    have hi := raise_inv g k (by omega)
    obtain ⟨v0, v1, _, _⟩ := v_spec hi
    have hn := ih (k + 1) (by omega) (by omega)
    rw [← wrapS (show k + 1 ≤ 9223372036854775807 by omega)] at hn
    refine cra_h20_s _ _ _ _ ?_
    unfold cra_h20_t
    rw [List.length_replicate, toNat_nat, lt_dec (by omega)]
    have h59 := cra_l59 reach k _ (raiseTo reach cost k).1 (leastTo reach (raiseTo reach cost k).2 k reach.length) (vOf reach (raiseTo reach cost k).2 k) _ h (by omega) hi.lr hi.lo rfl v0 v1 (fun t ht => (hi.r t ht).2) hn _ 0 rfl (Nat.zero_le _)
    rw [updTo_zero] at h59
    exact cra_l37 reach k _ _ _ h (by omega) hi.lr hi.lo h59 _ 0 rfl (Nat.zero_le _)
def raiseF (reach : List (List Bool)) (cost : List Int) : List Int := bif validF reach cost 200 200 != 0 then [] else (raiseTo reach cost (npc reach)).1
theorem mk8_ok {n : Nat} (h : n ≤ 1000000) : decide ((0 : Int) ≤ (n : Int) ∧ (n : Int) * ((8 : Nat) : Int) ≤ 140737488355328 ∧ (n : Int) ≤ 140737488355328) = true := decide_eq_true (by omega)
theorem cra_con (reach : List (List Bool)) (cost : List Int) (hb : reach.length ≤ 9223372036854775807) : Con Try.prog 45 [.d (.sl (.sl .bool)) reach, .d (.sl (.int .i64)) cost] [.d (.sl (.int .i64)) (raiseF reach cost), .d (.int .i64) (validF reach cost 200 200)] := by
  refine Ctx.Res.con (C := cra_C) (ctx_ok env7_ok) ?_ (fn := Try.f45) (by kernel_rfl) (by kernel_rfl)
  refine cra_s _ _ ?_
  unfold cra_t raiseF
  rw [decide_eq_true (show reach.length ≤ 9223372036854775807 from hb)]
  dsimp only
  cases hv : (validF reach cost 200 200 != 0) with
  | true => exact ⟨0, rfl⟩
  | false =>
    have e : validF reach cost 200 200 = 0 := by simpa using hv
    have g := good_of_valid (t := 200) (p := 200) e
    have h := g.s3 (by omega) (by omega)
    have h1 := g.n
    have h2 := g.len
    have h3 := g.p
    rw [decide_eq_true (show cost.length ≤ 10000000000 by omega), mk8_ok (by omega), e, toNat_nat]
    exact cra_l20 reach cost 200 200 g h _ 0 rfl (Nat.zero_le _)
end Go.Proofs.Ytfkidjkpgliffaa
