/- choose.Best and the reference's Best walk as bestTo. -/
import Derived.Test.YtfkidjkpgliffaaCh13
namespace Go.Proofs.Ytfkidjkpgliffaa
open Go.RowKit
def better (cost : List Int) (o : Option (List Int)) (l : List Int) : Bool := match o with
  | none => true
  | some b => decide (costF cost l < costF cost b) || ((costF cost l == costF cost b) && befF l b)
def bestTo (reach : List (List Bool)) (cost : List Int) : Nat → Option (List Int)
  | 0 => none
  | s + 1 => bif coversF reach (setTo s reach.length) && better cost (bestTo reach cost s) (setTo s reach.length) then some (setTo s reach.length) else bestTo reach cost s
theorem bestTo_set {reach : List (List Bool)} {cost b : List Int} : ∀ {s : Nat}, bestTo reach cost s = some b → ∃ s', s' < s ∧ b = setTo s' reach.length ∧ coversF reach b = true
  | 0, h => by cases h
  | s + 1, h => by
    unfold bestTo at h
    cases hc : (coversF reach (setTo s reach.length) && better cost (bestTo reach cost s) (setTo s reach.length)) with
    | true =>
      rw [hc] at h
      cases h
      rw [Bool.and_eq_true] at hc
      exact ⟨s, by omega, rfl, hc.1⟩
    | false =>
      rw [hc] at h
      obtain ⟨s', h1, h2, h3⟩ := bestTo_set (s := s) h
      exact ⟨s', by omega, h2, h3⟩
theorem bestTo_min {reach : List (List Bool)} {cost : List Int} : ∀ {s s' : Nat}, s' < s → coversF reach (setTo s' reach.length) = true → ∃ b, bestTo reach cost s = some b ∧ costF cost b ≤ costF cost (setTo s' reach.length)
  | s + 1, s', h, hc => by
    have ih := fun h => bestTo_min (reach := reach) (cost := cost) (s := s) (s' := s') h hc
    unfold bestTo
    by_cases e : s' = s
    · subst e
      rw [hc, Bool.true_and]
      cases ho : bestTo reach cost s' with
      | none => exact ⟨_, rfl, Int.le_refl _⟩
      | some b =>
        unfold better
        dsimp only
        cases hx : (decide (costF cost (setTo s' reach.length) < costF cost b) || ((costF cost (setTo s' reach.length) == costF cost b) && befF (setTo s' reach.length) b)) with
        | true => exact ⟨_, rfl, Int.le_refl _⟩
        | false =>
          rw [Bool.or_eq_false_iff] at hx
          have := of_decide_eq_false hx.1
          exact ⟨b, rfl, by omega⟩
    · obtain ⟨b, hb, hle⟩ := ih (by omega)
      cases hx : (coversF reach (setTo s reach.length) && better cost (bestTo reach cost s) (setTo s reach.length)) with
      | false => exact ⟨b, hb, hle⟩
      | true =>
        rw [Bool.and_eq_true, hb] at hx
        refine ⟨_, rfl, ?_⟩
        have h2 := hx.2
        unfold better at h2
        dsimp only at h2
        rw [Bool.or_eq_true, Bool.and_eq_true] at h2
        rcases h2 with h2 | h2
        · have := of_decide_eq_true h2
          omega
        · have : costF cost (setTo s reach.length) = costF cost b := by simpa using h2.1
          omega
theorem set_all (n : Nat) : ∀ k, k ≤ n → setTo (2 ^ n - 1) k = (List.range k).map fun (i : Nat) => (i : Int)
  | 0, _ => rfl
  | k + 1, h => by
    unfold setTo
    rw [set_all n k (by omega), Nat.testBit_two_pow_sub_one, decide_eq_true (show k < n by omega), List.range_succ, List.map_append]
    rfl
theorem covers_all {reach : List (List Bool)} : coversF reach (setTo (2 ^ reach.length - 1) reach.length) = true := by
  rw [set_all _ _ (Nat.le_refl _)]
  show coversF reach (allF reach) = true
  unfold coversF
  rw [inR_all, opn_any, Bool.true_and, List.all_eq_true]
  intro p hp
  rw [reached_all]
  have : (covF reach).getD p false = reach.any fun r => r.getD p false := by simp [covF, List.mem_range.1 hp]
  rw [this]
  cases (reach.any fun r => r.getD p false) <;> rfl
theorem best_some (reach : List (List Bool)) (cost : List Int) : ∃ b, bestTo reach cost (2 ^ reach.length) = some b := by
  have : 0 < 2 ^ reach.length := Nat.pow_pos (by decide)
  obtain ⟨b, hb, _⟩ := bestTo_min (reach := reach) (cost := cost) (s := 2 ^ reach.length) (s' := 2 ^ reach.length - 1) (by omega) covers_all
  exact ⟨b, hb⟩
def bestL (reach : List (List Bool)) (cost : List Int) : List Int := (bestTo reach cost (2 ^ reach.length)).getD []
def leastO (cost : List Int) (o : Option (List Int)) : Int := match o with
  | none => -1
  | some b => costF cost b
theorem costP_set {reach : List (List Bool)} {cost : List Int} (hc : cost.length = reach.length) (hb : ∀ c ∈ cost, 0 ≤ c ∧ c ≤ 2147483648) (hn : reach.length ≤ 12) (s : Nat) : costP cost (setTo s reach.length) := by
  have := setTo_len s reach.length
  refine ⟨?_, List.all_eq_true.2 fun c hcm => by simpa using hb c hcm, by omega⟩
  rw [hc]
  exact setTo_inR reach s (Nat.le_refl _)
def mask_sp : Spec := { keep := true, run := fun _ args k => match args with
  | [.d (.sl .bool) l] => match decide (l.length ≤ 64) with
    | true => k [RV.d (.int .u64) (maskF l)]
    | false => none
  | _ => none }
theorem mask_spec : callable Try.prog 71 = true ∧ SpecOk Try.prog 71 mask_sp ∧ ∀ g, mask_sp.mut_ = some g → MCon Try.prog 71 g := by
  refine ⟨by kernel_rfl, fun R args k r h => ?_, fun g h => by simp [mask_sp] at h⟩
  unfold mask_sp at h
  dsimp only at h
  split at h <;> try (cases h; done)
  split at h <;> try (cases h; done)
  rename_i hd
  exact ⟨_, h, mask_con _ (of_decide_eq_true hd)⟩
def cmp_sp : Spec := { keep := true, run := fun _ args k => match args with
  | [.d (.sl (.int .i64)) a, .d (.sl (.int .i64)) b] => match decide (a.length ≤ 1000000) with
    | true => k [RV.d (.int .i64) (cmpF a b)]
    | false => none
  | _ => none }
theorem cmp_spec : callable Try.prog 72 = true ∧ SpecOk Try.prog 72 cmp_sp ∧ ∀ g, cmp_sp.mut_ = some g → MCon Try.prog 72 g := by
  refine ⟨by kernel_rfl, fun R args k r h => ?_, fun g h => by simp [cmp_sp] at h⟩
  unfold cmp_sp at h
  dsimp only at h
  split at h <;> try (cases h; done)
  split at h <;> try (cases h; done)
  rename_i hd
  exact ⟨_, h, cmp_con _ _ (of_decide_eq_true hd)⟩
def bef_sp : Spec := { keep := true, run := fun _ args k => match args with
  | [.d (.sl (.int .i64)) a, .d (.sl (.int .i64)) b] => match decide (a.length ≤ 1000000) with
    | true => k [RV.d .bool (befF a b)]
    | false => none
  | _ => none }
theorem bef_spec : callable Try.prog 73 = true ∧ SpecOk Try.prog 73 bef_sp ∧ ∀ g, bef_sp.mut_ = some g → MCon Try.prog 73 g := by
  refine ⟨by kernel_rfl, fun R args k r h => ?_, fun g h => by simp [bef_sp] at h⟩
  unfold bef_sp at h
  dsimp only at h
  split at h <;> try (cases h; done)
  split at h <;> try (cases h; done)
  rename_i hd
  exact ⟨_, h, bef_con _ _ (of_decide_eq_true hd)⟩
def rcs_sp : Spec := { keep := true, run := fun _ args k => match args with
  | [.d (.sl (.sl .bool)) reach, .d (.sl (.int .i64)) l] => match decide (small3 reach ∧ l.length ≤ 1000000) with
    | true => k [RV.d .bool (coversF reach l)]
    | false => none
  | _ => none }
theorem rcs_spec : callable Try.prog 48 = true ∧ SpecOk Try.prog 48 rcs_sp ∧ ∀ g, rcs_sp.mut_ = some g → MCon Try.prog 48 g := by
  refine ⟨by kernel_rfl, fun R args k r h => ?_, fun g h => by simp [rcs_sp] at h⟩
  unfold rcs_sp at h
  dsimp only at h
  split at h <;> try (cases h; done)
  split at h <;> try (cases h; done)
  rename_i hd
  exact ⟨_, h, rcs_con _ _ (of_decide_eq_true hd)⟩
def rco_sp : Spec := { keep := true, run := fun _ args k => match args with
  | [.d (.sl (.int .i64)) cost, .d (.sl (.int .i64)) l] => match decide (costP cost l) with
    | true => k [RV.d (.int .i64) (costF cost l)]
    | false => none
  | _ => none }
theorem rco_spec : callable Try.prog 49 = true ∧ SpecOk Try.prog 49 rco_sp ∧ ∀ g, rco_sp.mut_ = some g → MCon Try.prog 49 g := by
  refine ⟨by kernel_rfl, fun R args k r h => ?_, fun g h => by simp [rco_sp] at h⟩
  unfold rco_sp at h
  dsimp only at h
  split at h <;> try (cases h; done)
  split at h <;> try (cases h; done)
  rename_i hd
  exact ⟨_, h, rco_con _ _ (of_decide_eq_true hd)⟩
def env14 : Env := [(70, cvalid_sp), (50, ccov_sp), (71, mask_sp), (72, cmp_sp)]
theorem env14_ok : EnvAll Try.prog env14 := ⟨cvalid_spec, ccov_spec, mask_spec, cmp_spec, trivial⟩
def env14r : Env := [(36, rvalid_sp), (48, rcs_sp), (49, rco_sp), (73, bef_sp)]
theorem env14r_ok : EnvAll Try.prog env14r := ⟨rvalid_spec, rcs_spec, rco_spec, bef_spec, trivial⟩
def cbe_nt : NT := [((37, 22), { keep := [0, 1, 8, 9, 10, 28, 29], pure_ := [(9, .int .i64)], hl := 1 }), ((37, 41), { keep := [0, 1, 8, 9, 10, 11, 12, 13, 14, 28, 29, 32, 33, 34], own := [(12, 3, .int .i64)], hl := 2 })]
noncomputable def cbe_C : Ctx := ⟨Try.prog, ft, tys, env14, cbe_nt⟩
def cbe_h22 (reach : List (List Bool)) (cost : List Int) (s10 : Int) (s29 : Int) (s9 : List Int) : Cfg := ⟨37, [.blk 0, .seq 68], [(0, .d (.sl (.sl .bool)) reach), (1, .d (.sl (.int .i64)) cost), (8, .d (.int .u64) (maskF (covF reach))), (9, .d (.sl (.int .i64)) s9), (10, SI s10), (28, SI (IntKind.i64.wrap (1 * 2 ^ (min ((reach.length : Int)).toNat 64)))), (29, SI s29)], [.row 4 .bool (covF reach)], 0, []⟩
def cbe_h41 (reach : List (List Bool)) (cost : List Int) (s9 : List Int) (s10 : Int) (s29 : Int) (s13 : Int) (s14 : Int) (s34 : Int) (r1 : List Int) : Cfg := ⟨37, [.blk 2, .seq 62, .blk 1, .seq 67, .lp 22, .blk 0, .seq 68], [(0, .d (.sl (.sl .bool)) reach), (1, .d (.sl (.int .i64)) cost), (8, .d (.int .u64) (maskF (covF reach))), (9, .d (.sl (.int .i64)) s9), (10, SI s10), (11, SI s29), (12, .own 1), (13, .d (.int .u64) s13), (14, SI s14), (28, SI (IntKind.i64.wrap (1 * 2 ^ (min ((reach.length : Int)).toNat 64)))), (29, SI s29), (32, .d (.sl (.int .i64)) cost), (33, SI (cost.length : Int)), (34, SI s34)], [.row 4 .bool (covF reach), .row 3 (.int .i64) r1], 0, []⟩
def cbe_t (k : Nat → Cfg → Option (List RV)) (reach : List (List Bool)) (cost : List Int) : Option (List RV) := match decide (reach.length ≤ 9223372036854775807) with | true => (match (validF reach cost 12 64) != 0 with | true => some [RV.d (.sl (.int .i64)) ([]), RV.d (.int .i64) 0, RV.d (.int .i64) (validF reach cost 12 64)] | false => (match decide (small3 reach) with | true => (match decide ((covF reach).length ≤ 64) with | true => (match decide ((reach.length : Int) < (0 : Int)) with | true => none | false => k 22 (cbe_h22 reach cost (-1) 0 ([]))) | false => none) | false => none)) | false => none
theorem cbe_eq (k : Nat → Cfg → Option (List RV)) (reach : List (List Bool)) (cost : List Int) : go Try.prog ft tys env14 cbe_nt k 4000 (start 37 [.d (.sl (.sl .bool)) reach, .d (.sl (.int .i64)) cost]) (.node 0) = cbe_t k reach cost := by kernel_rfl
theorem cbe_s (reach : List (List Bool)) (cost : List Int) {r : List RV} (h : ∃ n, cbe_t (cbe_C.k n) reach cost = some r) : cbe_C.Res 37 [.d (.sl (.sl .bool)) reach, .d (.sl (.int .i64)) cost] r := by
  obtain ⟨n, h⟩ := h
  exact ⟨n, (cbe_eq _ reach cost).trans h⟩
def cbe_h22_t (k : Nat → Cfg → Option (List RV)) (reach : List (List Bool)) (cost : List Int) (s10 : Int) (s29 : Int) (s9 : List Int) : Option (List RV) := match decide (s29 < (IntKind.i64.wrap (1 * 2 ^ (min ((reach.length : Int)).toNat 64)))) with | true => k 41 (cbe_h41 reach cost s9 s10 s29 0 0 0 ([])) | false => some [RV.d (.sl (.int .i64)) s9, RV.d (.int .i64) s10, RV.d (.int .i64) 0]
theorem cbe_h22_eq (k : Nat → Cfg → Option (List RV)) (reach : List (List Bool)) (cost : List Int) (s10 : Int) (s29 : Int) (s9 : List Int) : go Try.prog ft tys env14 cbe_nt k 4000 { cbe_h22 reach cost s10 s29 s9 with K := .lp 22 :: (cbe_h22 reach cost s10 s29 s9).K } (.node 23) = cbe_h22_t k reach cost s10 s29 s9 := by kernel_rfl
theorem cbe_h22_s (reach : List (List Bool)) (cost : List Int) (s10 : Int) (s29 : Int) (s9 : List Int) {r : List RV} (h : ∃ n, cbe_h22_t (cbe_C.k n) reach cost s10 s29 s9 = some r) : cbe_C.Runs 22 (cbe_h22 reach cost s10 s29 s9) r := by
  obtain ⟨n, h⟩ := h
  exact ⟨n + 1, (cbe_h22_eq _ reach cost s10 s29 s9).trans h⟩
def cbe_h41_t (k : Nat → Cfg → Option (List RV)) (reach : List (List Bool)) (cost : List Int) (s9 : List Int) (s10 : Int) (s29 : Int) (s13 : Int) (s14 : Int) (s34 : Int) (r1 : List Int) : Option (List RV) := match decide (s34 < (cost.length : Int)) with | true => (match getI cost s34 with | some x1 => (match decide (s34 < (0 : Int)) with | true => none | false => (match (IntKind.i64.wrap (BitVec.toNat (BitVec.ofInt 64 (Int.fdiv s29 (2 ^ (min (s34).toNat 64))) &&& BitVec.ofInt 64 1))) == 1 with | true => (match decide ((r1.length + ([s34]).length) * 8 ≤ 140737488355328 ∧ r1.length + ([s34]).length ≤ 140737488355328) with | true => (match getI reach s34 with | some x2 => (match decide (x2.length ≤ 64) with | true => k 41 (cbe_h41 reach cost s9 s10 s29 (IntKind.u64.wrap (BitVec.toNat (BitVec.ofInt 64 s13 ||| BitVec.ofInt 64 (maskF x2)))) (IntKind.i64.wrap (s14 + x1)) (IntKind.i64.wrap (s34 + 1)) (r1 ++ ([s34]))) | false => none) | none => none) | false => none) | false => k 41 (cbe_h41 reach cost s9 s10 s29 s13 s14 (IntKind.i64.wrap (s34 + 1)) r1))) | none => none) | false => (match s13 == (maskF (covF reach)) with | true => (match decide (s10 < 0) with | true => k 22 (cbe_h22 reach cost s14 (IntKind.i64.wrap (s29 + 1)) r1) | false => (match decide (s14 < s10) with | true => k 22 (cbe_h22 reach cost s14 (IntKind.i64.wrap (s29 + 1)) r1) | false => (match s14 == s10 with | true => (match decide (r1.length ≤ 1000000) with | true => (match decide ((cmpF r1 s9) < 0) with | true => k 22 (cbe_h22 reach cost s14 (IntKind.i64.wrap (s29 + 1)) r1) | false => k 22 (cbe_h22 reach cost s10 (IntKind.i64.wrap (s29 + 1)) s9)) | false => none) | false => k 22 (cbe_h22 reach cost s10 (IntKind.i64.wrap (s29 + 1)) s9)))) | false => k 22 (cbe_h22 reach cost s10 (IntKind.i64.wrap (s29 + 1)) s9))
theorem cbe_h41_eq (k : Nat → Cfg → Option (List RV)) (reach : List (List Bool)) (cost : List Int) (s9 : List Int) (s10 : Int) (s29 : Int) (s13 : Int) (s14 : Int) (s34 : Int) (r1 : List Int) : go Try.prog ft tys env14 cbe_nt k 4000 { cbe_h41 reach cost s9 s10 s29 s13 s14 s34 r1 with K := .lp 41 :: (cbe_h41 reach cost s9 s10 s29 s13 s14 s34 r1).K } (.node 42) = cbe_h41_t k reach cost s9 s10 s29 s13 s14 s34 r1 := by kernel_rfl
theorem cbe_h41_s (reach : List (List Bool)) (cost : List Int) (s9 : List Int) (s10 : Int) (s29 : Int) (s13 : Int) (s14 : Int) (s34 : Int) (r1 : List Int) {r : List RV} (h : ∃ n, cbe_h41_t (cbe_C.k n) reach cost s9 s10 s29 s13 s14 s34 r1 = some r) : cbe_C.Runs 41 (cbe_h41 reach cost s9 s10 s29 s13 s14 s34 r1) r := by
  obtain ⟨n, h⟩ := h
  exact ⟨n + 1, (cbe_h41_eq _ reach cost s9 s10 s29 s13 s14 s34 r1).trans h⟩
def rbe_nt : NT := [((38, 20), { keep := [0, 1, 8, 9, 10], pure_ := [(8, .int .i64)], hl := 0 }), ((38, 35), { keep := [0, 1, 8, 9, 10, 11, 12], own := [(11, 3, .int .i64)], hl := 1 })]
noncomputable def rbe_C : Ctx := ⟨Try.prog, ft, tys, env14r, rbe_nt⟩
def rbe_h20 (reach : List (List Bool)) (cost : List Int) (s10 : Int) (s9 : Bool) (s8 : List Int) : Cfg := ⟨38, [.blk 0, .seq 64], [(0, .d (.sl (.sl .bool)) reach), (1, .d (.sl (.int .i64)) cost), (8, .d (.sl (.int .i64)) s8), (9, SB s9), (10, SI s10)], [], 0, []⟩
def rbe_h35 (reach : List (List Bool)) (cost : List Int) (s8 : List Int) (s9 : Bool) (s10 : Int) (s12 : Int) (r0 : List Int) : Cfg := ⟨38, [.blk 2, .seq 50, .blk 1, .seq 63, .lp 20, .blk 0, .seq 64], [(0, .d (.sl (.sl .bool)) reach), (1, .d (.sl (.int .i64)) cost), (8, .d (.sl (.int .i64)) s8), (9, SB s9), (10, SI s10), (11, .own 0), (12, SI s12)], [.row 3 (.int .i64) r0], 0, []⟩
def rbe_t (k : Nat → Cfg → Option (List RV)) (reach : List (List Bool)) (cost : List Int) : Option (List RV) := match decide (reach.length ≤ 9223372036854775807) with | true => (match (validF reach cost 12 64) != 0 with | true => some [RV.d (.sl (.int .i64)) ([]), RV.d (.int .i64) 0, RV.d (.int .i64) (validF reach cost 12 64)] | false => k 20 (rbe_h20 reach cost 0 false ([]))) | false => none
theorem rbe_eq (k : Nat → Cfg → Option (List RV)) (reach : List (List Bool)) (cost : List Int) : go Try.prog ft tys env14r rbe_nt k 4000 (start 38 [.d (.sl (.sl .bool)) reach, .d (.sl (.int .i64)) cost]) (.node 0) = rbe_t k reach cost := by kernel_rfl
theorem rbe_s (reach : List (List Bool)) (cost : List Int) {r : List RV} (h : ∃ n, rbe_t (rbe_C.k n) reach cost = some r) : rbe_C.Res 38 [.d (.sl (.sl .bool)) reach, .d (.sl (.int .i64)) cost] r := by
  obtain ⟨n, h⟩ := h
  exact ⟨n, (rbe_eq _ reach cost).trans h⟩
def rbe_h20_t (k : Nat → Cfg → Option (List RV)) (reach : List (List Bool)) (cost : List Int) (s10 : Int) (s9 : Bool) (s8 : List Int) : Option (List RV) := match decide ((reach.length : Int) < (0 : Int)) with | true => none | false => (match decide (s10 < (IntKind.i64.wrap (1 * 2 ^ (min ((reach.length : Int)).toNat 64)))) with | true => k 35 (rbe_h35 reach cost s8 s9 s10 0 ([])) | false => (match decide (costP cost s8) with | true => some [RV.d (.sl (.int .i64)) s8, RV.d (.int .i64) (costF cost s8), RV.d (.int .i64) 0] | false => none))
theorem rbe_h20_eq (k : Nat → Cfg → Option (List RV)) (reach : List (List Bool)) (cost : List Int) (s10 : Int) (s9 : Bool) (s8 : List Int) : go Try.prog ft tys env14r rbe_nt k 4000 { rbe_h20 reach cost s10 s9 s8 with K := .lp 20 :: (rbe_h20 reach cost s10 s9 s8).K } (.node 21) = rbe_h20_t k reach cost s10 s9 s8 := by kernel_rfl
theorem rbe_h20_s (reach : List (List Bool)) (cost : List Int) (s10 : Int) (s9 : Bool) (s8 : List Int) {r : List RV} (h : ∃ n, rbe_h20_t (rbe_C.k n) reach cost s10 s9 s8 = some r) : rbe_C.Runs 20 (rbe_h20 reach cost s10 s9 s8) r := by
  obtain ⟨n, h⟩ := h
  exact ⟨n + 1, (rbe_h20_eq _ reach cost s10 s9 s8).trans h⟩
def rbe_h35_t (k : Nat → Cfg → Option (List RV)) (reach : List (List Bool)) (cost : List Int) (s8 : List Int) (s9 : Bool) (s10 : Int) (s12 : Int) (r0 : List Int) : Option (List RV) := match decide (s12 < (reach.length : Int)) with | true => (match decide (s12 < (0 : Int)) with | true => none | false => (match (Int.tmod (Int.fdiv s10 (2 ^ (min (s12).toNat 64))) 2) == 1 with | true => (match decide ((r0.length + ([s12]).length) * 8 ≤ 140737488355328 ∧ r0.length + ([s12]).length ≤ 140737488355328) with | true => k 35 (rbe_h35 reach cost s8 s9 s10 (IntKind.i64.wrap (s12 + 1)) (r0 ++ ([s12]))) | false => none) | false => k 35 (rbe_h35 reach cost s8 s9 s10 (IntKind.i64.wrap (s12 + 1)) r0))) | false => (match decide (small3 reach ∧ r0.length ≤ 1000000) with | true => (match !(coversF reach r0) with | true => k 20 (rbe_h20 reach cost (IntKind.i64.wrap (s10 + 1)) s9 s8) | false => (match decide (costP cost r0) with | true => (match decide (costP cost s8) with | true => (match !s9 with | true => k 20 (rbe_h20 reach cost (IntKind.i64.wrap (s10 + 1)) true r0) | false => (match decide ((IntKind.i64.wrap ((costF cost r0) - (costF cost s8))) < 0) with | true => k 20 (rbe_h20 reach cost (IntKind.i64.wrap (s10 + 1)) true r0) | false => (match (IntKind.i64.wrap ((costF cost r0) - (costF cost s8))) == 0 with | true => (match decide (r0.length ≤ 1000000) with | true => (match befF r0 s8 with | true => k 20 (rbe_h20 reach cost (IntKind.i64.wrap (s10 + 1)) true r0) | false => k 20 (rbe_h20 reach cost (IntKind.i64.wrap (s10 + 1)) s9 s8)) | false => none) | false => k 20 (rbe_h20 reach cost (IntKind.i64.wrap (s10 + 1)) s9 s8)))) | false => none) | false => none)) | false => none)
theorem rbe_h35_eq (k : Nat → Cfg → Option (List RV)) (reach : List (List Bool)) (cost : List Int) (s8 : List Int) (s9 : Bool) (s10 : Int) (s12 : Int) (r0 : List Int) : go Try.prog ft tys env14r rbe_nt k 4000 { rbe_h35 reach cost s8 s9 s10 s12 r0 with K := .lp 35 :: (rbe_h35 reach cost s8 s9 s10 s12 r0).K } (.node 36) = rbe_h35_t k reach cost s8 s9 s10 s12 r0 := by kernel_rfl
theorem rbe_h35_s (reach : List (List Bool)) (cost : List Int) (s8 : List Int) (s9 : Bool) (s10 : Int) (s12 : Int) (r0 : List Int) {r : List RV} (h : ∃ n, rbe_h35_t (rbe_C.k n) reach cost s8 s9 s10 s12 r0 = some r) : rbe_C.Runs 35 (rbe_h35 reach cost s8 s9 s10 s12 r0) r := by
  obtain ⟨n, h⟩ := h
  exact ⟨n + 1, (rbe_h35_eq _ reach cost s8 s9 s10 s12 r0).trans h⟩
theorem p12 {n : Nat} (h : n ≤ 12) : 2 ^ n ≤ 4096 := Nat.le_trans (Nat.pow_le_pow_right (by decide) h) (by decide)
theorem lim {n : Nat} (h : n ≤ 12) : IntKind.i64.wrap (1 * 2 ^ (min ((n : Int)).toNat 64)) = ((2 ^ n : Nat) : Int) := by
  have := p12 h
  rw [pow_min (by omega)]
  generalize 2 ^ n = m at *
  rw [wrap64 (by omega) (by omega)]
theorem cbe_l41 (reach : List (List Bool)) (cost : List Int) (s : Nat) (r : List RV) (g : Good reach cost 12 64) (hs : s < 4096)
    (hk : cbe_C.Runs 22 (cbe_h22 reach cost (leastO cost (bestTo reach cost (s + 1))) (IntKind.i64.wrap ((s : Int) + 1)) ((bestTo reach cost (s + 1)).getD [])) r) :
    ∀ d k, reach.length - k = d → k ≤ reach.length → cbe_C.Runs 41 (cbe_h41 reach cost ((bestTo reach cost s).getD []) (leastO cost (bestTo reach cost s)) (s : Int) (haveL reach (setTo s k) : Int) (costF cost (setTo s k)) (k : Int) (setTo s k)) r := by
  have hn := g.n
  have hp := g.p
  have hc := g.len
  have h3 := g.s3 (by omega) (by omega)
  have hs64 : s < 2 ^ 64 := Nat.lt_trans hs (by decide)
  intro d
  induction d with
  | zero =>
    intro k hd hkl
    have hl := setTo_len s reach.length
    refine cbe_h41_s _ _ _ _ _ _ _ _ _ ?_
    unfold cbe_h41_t
    rw [ge_dec (by omega), show k = reach.length by omega, have_eq g.rect (setTo_inR reach s (Nat.le_refl _)), decide_eq_true (show (setTo s reach.length).length ≤ 1000000 by omega), cmp_bef]
    unfold bestTo at hk
    dsimp only
    cases c1 : coversF reach (setTo s reach.length) with
    | false => rw [c1] at hk; exact hk
    | true =>
      rw [c1, Bool.true_and] at hk
      dsimp only
      cases ho : bestTo reach cost s with
      | none => rw [ho] at hk; exact hk
      | some b =>
        rw [ho] at hk
        have b0 := (costF_bd g.c b).1
        unfold better at hk
        rw [show leastO cost (some b) = costF cost b from rfl, Option.getD_some, decide_eq_false (show ¬ costF cost b < 0 by omega)]
        dsimp only at hk ⊢
        cases c2 : decide (costF cost (setTo s reach.length) < costF cost b) with
        | true => rw [c2] at hk; exact hk
        | false =>
          rw [c2] at hk
          dsimp only
          cases c3 : (costF cost (setTo s reach.length) == costF cost b) with
          | false => rw [c3] at hk; exact hk
          | true =>
            rw [c3] at hk
            dsimp only
            cases c4 : befF (setTo s reach.length) b with
            | true => rw [c4] at hk; exact hk
            | false => rw [c4] at hk; exact hk
  | succ d ih =>
    intro k hd hkl
    have hlt : k < reach.length := by omega
    have hlc : k < cost.length := by omega
    have hx := ih (k + 1) (by omega) (by omega)
    have hrow := g.rect _ (List.getElem_mem hlt)
    have hl := setTo_len s k
    refine cbe_h41_s _ _ _ _ _ _ _ _ _ ?_
    unfold cbe_h41_t
    rw [lt_dec hlc, getI_nat, getI_nat, List.getElem?_eq_getElem hlc, List.getElem?_eq_getElem hlt, decide_eq_false (show ¬ (k : Int) < 0 by omega), bit_c s k hs64 (by omega), wrapS (by omega), List.length_singleton, app_ok (by omega) (by omega)]
    dsimp only
    unfold setTo at hx
    cases hb : s.testBit k with
    | false => rw [hb, cond_false, List.append_nil] at hx; exact hx
    | true =>
      rw [hb, cond_true, haveL_snoc, costF_snoc, toNat_nat, getD_get hlc] at hx
      have e : (rowM reach (k : Int) : Int) = maskF reach[k] := by
        unfold rowM maskF
        rw [toNat_nat, getD_get hlt]
      have hm : rowM reach (k : Int) < 2 ^ 64 := by
        unfold rowM
        rw [toNat_nat, getD_get hlt]
        exact maskN_lt64 (by omega)
      have bd := costF_bd g.c (setTo s k)
      have bc := g.c _ (List.getElem_mem hlc)
      rw [decide_eq_true (show reach[k].length ≤ 64 by omega)]
      dsimp only
      rw [← e, or64 (have_lt g.rect (setTo_inR reach s (by omega)) hp) hm, wrap64 (by omega) (by omega)]
      exact hx
theorem cbe_l22 (reach : List (List Bool)) (cost : List Int) (g : Good reach cost 12 64) :
    ∀ (d s : Nat), 2 ^ reach.length - s = d → s ≤ 2 ^ reach.length → cbe_C.Runs 22 (cbe_h22 reach cost (leastO cost (bestTo reach cost s)) (s : Int) ((bestTo reach cost s).getD [])) [.d (.sl (.int .i64)) (bestL reach cost), .d (.int .i64) (costF cost (bestL reach cost)), .d (.int .i64) 0] := by
  have hn := g.n
  have hl := p12 hn
  intro d
  induction d with
  | zero =>
    intro s hd hs
    obtain ⟨b, hb⟩ := best_some reach cost
    refine cbe_h22_s _ _ _ _ _ ⟨0, ?_⟩
    unfold cbe_h22_t
    rw [lim hn, ge_dec (by omega), show s = 2 ^ reach.length by omega]
    unfold bestL
    rw [hb]
    rfl
  | succ d ih =>
    intro s hd hs
    have hx := ih (s + 1) (by omega) (by omega)
    rw [← wrapS (show s + 1 ≤ 9223372036854775807 by omega)] at hx
    refine cbe_h22_s _ _ _ _ _ ?_
    unfold cbe_h22_t
    rw [lim hn, lt_dec (show s < 2 ^ reach.length by omega)]
    exact cbe_l41 reach cost s _ g (by omega) hx _ 0 rfl (Nat.zero_le _)
def bestF (reach : List (List Bool)) (cost : List Int) : List Int := bif validF reach cost 12 64 != 0 then [] else bestL reach cost
def bestC (reach : List (List Bool)) (cost : List Int) : Int := bif validF reach cost 12 64 != 0 then 0 else costF cost (bestL reach cost)
theorem cbe_con (reach : List (List Bool)) (cost : List Int) (hb : reach.length ≤ 9223372036854775807) : Con Try.prog 37 [.d (.sl (.sl .bool)) reach, .d (.sl (.int .i64)) cost] [.d (.sl (.int .i64)) (bestF reach cost), .d (.int .i64) (bestC reach cost), .d (.int .i64) (validF reach cost 12 64)] := by
  refine Ctx.Res.con (C := cbe_C) (ctx_ok env14_ok) ?_ (fn := Try.f37) (by kernel_rfl) (by kernel_rfl)
  refine cbe_s _ _ ?_
  unfold cbe_t bestF bestC
  rw [decide_eq_true (show reach.length ≤ 9223372036854775807 from hb)]
  dsimp only
  cases hv : (validF reach cost 12 64 != 0) with
  | true => exact ⟨0, rfl⟩
  | false =>
    have e : validF reach cost 12 64 = 0 := by simpa using hv
    have g := good_of_valid (t := 12) (p := 64) e
    have h := g.s3 (by omega) (by omega)
    have hp := g.p
    rw [decide_eq_true h, e, decide_eq_true (show (covF reach).length ≤ 64 by rw [covF_len]; omega), decide_eq_false (show ¬ (reach.length : Int) < 0 by omega)]
    exact cbe_l22 reach cost g _ 0 rfl (Nat.zero_le _)
theorem rbe_l35 (reach : List (List Bool)) (cost : List Int) (s : Nat) (r : List RV) (g : Good reach cost 12 64) (hs : s < 4096)
    (hk : rbe_C.Runs 20 (rbe_h20 reach cost (IntKind.i64.wrap ((s : Int) + 1)) (bestTo reach cost (s + 1)).isSome ((bestTo reach cost (s + 1)).getD [])) r) :
    ∀ d k, reach.length - k = d → k ≤ reach.length → rbe_C.Runs 35 (rbe_h35 reach cost ((bestTo reach cost s).getD []) (bestTo reach cost s).isSome (s : Int) (k : Int) (setTo s k)) r := by
  have hn := g.n
  have hp := g.p
  have hc := g.len
  have h3 := g.s3 (by omega) (by omega)
  intro d
  induction d with
  | zero =>
    intro k hd hkl
    have hl := setTo_len s reach.length
    have cp := costP_set hc g.c hn s
    have cp0 : costP cost [] := ⟨rfl, List.all_eq_true.2 fun c hcm => by simpa using g.c c hcm, by simp⟩
    refine rbe_h35_s _ _ _ _ _ _ _ ?_
    unfold rbe_h35_t
    rw [ge_dec (by omega), show k = reach.length by omega, decide_eq_true (show small3 reach ∧ (setTo s reach.length).length ≤ 1000000 from ⟨h3, by omega⟩), decide_eq_true cp, decide_eq_true (show (setTo s reach.length).length ≤ 1000000 by omega)]
    unfold bestTo at hk
    dsimp only
    cases c1 : coversF reach (setTo s reach.length) with
    | false => rw [c1] at hk; exact hk
    | true =>
      rw [c1, Bool.true_and] at hk
      try dsimp only
      cases ho : bestTo reach cost s with
      | none =>
        rw [ho] at hk
        rw [Option.getD_none, decide_eq_true cp0]
        exact hk
      | some b =>
        rw [ho] at hk
        obtain ⟨s', _, hb, _⟩ := bestTo_set ho
        have cpb : costP cost b := by rw [hb]; exact costP_set hc g.c hn s'
        have hlb := setTo_len s' reach.length
        rw [← hb] at hlb
        have b0 := costF_bd g.c b
        have b1 := costF_bd g.c (setTo s reach.length)
        unfold better at hk
        rw [Option.getD_some, Option.isSome_some, Bool.not_true, decide_eq_true cpb, wrap64 (show -9223372036854775808 ≤ costF cost (setTo s reach.length) - costF cost b by omega) (by omega)]
        dsimp only at hk ⊢
        rw [show decide (costF cost (setTo s reach.length) - costF cost b < 0) = decide (costF cost (setTo s reach.length) < costF cost b) from decide_eq_decide.2 (by omega), show (costF cost (setTo s reach.length) - costF cost b == 0) = (costF cost (setTo s reach.length) == costF cost b) by rw [Bool.eq_iff_iff]; simp; omega]
        cases c2 : decide (costF cost (setTo s reach.length) < costF cost b) with
        | true => rw [c2] at hk; exact hk
        | false =>
          rw [c2] at hk
          dsimp only
          cases c3 : (costF cost (setTo s reach.length) == costF cost b) with
          | false => rw [c3] at hk; exact hk
          | true =>
            rw [c3] at hk
            dsimp only
            cases c4 : befF (setTo s reach.length) b with
            | true => rw [c4] at hk; exact hk
            | false => rw [c4] at hk; exact hk
  | succ d ih =>
    intro k hd hkl
    have hlt : k < reach.length := by omega
    have hx := ih (k + 1) (by omega) (by omega)
    have hl := setTo_len s k
    refine rbe_h35_s _ _ _ _ _ _ _ ?_
    unfold rbe_h35_t
    rw [lt_dec hlt, decide_eq_false (show ¬ (k : Int) < 0 by omega), bit_r s k (by omega), wrapS (by omega), List.length_singleton, app_ok (by omega) (by omega)]
    dsimp only
    unfold setTo at hx
    cases hb : s.testBit k with
    | false => rw [hb, cond_false, List.append_nil] at hx; exact hx
    | true => rw [hb, cond_true] at hx; exact hx
theorem rbe_l20 (reach : List (List Bool)) (cost : List Int) (g : Good reach cost 12 64) :
    ∀ (d s : Nat), 2 ^ reach.length - s = d → s ≤ 2 ^ reach.length → rbe_C.Runs 20 (rbe_h20 reach cost (s : Int) (bestTo reach cost s).isSome ((bestTo reach cost s).getD [])) [.d (.sl (.int .i64)) (bestL reach cost), .d (.int .i64) (costF cost (bestL reach cost)), .d (.int .i64) 0] := by
  have hn := g.n
  have hl := p12 hn
  intro d
  induction d with
  | zero =>
    intro s hd hs
    obtain ⟨b, hb⟩ := best_some reach cost
    obtain ⟨s', _, hbs, _⟩ := bestTo_set hb
    refine rbe_h20_s _ _ _ _ _ ⟨0, ?_⟩
    unfold rbe_h20_t
    rw [lim hn, ge_dec (by omega), decide_eq_false (show ¬ (reach.length : Int) < 0 by omega), show s = 2 ^ reach.length by omega]
    unfold bestL
    rw [hb, Option.getD_some, hbs, decide_eq_true (costP_set g.len g.c hn s')]
  | succ d ih =>
    intro s hd hs
    have hx := ih (s + 1) (by omega) (by omega)
    rw [← wrapS (show s + 1 ≤ 9223372036854775807 by omega)] at hx
    refine rbe_h20_s _ _ _ _ _ ?_
    unfold rbe_h20_t
    rw [lim hn, lt_dec (show s < 2 ^ reach.length by omega), decide_eq_false (show ¬ (reach.length : Int) < 0 by omega)]
    exact rbe_l35 reach cost s _ g (by omega) hx _ 0 rfl (Nat.zero_le _)
theorem rbe_con (reach : List (List Bool)) (cost : List Int) (hb : reach.length ≤ 9223372036854775807) : Con Try.prog 38 [.d (.sl (.sl .bool)) reach, .d (.sl (.int .i64)) cost] [.d (.sl (.int .i64)) (bestF reach cost), .d (.int .i64) (bestC reach cost), .d (.int .i64) (validF reach cost 12 64)] := by
  refine Ctx.Res.con (C := rbe_C) (ctx_ok env14r_ok) ?_ (fn := Try.f38) (by kernel_rfl) (by kernel_rfl)
  refine rbe_s _ _ ?_
  unfold rbe_t bestF bestC
  rw [decide_eq_true (show reach.length ≤ 9223372036854775807 from hb)]
  dsimp only
  cases hv : (validF reach cost 12 64 != 0) with
  | true => exact ⟨0, rfl⟩
  | false =>
    have e : validF reach cost 12 64 = 0 := by simpa using hv
    have g := good_of_valid (t := 12) (p := 64) e
    rw [e]
    exact rbe_l20 reach cost g _ 0 rfl (Nat.zero_le _)
end Go.Proofs.Ytfkidjkpgliffaa
