/- choose: masks, lists in order, sets: plain; mask, before, slices.Compare walk. -/
import Derived.Test.YtfkidjkpgliffaaCh10
namespace Go.Proofs.Ytfkidjkpgliffaa
open Go.RowKit
def maskN (l : List Bool) : Nat → Nat
  | 0 => 0
  | k + 1 => maskN l k ||| (bif l.getD k false then 2 ^ k else 0)
theorem maskN_bit (l : List Bool) (i : Nat) : ∀ k, (maskN l k).testBit i = (decide (i < k) && l.getD i false)
  | 0 => by simp [maskN]
  | k + 1 => by
    rw [maskN, Nat.testBit_or, maskN_bit l i k]
    by_cases h : i = k
    · subst h
      rw [decide_eq_false (Nat.lt_irrefl i), decide_eq_true (Nat.lt_succ_self i)]
      cases l.getD i false with
      | true => simp [Nat.testBit_two_pow]
      | false => simp
    · rw [show decide (i < k + 1) = decide (i < k) from decide_eq_decide.2 (by omega)]
      cases l.getD k false with
      | true => rw [cond_true, Nat.testBit_two_pow, decide_eq_false (show ¬ k = i from fun e => h e.symm), Bool.or_false]
      | false => rw [cond_false, Nat.zero_testBit, Bool.or_false]
theorem maskN_lt (l : List Bool) (k : Nat) : maskN l k < 2 ^ k := Nat.lt_pow_two_of_testBit _ fun i hi => by rw [maskN_bit, decide_eq_false (by omega)]; rfl
theorem maskN_lt64 {l : List Bool} {k : Nat} (h : k ≤ 64) : maskN l k < 2 ^ 64 := Nat.lt_of_lt_of_le (maskN_lt l k) (Nat.pow_le_pow_right (by decide) h)
def maskF (l : List Bool) : Int := (maskN l l.length : Int)
theorem mask_all (l : List Bool) (i : Nat) : (maskN l l.length).testBit i = l.getD i false := by
  rw [maskN_bit]
  by_cases h : i < l.length
  · rw [decide_eq_true h, Bool.true_and]
  · rw [decide_eq_false h, Bool.false_and]; simp [List.getD, h]
theorem wrapU {x : Nat} (h : x < 2 ^ 64) : IntKind.u64.wrap (x : Int) = (x : Int) := by
  have : (2 : Nat) ^ 64 = 18446744073709551616 := by decide
  exact IntWalk.u64_in _ ⟨by omega, by omega⟩
theorem or64 {a b : Nat} (ha : a < 2 ^ 64) (hb : b < 2 ^ 64) : IntKind.u64.wrap (BitVec.toNat (BitVec.ofInt 64 (a : Int) ||| BitVec.ofInt 64 (b : Int))) = ((a ||| b : Nat) : Int) := by
  rw [BitVec.ofInt_natCast, BitVec.ofInt_natCast, BitVec.toNat_or, BitVec.toNat_ofNat, BitVec.toNat_ofNat, Nat.mod_eq_of_lt ha, Nat.mod_eq_of_lt hb, wrapU (Nat.or_lt_two_pow ha hb)]
theorem pow_min {k : Nat} (h : k ≤ 64) : (1 * 2 ^ (min ((k : Int)).toNat 64) : Int) = ((2 ^ k : Nat) : Int) := by
  rw [toNat_nat, Nat.min_eq_left h, Int.one_mul]
  simp
def befF : List Int → List Int → Bool
  | [], [] => false
  | [], _ :: _ => true
  | _ :: _, [] => false
  | x :: a, y :: b => bif x != y then decide (x < y) else befF a b
def cmpF : List Int → List Int → Int
  | [], [] => 0
  | [], _ :: _ => -1
  | _ :: _, [] => 1
  | x :: a, y :: b => bif decide (x < y) then -1 else bif decide (x > y) then 1 else cmpF a b
theorem cmp_bef : ∀ a b, decide (cmpF a b < 0) = befF a b
  | [], [] => rfl
  | [], _ :: _ => rfl
  | _ :: _, [] => rfl
  | x :: a, y :: b => by
    unfold cmpF befF
    by_cases h1 : x < y
    · rw [decide_eq_true h1, show (x != y) = true by simp; omega]; rfl
    · rw [decide_eq_false h1]
      by_cases h2 : x > y
      · rw [decide_eq_true h2, show (x != y) = true by simp; omega]; rfl
      · rw [decide_eq_false h2, show (x != y) = false by simp; omega]
        exact cmp_bef a b
def mask_nt : NT := [((71, 8), { keep := [3, 6, 7, 8], hl := 0 })]
noncomputable def mask_C : Ctx := ⟨Try.prog, ft, tys, [], mask_nt⟩
def mask_h8 (l : List Bool) (s3 : Int) (s8 : Int) : Cfg := ⟨71, [.blk 0, .seq 25], [(3, .d (.int .u64) s3), (6, .d (.sl .bool) l), (7, SI (l.length : Int)), (8, SI s8)], [], 0, []⟩
def mask_t (k : Nat → Cfg → Option (List RV)) (l : List Bool) : Option (List RV) := k 8 (mask_h8 l 0 0)
theorem mask_eq (k : Nat → Cfg → Option (List RV)) (l : List Bool) : go Try.prog ft tys [] mask_nt k 4000 (start 71 [.d (.sl .bool) l]) (.node 0) = mask_t k l := by kernel_rfl
theorem mask_s (l : List Bool) {r : List RV} (h : ∃ n, mask_t (mask_C.k n) l = some r) : mask_C.Res 71 [.d (.sl .bool) l] r := by
  obtain ⟨n, h⟩ := h
  exact ⟨n, (mask_eq _ l).trans h⟩
def mask_h8_t (k : Nat → Cfg → Option (List RV)) (l : List Bool) (s3 : Int) (s8 : Int) : Option (List RV) := match decide (s8 < (l.length : Int)) with | true => (match getI l s8 with | some x1 => (match x1 with | true => (match decide (s8 < (0 : Int)) with | true => none | false => k 8 (mask_h8 l (IntKind.u64.wrap (BitVec.toNat (BitVec.ofInt 64 s3 ||| BitVec.ofInt 64 (IntKind.u64.wrap (1 * 2 ^ (min (s8).toNat 64)))))) (IntKind.i64.wrap (s8 + 1)))) | false => k 8 (mask_h8 l s3 (IntKind.i64.wrap (s8 + 1)))) | none => none) | false => some [RV.d (.int .u64) s3]
theorem mask_h8_eq (k : Nat → Cfg → Option (List RV)) (l : List Bool) (s3 : Int) (s8 : Int) : go Try.prog ft tys [] mask_nt k 4000 { mask_h8 l s3 s8 with K := .lp 8 :: (mask_h8 l s3 s8).K } (.node 9) = mask_h8_t k l s3 s8 := by kernel_rfl
theorem mask_h8_s (l : List Bool) (s3 : Int) (s8 : Int) {r : List RV} (h : ∃ n, mask_h8_t (mask_C.k n) l s3 s8 = some r) : mask_C.Runs 8 (mask_h8 l s3 s8) r := by
  obtain ⟨n, h⟩ := h
  exact ⟨n + 1, (mask_h8_eq _ l s3 s8).trans h⟩
def bef_nt : NT := [((73, 6), { keep := [0, 1, 5], hl := 0 })]
noncomputable def bef_C : Ctx := ⟨Try.prog, ft, tys, [], bef_nt⟩
def bef_h6 (a : List Int) (b : List Int) (s5 : Int) : Cfg := ⟨73, [.blk 0, .seq 23], [(0, .d (.sl (.int .i64)) a), (1, .d (.sl (.int .i64)) b), (5, SI s5)], [], 0, []⟩
def bef_t (k : Nat → Cfg → Option (List RV)) (a : List Int) (b : List Int) : Option (List RV) := k 6 (bef_h6 a b 0)
theorem bef_eq (k : Nat → Cfg → Option (List RV)) (a : List Int) (b : List Int) : go Try.prog ft tys [] bef_nt k 4000 (start 73 [.d (.sl (.int .i64)) a, .d (.sl (.int .i64)) b]) (.node 0) = bef_t k a b := by kernel_rfl
theorem bef_s (a : List Int) (b : List Int) {r : List RV} (h : ∃ n, bef_t (bef_C.k n) a b = some r) : bef_C.Res 73 [.d (.sl (.int .i64)) a, .d (.sl (.int .i64)) b] r := by
  obtain ⟨n, h⟩ := h
  exact ⟨n, (bef_eq _ a b).trans h⟩
def bef_h6_t (k : Nat → Cfg → Option (List RV)) (a : List Int) (b : List Int) (s5 : Int) : Option (List RV) := match decide (s5 < (a.length : Int)) with | true => (match decide (s5 < (b.length : Int)) with | true => (match getI a s5 with | some x1 => (match getI b s5 with | some x2 => (match x1 != x2 with | true => (match getI a s5 with | some x3 => (match getI b s5 with | some x4 => some [RV.d .bool (decide (x3 < x4))] | none => none) | none => none) | false => k 6 (bef_h6 a b (IntKind.i64.wrap (s5 + 1)))) | none => none) | none => none) | false => some [RV.d .bool (decide ((a.length : Int) < (b.length : Int)))]) | false => some [RV.d .bool (decide ((a.length : Int) < (b.length : Int)))]
theorem bef_h6_eq (k : Nat → Cfg → Option (List RV)) (a : List Int) (b : List Int) (s5 : Int) : go Try.prog ft tys [] bef_nt k 4000 { bef_h6 a b s5 with K := .lp 6 :: (bef_h6 a b s5).K } (.node 7) = bef_h6_t k a b s5 := by kernel_rfl
theorem bef_h6_s (a : List Int) (b : List Int) (s5 : Int) {r : List RV} (h : ∃ n, bef_h6_t (bef_C.k n) a b s5 = some r) : bef_C.Runs 6 (bef_h6 a b s5) r := by
  obtain ⟨n, h⟩ := h
  exact ⟨n + 1, (bef_h6_eq _ a b s5).trans h⟩
def cmp_nt : NT := [((72, 6), { keep := [0, 1, 9, 10, 11], hl := 0 })]
noncomputable def cmp_C : Ctx := ⟨Try.prog, ft, tys, [], cmp_nt⟩
def cmp_h6 (a : List Int) (b : List Int) (s11 : Int) : Cfg := ⟨72, [.blk 0, .seq 37], [(0, .d (.sl (.int .i64)) a), (1, .d (.sl (.int .i64)) b), (9, .d (.sl (.int .i64)) a), (10, SI (a.length : Int)), (11, SI s11)], [], 0, []⟩
def cmp_t (k : Nat → Cfg → Option (List RV)) (a : List Int) (b : List Int) : Option (List RV) := k 6 (cmp_h6 a b 0)
theorem cmp_eq (k : Nat → Cfg → Option (List RV)) (a : List Int) (b : List Int) : go Try.prog ft tys [] cmp_nt k 4000 (start 72 [.d (.sl (.int .i64)) a, .d (.sl (.int .i64)) b]) (.node 0) = cmp_t k a b := by kernel_rfl
theorem cmp_s (a : List Int) (b : List Int) {r : List RV} (h : ∃ n, cmp_t (cmp_C.k n) a b = some r) : cmp_C.Res 72 [.d (.sl (.int .i64)) a, .d (.sl (.int .i64)) b] r := by
  obtain ⟨n, h⟩ := h
  exact ⟨n, (cmp_eq _ a b).trans h⟩
def cmp_h6_t (k : Nat → Cfg → Option (List RV)) (a : List Int) (b : List Int) (s11 : Int) : Option (List RV) := match decide (s11 < (a.length : Int)) with | true => (match getI a s11 with | some x1 => (match decide (s11 ≥ (b.length : Int)) with | true => some [RV.d (.int .i64) 1] | false => (match getI b s11 with | some x2 => (match x1 != x1 with | true => (match x2 != x2 with | true => (match 0 != 0 with | true => some [RV.d (.int .i64) 0] | false => k 6 (cmp_h6 a b (IntKind.i64.wrap (s11 + 1)))) | false => (match (-1) != 0 with | true => some [RV.d (.int .i64) (-1)] | false => k 6 (cmp_h6 a b (IntKind.i64.wrap (s11 + 1))))) | false => (match x2 != x2 with | true => (match 1 != 0 with | true => some [RV.d (.int .i64) 1] | false => k 6 (cmp_h6 a b (IntKind.i64.wrap (s11 + 1)))) | false => (match decide (x1 < x2) with | true => (match (-1) != 0 with | true => some [RV.d (.int .i64) (-1)] | false => k 6 (cmp_h6 a b (IntKind.i64.wrap (s11 + 1)))) | false => (match decide (x1 > x2) with | true => (match 1 != 0 with | true => some [RV.d (.int .i64) 1] | false => k 6 (cmp_h6 a b (IntKind.i64.wrap (s11 + 1)))) | false => (match 0 != 0 with | true => some [RV.d (.int .i64) 0] | false => k 6 (cmp_h6 a b (IntKind.i64.wrap (s11 + 1)))))))) | none => none)) | none => none) | false => (match decide ((a.length : Int) < (b.length : Int)) with | true => some [RV.d (.int .i64) (-1)] | false => some [RV.d (.int .i64) 0])
theorem cmp_h6_eq (k : Nat → Cfg → Option (List RV)) (a : List Int) (b : List Int) (s11 : Int) : go Try.prog ft tys [] cmp_nt k 4000 { cmp_h6 a b s11 with K := .lp 6 :: (cmp_h6 a b s11).K } (.node 7) = cmp_h6_t k a b s11 := by kernel_rfl
theorem cmp_h6_s (a : List Int) (b : List Int) (s11 : Int) {r : List RV} (h : ∃ n, cmp_h6_t (cmp_C.k n) a b s11 = some r) : cmp_C.Runs 6 (cmp_h6 a b s11) r := by
  obtain ⟨n, h⟩ := h
  exact ⟨n + 1, (cmp_h6_eq _ a b s11).trans h⟩
theorem mask_loop (l : List Bool) (h : l.length ≤ 64) : ∀ d k, l.length - k = d → k ≤ l.length → mask_C.Runs 8 (mask_h8 l (maskN l k : Int) (k : Int)) [.d (.int .u64) (maskF l)] := by
  intro d
  induction d with
  | zero =>
    intro k hd hk
    refine mask_h8_s _ _ _ ⟨0, ?_⟩
    unfold mask_h8_t
    rw [ge_dec (by omega), show k = l.length by omega]
    rfl
  | succ d ih =>
    intro k hd hk
    have hlt : k < l.length := by omega
    have hn := ih (k + 1) (by omega) (by omega)
    have hp : (2 : Nat) ^ k < 2 ^ 64 := Nat.pow_lt_pow_right (by decide) (by omega)
    refine mask_h8_s _ _ _ ?_
    unfold mask_h8_t
    rw [lt_dec hlt, getI_nat, List.getElem?_eq_getElem hlt, decide_eq_false (show ¬ (k : Int) < 0 by omega), wrapS (by omega), pow_min (by omega), wrapU hp, or64 (maskN_lt64 (by omega)) hp]
    unfold maskN at hn
    rw [getD_get hlt] at hn
    cases hc : l[k] with
    | true => rw [hc] at hn; exact hn
    | false => rw [hc, cond_false, Nat.or_zero] at hn; exact hn
theorem mask_con (l : List Bool) (h : l.length ≤ 64) : Con Try.prog 71 [.d (.sl .bool) l] [.d (.int .u64) (maskF l)] := by
  refine Ctx.Res.con (C := mask_C) (ctx_ok (E := []) trivial) ?_ (fn := Try.f71) (by kernel_rfl) (by kernel_rfl)
  refine mask_s _ ?_
  unfold mask_t
  exact mask_loop l h _ 0 rfl (Nat.zero_le _)
theorem bef_loop (a b : List Int) (hb : a.length ≤ 1000000) : ∀ d k, a.length - k = d → k ≤ a.length → k ≤ b.length → bef_C.Runs 6 (bef_h6 a b (k : Int)) [.d .bool (befF (a.drop k) (b.drop k))] := by
  intro d
  induction d with
  | zero =>
    intro k hd hk hkb
    refine bef_h6_s _ _ _ ⟨0, ?_⟩
    unfold bef_h6_t
    rw [ge_dec (by omega), drop_end (show a.length ≤ k by omega)]
    by_cases h : k < b.length
    · rw [drop_get h, show decide ((a.length : Int) < (b.length : Int)) = true from lt_dec (by omega)]; rfl
    · rw [drop_end (show b.length ≤ k by omega), show decide ((a.length : Int) < (b.length : Int)) = false from ge_dec (by omega)]; rfl
  | succ d ih =>
    intro k hd hk hkb
    have h1 : k < a.length := by omega
    refine bef_h6_s _ _ _ ?_
    unfold bef_h6_t
    rw [lt_dec h1, drop_get h1]
    by_cases h : k < b.length
    · have hn := ih (k + 1) (by omega) (by omega) (by omega)
      rw [drop_get h, lt_dec h, getI_nat, getI_nat, List.getElem?_eq_getElem h1, List.getElem?_eq_getElem h, wrapS (by omega)]
      unfold befF
      dsimp only
      cases (a[k] != b[k]) with
      | true => exact ⟨0, rfl⟩
      | false => exact hn
    · rw [drop_end (show b.length ≤ k by omega), show decide ((k : Int) < (b.length : Int)) = false from ge_dec (by omega), show decide ((a.length : Int) < (b.length : Int)) = false from ge_dec (by omega)]
      exact ⟨0, rfl⟩
theorem bef_con (a b : List Int) (hb : a.length ≤ 1000000) : Con Try.prog 73 [.d (.sl (.int .i64)) a, .d (.sl (.int .i64)) b] [.d .bool (befF a b)] := by
  refine Ctx.Res.con (C := bef_C) (ctx_ok (E := []) trivial) ?_ (fn := Try.f73) (by kernel_rfl) (by kernel_rfl)
  refine bef_s _ _ ?_
  unfold bef_t
  exact bef_loop a b hb _ 0 rfl (Nat.zero_le _) (Nat.zero_le _)
theorem cmp_loop (a b : List Int) (hb : a.length ≤ 1000000) : ∀ d k, a.length - k = d → k ≤ a.length → k ≤ b.length → cmp_C.Runs 6 (cmp_h6 a b (k : Int)) [.d (.int .i64) (cmpF (a.drop k) (b.drop k))] := by
  intro d
  induction d with
  | zero =>
    intro k hd hk hkb
    refine cmp_h6_s _ _ _ ⟨0, ?_⟩
    unfold cmp_h6_t
    rw [ge_dec (by omega), drop_end (show a.length ≤ k by omega)]
    by_cases h : k < b.length
    · rw [drop_get h, show decide ((a.length : Int) < (b.length : Int)) = true from lt_dec (by omega)]; rfl
    · rw [drop_end (show b.length ≤ k by omega), show decide ((a.length : Int) < (b.length : Int)) = false from ge_dec (by omega)]; rfl
  | succ d ih =>
    intro k hd hk hkb
    have h1 : k < a.length := by omega
    refine cmp_h6_s _ _ _ ?_
    unfold cmp_h6_t
    rw [lt_dec h1, drop_get h1, getI_nat, List.getElem?_eq_getElem h1]
    by_cases h : k < b.length
    · have hn := ih (k + 1) (by omega) (by omega) (by omega)
      rw [drop_get h, decide_eq_false (show ¬ (k : Int) ≥ (b.length : Int) by omega), getI_nat, List.getElem?_eq_getElem h, wrapS (by omega)]
      unfold cmpF
      dsimp only
      rw [show (a[k] != a[k]) = false by simp, show (b[k] != b[k]) = false by simp]
      dsimp only
      cases decide (a[k] < b[k]) with
      | true => exact ⟨0, rfl⟩
      | false =>
        dsimp only
        cases decide (a[k] > b[k]) with
        | true => exact ⟨0, rfl⟩
        | false => exact hn
    · rw [drop_end (show b.length ≤ k by omega), decide_eq_true (show (k : Int) ≥ (b.length : Int) by omega)]
      exact ⟨0, rfl⟩
theorem cmp_con (a b : List Int) (hb : a.length ≤ 1000000) : Con Try.prog 72 [.d (.sl (.int .i64)) a, .d (.sl (.int .i64)) b] [.d (.int .i64) (cmpF a b)] := by
  refine Ctx.Res.con (C := cmp_C) (ctx_ok (E := []) trivial) ?_ (fn := Try.f72) (by kernel_rfl) (by kernel_rfl)
  refine cmp_s _ _ ?_
  unfold cmp_t
  exact cmp_loop a b hb _ 0 rfl (Nat.zero_le _) (Nat.zero_le _)
/-- The tools of a set, as bits. -/
def setTo (s : Nat) : Nat → List Int
  | 0 => []
  | k + 1 => setTo s k ++ (bif s.testBit k then [(k : Int)] else [])
theorem setTo_len (s : Nat) : ∀ k, (setTo s k).length ≤ k
  | 0 => Nat.le_refl 0
  | k + 1 => by
    have := setTo_len s k
    unfold setTo
    rw [List.length_append]
    cases s.testBit k <;> simp <;> omega
theorem setTo_mem {s : Nat} {a : Int} : ∀ {k : Nat}, a ∈ setTo s k ↔ 0 ≤ a ∧ a < (k : Int) ∧ s.testBit a.toNat = true
  | 0 => by simp [setTo]; omega
  | k + 1 => by
    have ih := setTo_mem (s := s) (a := a) (k := k)
    unfold setTo
    rw [List.mem_append, ih]
    constructor
    · rintro (⟨h1, h2, h3⟩ | h)
      · exact ⟨h1, by omega, h3⟩
      · cases hc : s.testBit k with
        | false => rw [hc] at h; simp at h
        | true =>
          rw [hc] at h
          have : a = (k : Int) := by simpa using h
          subst this
          exact ⟨by omega, by omega, by rw [toNat_nat]; exact hc⟩
    · rintro ⟨h1, h2, h3⟩
      by_cases h : a = (k : Int)
      · subst h
        rw [toNat_nat] at h3
        rw [h3]
        simp
      · exact .inl ⟨h1, by omega, h3⟩
theorem setTo_nodup (s : Nat) : ∀ k, (setTo s k).Nodup
  | 0 => List.nodup_nil
  | k + 1 => by
    unfold setTo
    rw [List.nodup_append]
    refine ⟨setTo_nodup s k, by cases s.testBit k <;> simp, fun a ha b hb e => ?_⟩
    have h1 := (setTo_mem.1 ha).2.1
    cases hc : s.testBit k with
    | false => rw [hc] at hb; simp at hb
    | true =>
      rw [hc] at hb
      have : b = (k : Int) := by simpa using hb
      omega
theorem div_nat (s k : Nat) (h : k ≤ 64) : Int.fdiv (s : Int) (2 ^ (min ((k : Int)).toNat 64)) = ((s / 2 ^ k : Nat) : Int) := by
  rw [toNat_nat, Nat.min_eq_left h, show ((2 : Int) ^ k) = ((2 ^ k : Nat) : Int) by simp, Int.ofNat_fdiv]
theorem bit_c (s k : Nat) (hs : s < 2 ^ 64) (h : k ≤ 64) : ((IntKind.i64.wrap (BitVec.toNat (BitVec.ofInt 64 (Int.fdiv (s : Int) (2 ^ (min ((k : Int)).toNat 64))) &&& BitVec.ofInt 64 1))) == 1) = s.testBit k := by
  have h1 : s / 2 ^ k < 2 ^ 64 := Nat.lt_of_le_of_lt (Nat.div_le_self _ _) hs
  rw [div_nat s k h, BitVec.ofInt_natCast, show (1 : Int) = ((1 : Nat) : Int) from rfl, BitVec.ofInt_natCast, BitVec.toNat_and, BitVec.toNat_ofNat, BitVec.toNat_ofNat, Nat.mod_eq_of_lt h1, show 1 % 2 ^ 64 = 1 from rfl, Nat.and_one_is_mod, Nat.testBit_eq_decide_div_mod_eq, wrap64 (by omega) (by omega)]
  generalize s / 2 ^ k = q
  rw [Bool.eq_iff_iff, beq_iff_eq, decide_eq_true_iff]
  omega
theorem bit_r (s k : Nat) (h : k ≤ 64) : ((Int.tmod (Int.fdiv (s : Int) (2 ^ (min ((k : Int)).toNat 64))) 2) == 1) = s.testBit k := by
  rw [div_nat s k h, show (2 : Int) = ((2 : Nat) : Int) from rfl, ← Int.ofNat_tmod, Nat.testBit_eq_decide_div_mod_eq]
  generalize s / 2 ^ k = q
  rw [Bool.eq_iff_iff, beq_iff_eq, decide_eq_true_iff]
  omega
/-- What the tools of a list reach, as bits. -/
def rowM (reach : List (List Bool)) (t : Int) : Nat := maskN (reach.getD t.toNat []) (reach.getD t.toNat []).length
def haveL (reach : List (List Bool)) (l : List Int) : Nat := l.foldl (fun m t => m ||| rowM reach t) 0
theorem haveL_snoc (reach : List (List Bool)) (l : List Int) (t : Int) : haveL reach (l ++ [t]) = haveL reach l ||| rowM reach t := by simp [haveL]
theorem have_bit0 (reach : List (List Bool)) (i : Nat) : ∀ (l : List Int) (m : Nat), (l.foldl (fun m t => m ||| rowM reach t) m).testBit i = (m.testBit i || reachedF reach l (i : Int))
  | [], m => by simp [reachedF]
  | t :: l, m => by
    rw [List.foldl_cons, have_bit0 reach i l, Nat.testBit_or, rowM, mask_all, Bool.or_assoc]
    simp [reachedF]
theorem have_bit (reach : List (List Bool)) (i : Nat) (l : List Int) : (haveL reach l).testBit i = reachedF reach l (i : Int) := by
  unfold haveL
  rw [have_bit0]; simp
theorem reached_out {reach : List (List Bool)} {l : List Int} {i : Nat} (h : rect reach) (hr : inR reach l = true) (hi : npc reach ≤ i) : reachedF reach l (i : Int) = false := by
  unfold reachedF
  rw [List.any_eq_false]
  intro t ht
  have := List.all_eq_true.1 hr t ht
  rw [Bool.and_eq_true] at this
  have hm := h _ (getD_mem (xs := reach) (t := t) [] (of_decide_eq_true this.1) (of_decide_eq_true this.2))
  rw [toNat_nat]
  generalize reach.getD t.toNat [] = row at hm
  simp [List.getD, show ¬ i < row.length by omega]
theorem have_lt {reach : List (List Bool)} {l : List Int} (h : rect reach) (hr : inR reach l = true) (hp : npc reach ≤ 64) : haveL reach l < 2 ^ 64 :=
  Nat.lt_pow_two_of_testBit _ fun i hi => by rw [have_bit]; exact reached_out h hr (by omega)
theorem have_eq {reach : List (List Bool)} {l : List Int} (h : rect reach) (hr : inR reach l = true) : ((haveL reach l : Int) == maskF (covF reach)) = coversF reach l := by
  have hb : ∀ i, (maskN (covF reach) (covF reach).length).testBit i = (covF reach).getD i false := fun i => mask_all _ i
  unfold coversF maskF
  rw [hr, opn_any, Bool.true_and, Bool.eq_iff_iff, beq_iff_eq, List.all_eq_true]
  constructor
  · intro e p hp
    have e : haveL reach l = maskN (covF reach) (covF reach).length := by omega
    have := hb p
    rw [← e, have_bit] at this
    rw [← this]
    cases reachedF reach l (p : Int) <;> rfl
  · intro hall
    congr 1
    apply Nat.eq_of_testBit_eq
    intro i
    rw [hb, have_bit]
    by_cases hi : i < npc reach
    · have := hall i (List.mem_range.2 hi)
      cases hx : reachedF reach l (i : Int) with
      | false =>
        rw [hx] at this
        cases hc : (covF reach).getD i false with
        | false => rfl
        | true => rw [hc] at this; cases this
      | true =>
        unfold reachedF at hx
        rw [List.any_eq_true] at hx
        obtain ⟨t, ht, he⟩ := hx
        have ht := List.all_eq_true.1 hr t ht
        rw [Bool.and_eq_true] at ht
        have t0 := of_decide_eq_true ht.1
        have t1 := of_decide_eq_true ht.2
        rw [toNat_nat] at he
        exact ((cov_iff hi).2 ⟨t.toNat, by omega, he⟩).symm
    · rw [reached_out h hr (by omega)]
      simp [List.getD, covF_len, hi]
theorem setTo_inR (reach : List (List Bool)) (s : Nat) {k : Nat} (hk : k ≤ reach.length) : inR reach (setTo s k) = true := by
  refine List.all_eq_true.2 fun a ha => ?_
  have := setTo_mem.1 ha
  rw [decide_eq_true this.1, decide_eq_true (show a < (reach.length : Int) by omega)]; rfl
end Go.Proofs.Ytfkidjkpgliffaa
