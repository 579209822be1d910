/- The reference's integers: trim, signed, limbs, short, compare, plus, minus, times. -/
import Derived.Test.YtcaiedfkohigjaaGreatZ10
namespace Go.Proofs.YtcaiedfkohigjaaGreat
open Go.RowKit
def shtP (a : List Int) : Prop := LimS a ∧ val a < 18446744073709551616
instance (a : List Int) : Decidable (shtP a) := by unfold shtP; infer_instance
def can2 (a b : List Int) : Prop := (can a ∧ a.length ≤ 1000000000) ∧ (can b ∧ b.length ≤ 1000000000)
instance (a b : List Int) : Decidable (can2 a b) := by unfold can2; infer_instance
def LimT (l : List Int) : Prop := Lim l ∧ l.length ≤ 10000000
instance (l : List Int) : Decidable (LimT l) := by unfold LimT; infer_instance
theorem limS_limbs {n : Nat} (h : (limbs n).length ≤ 1000000000) : LimS (limbs n) := ⟨limbs_lim n, h⟩
theorem val_limbs {v : Int} (h : 0 ≤ v) : val (limbs v.toNat) = v := by rw [limbs_val]; omega
theorem limbs_len_int {v : Int} {k : Nat} (h0 : 0 ≤ v) (h : v < pw k) : (limbs v.toNat).length ≤ k := limbs_len_le (by omega)
def envQg0 : Env := []
theorem envQg0_ok : EnvAll Tryz.prog envQg0 := trivial
def qtrm_nt : NT := [((124, 4), { keep := [0], pure_ := [(0, .int .u32)], hl := 0 })]
noncomputable def qtrm_C : Ctx := ⟨Tryz.prog, ft, tys, envQg0, qtrm_nt⟩
def qtrm_h4 (s0 : List Int) : Cfg := ⟨124, [.blk 0, .seq 13], [(0, .d (.sl (.int .u32)) s0)], [], 0, []⟩
noncomputable def qtrm_t (k : Nat → Cfg → Option (List RV)) (a : List Int) : Option (List RV) := k 4 (qtrm_h4 a)
theorem qtrm_eq (k : Nat → Cfg → Option (List RV)) (a : List Int) : go Tryz.prog ft tys envQg0 qtrm_nt k 4000 (start 124 [.d (.sl (.int .u32)) a]) (.node 0) = qtrm_t k a := (go2_eq _ _ _ _ _ _ _ _ _).symm.trans (show go2 Tryz.prog ft tys envQg0 qtrm_nt k 4000 (start 124 [.d (.sl (.int .u32)) a]) (.node 0) = qtrm_t k a by kernel_rfl)
theorem qtrm_s (a : List Int) {rX : List RV} (hX : ∃ nX, qtrm_t (qtrm_C.k nX) a = some rX) : qtrm_C.Res 124 [.d (.sl (.int .u32)) a] rX := by
  obtain ⟨nX, hX⟩ := hX
  exact ⟨nX, (qtrm_eq _ a).trans hX⟩
noncomputable def qtrm_h4_t (k : Nat → Cfg → Option (List RV)) (s0 : List Int) : Option (List RV) := match decide ((s0.length : Int) > 0) with | true => (match getI s0 (IntKind.i64.wrap ((s0.length : Int) - 1)) with | some x1 => (match x1 == 0 with | true => (match decide ((0 : Int) ≤ 0 ∧ 0 ≤ IntKind.i64.wrap ((s0.length : Int) - 1) ∧ IntKind.i64.wrap ((s0.length : Int) - 1) ≤ (s0.length : Int)) with | true => k 4 (qtrm_h4 ((s0.take (IntKind.i64.wrap ((s0.length : Int) - 1)).toNat).drop (0 : Int).toNat)) | false => none) | false => some [RV.d (.sl (.int .u32)) s0]) | none => none) | false => some [RV.d (.sl (.int .u32)) s0]
theorem qtrm_h4_eq (k : Nat → Cfg → Option (List RV)) (s0 : List Int) : go Tryz.prog ft tys envQg0 qtrm_nt k 4000 { qtrm_h4 s0 with K := .lp 4 :: (qtrm_h4 s0).K } (.node 5) = qtrm_h4_t k s0 := (go2_eq _ _ _ _ _ _ _ _ _).symm.trans (show go2 Tryz.prog ft tys envQg0 qtrm_nt k 4000 { qtrm_h4 s0 with K := .lp 4 :: (qtrm_h4 s0).K } (.node 5) = qtrm_h4_t k s0 by kernel_rfl)
theorem qtrm_h4_s (s0 : List Int) {rX : List RV} (hX : ∃ nX, qtrm_h4_t (qtrm_C.k nX) s0 = some rX) : qtrm_C.Runs 4 (qtrm_h4 s0) rX := by
  obtain ⟨nX, hX⟩ := hX
  exact ⟨nX + 1, (qtrm_h4_eq _ s0).trans hX⟩
def qsht_nt : NT := [((134, 8), { keep := [0, 3, 4], hl := 0 })]
noncomputable def qsht_C : Ctx := ⟨Tryz.prog, ft, tys, envQg0, qsht_nt⟩
def qsht_h8 (a : List Int) (s3 : Int) (s4 : Int) : Cfg := ⟨134, [.blk 0, .seq 19], [(0, .d (.sl (.int .u32)) a), (3, .d (.int .u64) s3), (4, SI s4)], [], 0, []⟩
noncomputable def qsht_t (k : Nat → Cfg → Option (List RV)) (a : List Int) : Option (List RV) := k 8 (qsht_h8 a 0 (IntKind.i64.wrap ((a.length : Int) - 1)))
theorem qsht_eq (k : Nat → Cfg → Option (List RV)) (a : List Int) : go Tryz.prog ft tys envQg0 qsht_nt k 4000 (start 134 [.d (.sl (.int .u32)) a]) (.node 0) = qsht_t k a := (go2_eq _ _ _ _ _ _ _ _ _).symm.trans (show go2 Tryz.prog ft tys envQg0 qsht_nt k 4000 (start 134 [.d (.sl (.int .u32)) a]) (.node 0) = qsht_t k a by kernel_rfl)
theorem qsht_s (a : List Int) {rX : List RV} (hX : ∃ nX, qsht_t (qsht_C.k nX) a = some rX) : qsht_C.Res 134 [.d (.sl (.int .u32)) a] rX := by
  obtain ⟨nX, hX⟩ := hX
  exact ⟨nX, (qsht_eq _ a).trans hX⟩
noncomputable def qsht_h8_t (k : Nat → Cfg → Option (List RV)) (a : List Int) (s3 : Int) (s4 : Int) : Option (List RV) := match decide (s4 ≥ 0) with | true => (match getI a s4 with | some x1 => k 8 (qsht_h8 a (IntKind.u64.wrap ((IntKind.u64.wrap (s3 * 1000000000)) + (IntKind.u64.wrap x1))) (IntKind.i64.wrap (s4 - 1))) | none => none) | false => some [RV.d (.int .u64) s3]
theorem qsht_h8_eq (k : Nat → Cfg → Option (List RV)) (a : List Int) (s3 : Int) (s4 : Int) : go Tryz.prog ft tys envQg0 qsht_nt k 4000 { qsht_h8 a s3 s4 with K := .lp 8 :: (qsht_h8 a s3 s4).K } (.node 9) = qsht_h8_t k a s3 s4 := (go2_eq _ _ _ _ _ _ _ _ _).symm.trans (show go2 Tryz.prog ft tys envQg0 qsht_nt k 4000 { qsht_h8 a s3 s4 with K := .lp 8 :: (qsht_h8 a s3 s4).K } (.node 9) = qsht_h8_t k a s3 s4 by kernel_rfl)
theorem qsht_h8_s (a : List Int) (s3 : Int) (s4 : Int) {rX : List RV} (hX : ∃ nX, qsht_h8_t (qsht_C.k nX) a s3 s4 = some rX) : qsht_C.Runs 8 (qsht_h8 a s3 s4) rX := by
  obtain ⟨nX, hX⟩ := hX
  exact ⟨nX + 1, (qsht_h8_eq _ a s3 s4).trans hX⟩
def qlbs_nt : NT := [((95, 6), { keep := [0, 3], own := [(3, 137, .int .u32)], hl := 1 })]
noncomputable def qlbs_C : Ctx := ⟨Tryz.prog, ft, tys, envQg0, qlbs_nt⟩
def qlbs_h6 (s0 : Int) (r0 : List Int) : Cfg := ⟨95, [.blk 0, .seq 17], [(0, .d (.int .u64) s0), (3, .own 0)], [.row 137 (.int .u32) r0], 0, []⟩
noncomputable def qlbs_t (k : Nat → Cfg → Option (List RV)) (u : Int) : Option (List RV) := k 6 (qlbs_h6 u ([]))
theorem qlbs_eq (k : Nat → Cfg → Option (List RV)) (u : Int) : go Tryz.prog ft tys envQg0 qlbs_nt k 4000 (start 95 [.d (.int .u64) u]) (.node 0) = qlbs_t k u := (go2_eq _ _ _ _ _ _ _ _ _).symm.trans (show go2 Tryz.prog ft tys envQg0 qlbs_nt k 4000 (start 95 [.d (.int .u64) u]) (.node 0) = qlbs_t k u by kernel_rfl)
theorem qlbs_s (u : Int) {rX : List RV} (hX : ∃ nX, qlbs_t (qlbs_C.k nX) u = some rX) : qlbs_C.Res 95 [.d (.int .u64) u] rX := by
  obtain ⟨nX, hX⟩ := hX
  exact ⟨nX, (qlbs_eq _ u).trans hX⟩
noncomputable def qlbs_h6_t (k : Nat → Cfg → Option (List RV)) (s0 : Int) (r0 : List Int) : Option (List RV) := match decide (s0 > 0) with | true => (match decide ((r0.length + ([IntKind.u32.wrap (Int.tmod s0 1000000000)]).length) * 4 ≤ 140737488355328 ∧ r0.length + ([IntKind.u32.wrap (Int.tmod s0 1000000000)]).length ≤ 140737488355328) with | true => k 6 (qlbs_h6 (IntKind.u64.wrap (Int.tdiv s0 1000000000)) (r0 ++ ([IntKind.u32.wrap (Int.tmod s0 1000000000)]))) | false => none) | false => some [RV.new 137 (.int .u32) r0]
theorem qlbs_h6_eq (k : Nat → Cfg → Option (List RV)) (s0 : Int) (r0 : List Int) : go Tryz.prog ft tys envQg0 qlbs_nt k 4000 { qlbs_h6 s0 r0 with K := .lp 6 :: (qlbs_h6 s0 r0).K } (.node 7) = qlbs_h6_t k s0 r0 := (go2_eq _ _ _ _ _ _ _ _ _).symm.trans (show go2 Tryz.prog ft tys envQg0 qlbs_nt k 4000 { qlbs_h6 s0 r0 with K := .lp 6 :: (qlbs_h6 s0 r0).K } (.node 7) = qlbs_h6_t k s0 r0 by kernel_rfl)
theorem qlbs_h6_s (s0 : Int) (r0 : List Int) {rX : List RV} (hX : ∃ nX, qlbs_h6_t (qlbs_C.k nX) s0 r0 = some rX) : qlbs_C.Runs 6 (qlbs_h6 s0 r0) rX := by
  obtain ⟨nX, hX⟩ := hX
  exact ⟨nX + 1, (qlbs_h6_eq _ s0 r0).trans hX⟩
def qcpr_nt : NT := [((90, 22), { keep := [0, 1, 5], hl := 0 })]
noncomputable def qcpr_C : Ctx := ⟨Tryz.prog, ft, tys, envQg0, qcpr_nt⟩
def qcpr_h22 (a : List Int) (b : List Int) (s5 : Int) : Cfg := ⟨90, [.blk 0, .seq 47], [(0, .d (.sl (.int .u32)) a), (1, .d (.sl (.int .u32)) b), (5, SI s5)], [], 0, []⟩
noncomputable def qcpr_t (k : Nat → Cfg → Option (List RV)) (a : List Int) (b : List Int) : Option (List RV) := match (a.length : Int) != (b.length : Int) with | true => (match decide ((a.length : Int) < (b.length : Int)) with | true => some [RV.d (.int .i64) (-1)] | false => some [RV.d (.int .i64) 1]) | false => k 22 (qcpr_h22 a b (IntKind.i64.wrap ((a.length : Int) - 1)))
theorem qcpr_eq (k : Nat → Cfg → Option (List RV)) (a : List Int) (b : List Int) : go Tryz.prog ft tys envQg0 qcpr_nt k 4000 (start 90 [.d (.sl (.int .u32)) a, .d (.sl (.int .u32)) b]) (.node 0) = qcpr_t k a b := (go2_eq _ _ _ _ _ _ _ _ _).symm.trans (show go2 Tryz.prog ft tys envQg0 qcpr_nt k 4000 (start 90 [.d (.sl (.int .u32)) a, .d (.sl (.int .u32)) b]) (.node 0) = qcpr_t k a b by kernel_rfl)
theorem qcpr_s (a : List Int) (b : List Int) {rX : List RV} (hX : ∃ nX, qcpr_t (qcpr_C.k nX) a b = some rX) : qcpr_C.Res 90 [.d (.sl (.int .u32)) a, .d (.sl (.int .u32)) b] rX := by
  obtain ⟨nX, hX⟩ := hX
  exact ⟨nX, (qcpr_eq _ a b).trans hX⟩
noncomputable def qcpr_h22_t (k : Nat → Cfg → Option (List RV)) (a : List Int) (b : List Int) (s5 : Int) : Option (List RV) := match decide (s5 ≥ 0) with | true => (match getI a s5 with | some x1 => (match getI b s5 with | some x2 => (match decide (x1 < x2) with | true => some [RV.d (.int .i64) (-1)] | false => (match getI a s5 with | some x3 => (match getI b s5 with | some x4 => (match decide (x3 > x4) with | true => some [RV.d (.int .i64) 1] | false => k 22 (qcpr_h22 a b (IntKind.i64.wrap (s5 - 1)))) | none => none) | none => none)) | none => none) | none => none) | false => some [RV.d (.int .i64) 0]
theorem qcpr_h22_eq (k : Nat → Cfg → Option (List RV)) (a : List Int) (b : List Int) (s5 : Int) : go Tryz.prog ft tys envQg0 qcpr_nt k 4000 { qcpr_h22 a b s5 with K := .lp 22 :: (qcpr_h22 a b s5).K } (.node 23) = qcpr_h22_t k a b s5 := (go2_eq _ _ _ _ _ _ _ _ _).symm.trans (show go2 Tryz.prog ft tys envQg0 qcpr_nt k 4000 { qcpr_h22 a b s5 with K := .lp 22 :: (qcpr_h22 a b s5).K } (.node 23) = qcpr_h22_t k a b s5 by kernel_rfl)
theorem qcpr_h22_s (a : List Int) (b : List Int) (s5 : Int) {rX : List RV} (hX : ∃ nX, qcpr_h22_t (qcpr_C.k nX) a b s5 = some rX) : qcpr_C.Runs 22 (qcpr_h22 a b s5) rX := by
  obtain ⟨nX, hX⟩ := hX
  exact ⟨nX + 1, (qcpr_h22_eq _ a b s5).trans hX⟩
theorem qtrm_loop (l : List Int) (hl : Lim l) (hs : l.length ≤ 1000000000) : ∀ (n : Nat), n ≤ l.length → (∀ j (hj : j < l.length), n ≤ j → l[j] = 0) → qtrm_C.Runs 4 (qtrm_h4 (l.take n)) [.d (.sl (.int .u32)) (limbs (val l).toNat)] := by
  intro n
  induction n with
  | zero =>
    intro _ h
    refine qtrm_h4_s _ ⟨0, ?_⟩
    rw [← can_take hl (Nat.zero_le _) h (.inl rfl)]
    rfl
  | succ n ih =>
    intro hn h
    have hlen : (l.take (n + 1)).length = n + 1 := by rw [List.length_take, Nat.min_eq_left hn]
    have hget : (l.take (n + 1))[n]? = some l[n] := by rw [List.getElem?_take_of_lt (by omega), List.getElem?_eq_getElem (by omega)]
    by_cases hz : l[n] = 0
    · obtain ⟨q, hq⟩ := ih (by omega) fun j hj hk => by
        rcases Nat.eq_or_lt_of_le hk with e | e
        · subst e; exact hz
        · exact h j hj e
      refine qtrm_h4_s _ ⟨q, ?_⟩
      unfold qtrm_h4_t
      rw [hlen, decide_eq_true (by omega), wlen (by omega) (by omega), getI_nat, show n + 1 - 1 = n from rfl, hget]
      dsimp only
      rw [hz, decide_eq_true (show (0 : Int) ≤ 0 ∧ (0 : Int) ≤ (n : Int) ∧ (n : Int) ≤ ((n + 1 : Nat) : Int) by omega), toNat_nat, List.take_take, Nat.min_eq_left (by omega)]
      exact hq
    · refine qtrm_h4_s _ ⟨0, ?_⟩
      unfold qtrm_h4_t
      rw [hlen, decide_eq_true (by omega), wlen (by omega) (by omega), getI_nat, show n + 1 - 1 = n from rfl, hget]
      dsimp only
      rw [show (l[n] == 0) = false by simpa using hz, ← can_take hl hn h (.inr ⟨Nat.lt_of_succ_le hn, hz⟩)]
theorem qtrm_con (a : List Int) (h : LimS a) : Con Tryz.prog 124 [.d (.sl (.int .u32)) a] [.d (.sl (.int .u32)) (limbs (val a).toNat)] := by
  refine Ctx.Res.con (C := qtrm_C) (ctx_ok envQg0_ok) ?_ (fn := Tryz.f124) (by kernel_rfl) (by kernel_rfl)
  obtain ⟨q, hq⟩ := qtrm_loop a h.1 h.2 a.length (Nat.le_refl _) (fun j hj hk => by omega)
  rw [List.take_length] at hq
  exact qtrm_s _ ⟨q, hq⟩
theorem qlbs_loop (u : Nat) : ∀ (r : List Int), (u : Int) < 18446744073709551616 → r.length + 3 ≤ 1000 + 3 - (limbs u).length → qlbs_C.Runs 6 (qlbs_h6 (u : Int) r) [.new 137 (.int .u32) (r ++ limbs u)] := by
  induction u using limbs_ind with
  | h0 =>
    intro r _ _
    refine qlbs_h6_s _ _ ⟨0, ?_⟩
    unfold qlbs_h6_t
    rw [limbs_zero, List.append_nil]
    rfl
  | h1 n hn ih =>
    intro r hu hr
    rw [limbs_pos hn] at hr
    simp only [List.length_cons] at hr
    obtain ⟨q, hq⟩ := ih (r ++ [((n % 1000000000 : Nat) : Int)]) (by omega) (by rw [List.length_append]; simp only [List.length_singleton]; omega)
    refine qlbs_h6_s _ _ ⟨q, ?_⟩
    unfold qlbs_h6_t
    rw [decide_eq_true (by omega), tmodP (by omega), tdivP (by omega), wr64 (x := (n : Int) / 1000000000) (by omega) (by omega), wr32 (x := (n : Int) % 1000000000) (by omega) (by omega)]
    simp only [List.length_singleton]
    rw [app_ok (by omega) (by omega), limbs_pos hn]
    rw [show ((n : Int) % 1000000000) = ((n % 1000000000 : Nat) : Int) by omega, show ((n : Int) / 1000000000) = ((n / 1000000000 : Nat) : Int) by omega]
    rw [List.append_assoc] at hq
    exact hq
theorem qlbs_con (u : Int) (h : u64P u) : Con Tryz.prog 95 [.d (.int .u64) u] [.new 137 (.int .u32) (limbs u.toNat)] := by
  refine Ctx.Res.con (C := qlbs_C) (ctx_ok envQg0_ok) ?_ (fn := Tryz.f95) (by kernel_rfl) (by kernel_rfl)
  have h0 := h.1
  have h1 := h.2
  have hl := limbs_len_le (n := u.toNat) (k := 3) (Int.lt_of_lt_of_le (show (u.toNat : Int) < 18446744073709551616 by omega) (by decide))
  obtain ⟨q, hq⟩ := qlbs_loop u.toNat [] (by omega) (by simp; omega)
  rw [show ((u.toNat : Nat) : Int) = u by omega] at hq
  exact qlbs_s _ ⟨q, hq⟩
theorem qsht_loop (a : List Int) (h : shtP a) : ∀ (i : Nat), i ≤ a.length → qsht_C.Runs 8 (qsht_h8 a (val (a.drop i)) ((i : Int) - 1)) [.d (.int .u64) (val a)]
  | 0, _ => by
    refine qsht_h8_s _ _ _ ⟨0, ?_⟩
    unfold qsht_h8_t
    rw [decide_eq_false (by omega), List.drop_zero]
  | i + 1, hi => by
    obtain ⟨n, ih⟩ := qsht_loop a h i (by omega)
    have h0 := h.1.2
    have hlim := h.1.1
    have hlt := h.2
    have hd : a.drop i = a[i] :: a.drop (i + 1) := drop_get (by omega)
    have hle : ∀ j, val (a.drop j) ≤ val a ∧ 0 ≤ val (a.drop j) := fun j => by
      have l1 : Lim (a.drop j) := fun y hy => hlim y (List.mem_of_mem_drop hy)
      have l2 : Lim (a.take j) := fun y hy => hlim y (List.mem_of_mem_take hy)
      have := val_append (a.take j) (a.drop j)
      rw [List.take_append_drop] at this
      have n1 := val_nonneg l1
      have n2 := val_nonneg l2
      have p := pw_pos (a.take j).length
      have : val (a.drop j) ≤ pw (a.take j).length * val (a.drop j) := by
        have := Int.mul_le_mul_of_nonneg_right (show 1 ≤ pw (a.take j).length by omega) n1
        omega
      omega
    have hb := hlim a[i] (List.getElem_mem _)
    have hv1 := hle i
    have hv2 := hle (i + 1)
    rw [hd] at hv1 ih
    simp only [val] at hv1 ih
    refine qsht_h8_s _ _ _ ⟨n, ?_⟩
    unfold qsht_h8_t
    rw [show (((i + 1 : Nat) : Int) - 1) = (i : Int) by omega, decide_eq_true (by omega), getI_nat, List.getElem?_eq_getElem (by omega)]
    dsimp only
    rw [wr64 (x := val (a.drop (i + 1)) * 1000000000) (by omega) (by omega), wr64 (x := a[i]) (by omega) (by omega), wr64 (by omega) (by omega), wrap64 (by omega) (by omega)]
    rw [show val (a.drop (i + 1)) * 1000000000 + a[i] = a[i] + 1000000000 * val (a.drop (i + 1)) by omega]
    exact ih
theorem qsht_con (a : List Int) (h : shtP a) : Con Tryz.prog 134 [.d (.sl (.int .u32)) a] [.d (.int .u64) (val a)] := by
  refine Ctx.Res.con (C := qsht_C) (ctx_ok envQg0_ok) ?_ (fn := Tryz.f134) (by kernel_rfl) (by kernel_rfl)
  obtain ⟨n, hn⟩ := qsht_loop a h a.length (Nat.le_refl _)
  have h0 := h.1.2
  refine qsht_s _ ⟨n, ?_⟩
  unfold qsht_t
  rw [List.drop_length] at hn
  rw [wrap64 (by omega) (by omega)]
  exact hn
theorem qcpr_loop (a b : List Int) (la : Lim a) (lb : Lim b) (hl : a.length = b.length) (hs : a.length ≤ 1000000000) : ∀ (n : Nat), n ≤ a.length → a.drop n = b.drop n →
    qcpr_C.Runs 22 (qcpr_h22 a b ((n : Int) - 1)) [.d (.int .i64) (cmpI (val a) (val b))] := by
  intro n
  induction n with
  | zero =>
    intro _ h
    refine qcpr_h22_s _ _ _ ⟨0, ?_⟩
    have e : val a = val b := by simp only [List.drop_zero] at h; rw [h]
    unfold qcpr_h22_t
    rw [decide_eq_false (by omega), e, cmpI_eq]
  | succ n ih =>
    intro hn h
    have h1 : n < a.length := by omega
    have h2 : n < b.length := by omega
    rcases Int.lt_trichotomy a[n] b[n] with hc | hc | hc
    · refine qcpr_h22_s _ _ _ ⟨0, ?_⟩
      have := cmp_at la lb h1 h2 h hc
      unfold qcpr_h22_t
      rw [show ((n + 1 : Nat) : Int) - 1 = (n : Int) by omega, decide_eq_true (by omega), getI_nat, getI_nat, List.getElem?_eq_getElem h1, List.getElem?_eq_getElem h2]
      dsimp only
      rw [decide_eq_true hc, cmpI_lt (by omega)]
    · obtain ⟨q, hq⟩ := ih (by omega) (by rw [List.drop_eq_getElem_cons h1, List.drop_eq_getElem_cons h2, hc, h])
      refine qcpr_h22_s _ _ _ ⟨q, ?_⟩
      unfold qcpr_h22_t
      rw [show ((n + 1 : Nat) : Int) - 1 = (n : Int) by omega, decide_eq_true (by omega), getI_nat, getI_nat, List.getElem?_eq_getElem h1, List.getElem?_eq_getElem h2]
      dsimp only
      rw [decide_eq_false (by omega), decide_eq_false (by omega), wrap64 (x := (n : Int) - 1) (by omega) (by omega)]
      exact hq
    · refine qcpr_h22_s _ _ _ ⟨0, ?_⟩
      have := cmp_at lb la h2 h1 h.symm hc
      unfold qcpr_h22_t
      rw [show ((n + 1 : Nat) : Int) - 1 = (n : Int) by omega, decide_eq_true (by omega), getI_nat, getI_nat, List.getElem?_eq_getElem h1, List.getElem?_eq_getElem h2]
      dsimp only
      rw [decide_eq_false (by omega), decide_eq_true hc, cmpI_gt (by omega)]
theorem can_len {a b : List Int} (ha : can a) (hb : can b) (h : a.length < b.length) : val a < val b := by
  have ea := can_eq ha
  have eb := can_eq hb
  have := len_cmp (a := (val a).toNat) (b := (val b).toNat) (by rw [← ea, ← eb]; exact h)
  have := val_nonneg ha.1
  omega
theorem qcpr_con (a : List Int) (b : List Int) (h : can2 a b) : Con Tryz.prog 90 [.d (.sl (.int .u32)) a, .d (.sl (.int .u32)) b] [.d (.int .i64) (cmpI (val a) (val b))] := by
  refine Ctx.Res.con (C := qcpr_C) (ctx_ok envQg0_ok) ?_ (fn := Tryz.f90) (by kernel_rfl) (by kernel_rfl)
  obtain ⟨⟨ha, sa⟩, hb, sb⟩ := h
  by_cases hl : a.length = b.length
  · obtain ⟨q, hq⟩ := qcpr_loop a b ha.1 hb.1 hl sa _ (Nat.le_refl _) (by rw [List.drop_length, hl, List.drop_length])
    refine qcpr_s _ _ ⟨q, ?_⟩
    unfold qcpr_t
    rw [show ((a.length : Int) != (b.length : Int)) = false by simp [hl], wrap64 (x := (a.length : Int) - 1) (by omega) (by omega)]
    exact hq
  · refine qcpr_s _ _ ⟨0, ?_⟩
    unfold qcpr_t
    rw [show ((a.length : Int) != (b.length : Int)) = true by simp; omega]
    dsimp only
    rcases Nat.lt_or_gt_of_ne hl with h1 | h1
    · have := can_len ha hb h1
      rw [decide_eq_true (by omega), cmpI_lt (by omega)]
    · have := can_len hb ha h1
      rw [decide_eq_false (by omega), cmpI_gt (by omega)]
def qtrm_sp : Spec := { keep := false, run := fun _ args k => match args with
  | [.d (.sl (.int .u32)) a] => match decide (LimS a) with
    | true => k [RV.d (.sl (.int .u32)) (limbs (val a).toNat)]
    | false => none
  | _ => none }
theorem qtrm_spec : callable Tryz.prog 124 = true ∧ SpecOk Tryz.prog 124 qtrm_sp ∧ ∀ g, qtrm_sp.mut_ = some g → MCon Tryz.prog 124 g := by
  refine ⟨by kernel_rfl, fun R args k r h => ?_, fun g h => by simp [qtrm_sp] at h⟩
  unfold qtrm_sp at h
  dsimp only at h
  split at h <;> try (cases h; done)
  split at h <;> try (cases h; done)
  rename_i hd
  exact ⟨_, h, qtrm_con _ (of_decide_eq_true hd)⟩

def qlbs_sp : Spec := { keep := false, run := fun _ args k => match args with
  | [.d (.int .u64) u] => match decide (u64P u) with
    | true => k [RV.new 137 (.int .u32) (limbs u.toNat)]
    | false => none
  | _ => none }
theorem qlbs_spec : callable Tryz.prog 95 = true ∧ SpecOk Tryz.prog 95 qlbs_sp ∧ ∀ g, qlbs_sp.mut_ = some g → MCon Tryz.prog 95 g := by
  refine ⟨by kernel_rfl, fun R args k r h => ?_, fun g h => by simp [qlbs_sp] at h⟩
  unfold qlbs_sp at h
  dsimp only at h
  split at h <;> try (cases h; done)
  split at h <;> try (cases h; done)
  rename_i hd
  exact ⟨_, h, qlbs_con _ (of_decide_eq_true hd)⟩

def qsht_sp : Spec := { keep := true, run := fun _ args k => match args with
  | [.d (.sl (.int .u32)) a] => match decide (shtP a) with
    | true => k [RV.d (.int .u64) (val a)]
    | false => none
  | _ => none }
theorem qsht_spec : callable Tryz.prog 134 = true ∧ SpecOk Tryz.prog 134 qsht_sp ∧ ∀ g, qsht_sp.mut_ = some g → MCon Tryz.prog 134 g := by
  refine ⟨by kernel_rfl, fun R args k r h => ?_, fun g h => by simp [qsht_sp] at h⟩
  unfold qsht_sp at h
  dsimp only at h
  split at h <;> try (cases h; done)
  split at h <;> try (cases h; done)
  rename_i hd
  exact ⟨_, h, qsht_con _ (of_decide_eq_true hd)⟩

def qcpr_sp : Spec := { keep := true, run := fun _ args k => match args with
  | [.d (.sl (.int .u32)) a, .d (.sl (.int .u32)) b] => match decide (can2 a b) with
    | true => k [RV.d (.int .i64) (cmpI (val a) (val b))]
    | false => none
  | _ => none }
theorem qcpr_spec : callable Tryz.prog 90 = true ∧ SpecOk Tryz.prog 90 qcpr_sp ∧ ∀ g, qcpr_sp.mut_ = some g → MCon Tryz.prog 90 g := by
  refine ⟨by kernel_rfl, fun R args k r h => ?_, fun g h => by simp [qcpr_sp] at h⟩
  unfold qcpr_sp at h
  dsimp only at h
  split at h <;> try (cases h; done)
  split at h <;> try (cases h; done)
  rename_i hd
  exact ⟨_, h, qcpr_con _ _ (of_decide_eq_true hd)⟩

def envQg1 : Env := [(124, qtrm_sp), (95, qlbs_sp), (134, qsht_sp), (90, qcpr_sp)]
theorem envQg1_ok : EnvAll Tryz.prog envQg1 := ⟨qtrm_spec, qlbs_spec, qsht_spec, qcpr_spec, trivial⟩
def qsgd_nt : NT := []
noncomputable def qsgd_C : Ctx := ⟨Tryz.prog, ft, tys, envQg1, qsgd_nt⟩
noncomputable def qsgd_t (_k : Nat → Cfg → Option (List RV)) (neg : Bool) (l : List Int) : Option (List RV) := match decide (LimS l) with | true => (match neg with | true => some [RV.d (.st (.pair .bool (.sl (.int .u32)))) (decide (((limbs (val l).toNat).length : Int) > 0), limbs (val l).toNat)] | false => some [RV.d (.st (.pair .bool (.sl (.int .u32)))) (false, limbs (val l).toNat)]) | false => none
theorem qsgd_eq (k : Nat → Cfg → Option (List RV)) (neg : Bool) (l : List Int) : go Tryz.prog ft tys envQg1 qsgd_nt k 4000 (start 91 [SB neg, .d (.sl (.int .u32)) l]) (.node 0) = qsgd_t k neg l := (go2_eq _ _ _ _ _ _ _ _ _).symm.trans (show go2 Tryz.prog ft tys envQg1 qsgd_nt k 4000 (start 91 [SB neg, .d (.sl (.int .u32)) l]) (.node 0) = qsgd_t k neg l by kernel_rfl)
theorem qsgd_s (neg : Bool) (l : List Int) {rX : List RV} (hX : ∃ nX, qsgd_t (qsgd_C.k nX) neg l = some rX) : qsgd_C.Res 91 [SB neg, .d (.sl (.int .u32)) l] rX := by
  obtain ⟨nX, hX⟩ := hX
  exact ⟨nX, (qsgd_eq _ neg l).trans hX⟩
def qpls_nt : NT := [((155, 16), { keep := [0, 1, 5, 6, 7], hl := 1 })]
noncomputable def qpls_C : Ctx := ⟨Tryz.prog, ft, tys, envQg1, qpls_nt⟩
def qpls_h16 (s0 : List Int) (s1 : List Int) (r0 : List Int) (s6 : Int) (s7 : Int) : Cfg := ⟨155, [.blk 0, .seq 37], [(0, .d (.sl (.int .u32)) s0), (1, .d (.sl (.int .u32)) s1), (5, .own 0), (6, .d (.int .u32) s6), (7, SI s7)], [.row 137 (.int .u32) r0], 0, []⟩
noncomputable def qpls_t (k : Nat → Cfg → Option (List RV)) (a : List Int) (b : List Int) : Option (List RV) := match decide ((a.length : Int) < (b.length : Int)) with | true => (match decide ((0 : Int) ≤ IntKind.i64.wrap ((b.length : Int) + 1) ∧ (IntKind.i64.wrap ((b.length : Int) + 1)) * ((4 : Nat) : Int) ≤ 140737488355328 ∧ IntKind.i64.wrap ((b.length : Int) + 1) ≤ 140737488355328) with | true => k 16 (qpls_h16 b a (List.replicate (IntKind.i64.wrap ((b.length : Int) + 1)).toNat (0 : Int)) 0 0) | false => none) | false => (match decide ((0 : Int) ≤ IntKind.i64.wrap ((a.length : Int) + 1) ∧ (IntKind.i64.wrap ((a.length : Int) + 1)) * ((4 : Nat) : Int) ≤ 140737488355328 ∧ IntKind.i64.wrap ((a.length : Int) + 1) ≤ 140737488355328) with | true => k 16 (qpls_h16 a b (List.replicate (IntKind.i64.wrap ((a.length : Int) + 1)).toNat (0 : Int)) 0 0) | false => none)
theorem qpls_eq (k : Nat → Cfg → Option (List RV)) (a : List Int) (b : List Int) : go Tryz.prog ft tys envQg1 qpls_nt k 4000 (start 155 [.d (.sl (.int .u32)) a, .d (.sl (.int .u32)) b]) (.node 0) = qpls_t k a b := (go2_eq _ _ _ _ _ _ _ _ _).symm.trans (show go2 Tryz.prog ft tys envQg1 qpls_nt k 4000 (start 155 [.d (.sl (.int .u32)) a, .d (.sl (.int .u32)) b]) (.node 0) = qpls_t k a b by kernel_rfl)
theorem qpls_s (a : List Int) (b : List Int) {rX : List RV} (hX : ∃ nX, qpls_t (qpls_C.k nX) a b = some rX) : qpls_C.Res 155 [.d (.sl (.int .u32)) a, .d (.sl (.int .u32)) b] rX := by
  obtain ⟨nX, hX⟩ := hX
  exact ⟨nX, (qpls_eq _ a b).trans hX⟩
noncomputable def qpls_h16_t (k : Nat → Cfg → Option (List RV)) (s0 : List Int) (s1 : List Int) (r0 : List Int) (s6 : Int) (s7 : Int) : Option (List RV) := match decide (s7 < (s0.length : Int)) with | true => (match getI s0 s7 with | some x1 => (match decide (s7 < (s1.length : Int)) with | true => (match getI s1 s7 with | some x2 => (match getI r0 s7 with | some _ => (match true, r0[(s7).toNat]? with | true, some _ => k 16 (qpls_h16 s0 s1 (r0.set ((s7).toNat) (Int.tmod (IntKind.u32.wrap ((IntKind.u32.wrap (s6 + x1)) + x2)) 1000000000)) (IntKind.u32.wrap (Int.tdiv (IntKind.u32.wrap ((IntKind.u32.wrap (s6 + x1)) + x2)) 1000000000)) (IntKind.i64.wrap (s7 + 1))) | _, _ => none) | none => none) | none => none) | false => (match getI r0 s7 with | some _ => (match true, r0[(s7).toNat]? with | true, some _x2 => k 16 (qpls_h16 s0 s1 (r0.set ((s7).toNat) (Int.tmod (IntKind.u32.wrap (s6 + x1)) 1000000000)) (IntKind.u32.wrap (Int.tdiv (IntKind.u32.wrap (s6 + x1)) 1000000000)) (IntKind.i64.wrap (s7 + 1))) | _, _ => none) | none => none)) | none => none) | false => (match getI r0 (s0.length : Int) with | some _ => (match true, r0[((s0.length : Int)).toNat]? with | true, some _x1 => (match decide (LimS (r0.set (((s0.length : Int)).toNat) s6)) with | true => some [RV.d (.sl (.int .u32)) (limbs (val (r0.set (((s0.length : Int)).toNat) s6)).toNat)] | false => none) | _, _ => none) | none => none)
theorem qpls_h16_eq (k : Nat → Cfg → Option (List RV)) (s0 : List Int) (s1 : List Int) (r0 : List Int) (s6 : Int) (s7 : Int) : go Tryz.prog ft tys envQg1 qpls_nt k 4000 { qpls_h16 s0 s1 r0 s6 s7 with K := .lp 16 :: (qpls_h16 s0 s1 r0 s6 s7).K } (.node 17) = qpls_h16_t k s0 s1 r0 s6 s7 := (go2_eq _ _ _ _ _ _ _ _ _).symm.trans (show go2 Tryz.prog ft tys envQg1 qpls_nt k 4000 { qpls_h16 s0 s1 r0 s6 s7 with K := .lp 16 :: (qpls_h16 s0 s1 r0 s6 s7).K } (.node 17) = qpls_h16_t k s0 s1 r0 s6 s7 by kernel_rfl)
theorem qpls_h16_s (s0 : List Int) (s1 : List Int) (r0 : List Int) (s6 : Int) (s7 : Int) {rX : List RV} (hX : ∃ nX, qpls_h16_t (qpls_C.k nX) s0 s1 r0 s6 s7 = some rX) : qpls_C.Runs 16 (qpls_h16 s0 s1 r0 s6 s7) rX := by
  obtain ⟨nX, hX⟩ := hX
  exact ⟨nX + 1, (qpls_h16_eq _ s0 s1 r0 s6 s7).trans hX⟩
def qmns_nt : NT := [((154, 10), { keep := [0, 1, 5, 6, 7], hl := 1 })]
noncomputable def qmns_C : Ctx := ⟨Tryz.prog, ft, tys, envQg1, qmns_nt⟩
def qmns_h10 (a : List Int) (b : List Int) (s7 : Int) (r0 : List Int) (s6 : Int) : Cfg := ⟨154, [.blk 0, .seq 37], [(0, .d (.sl (.int .u32)) a), (1, .d (.sl (.int .u32)) b), (5, .own 0), (6, .d (.int .u32) s6), (7, SI s7)], [.row 137 (.int .u32) r0], 0, []⟩
noncomputable def qmns_t (k : Nat → Cfg → Option (List RV)) (a : List Int) (b : List Int) : Option (List RV) := match decide ((0 : Int) ≤ (a.length : Int) ∧ (a.length : Int) * ((4 : Nat) : Int) ≤ 140737488355328 ∧ (a.length : Int) ≤ 140737488355328) with | true => k 10 (qmns_h10 a b 0 (List.replicate ((a.length : Int)).toNat (0 : Int)) 0) | false => none
theorem qmns_eq (k : Nat → Cfg → Option (List RV)) (a : List Int) (b : List Int) : go Tryz.prog ft tys envQg1 qmns_nt k 4000 (start 154 [.d (.sl (.int .u32)) a, .d (.sl (.int .u32)) b]) (.node 0) = qmns_t k a b := (go2_eq _ _ _ _ _ _ _ _ _).symm.trans (show go2 Tryz.prog ft tys envQg1 qmns_nt k 4000 (start 154 [.d (.sl (.int .u32)) a, .d (.sl (.int .u32)) b]) (.node 0) = qmns_t k a b by kernel_rfl)
theorem qmns_s (a : List Int) (b : List Int) {rX : List RV} (hX : ∃ nX, qmns_t (qmns_C.k nX) a b = some rX) : qmns_C.Res 154 [.d (.sl (.int .u32)) a, .d (.sl (.int .u32)) b] rX := by
  obtain ⟨nX, hX⟩ := hX
  exact ⟨nX, (qmns_eq _ a b).trans hX⟩
noncomputable def qmns_h10_t (k : Nat → Cfg → Option (List RV)) (a : List Int) (b : List Int) (s7 : Int) (r0 : List Int) (s6 : Int) : Option (List RV) := match decide (s7 < (a.length : Int)) with | true => (match getI a s7 with | some x1 => (match decide (s7 < (b.length : Int)) with | true => (match getI b s7 with | some x2 => (match decide ((IntKind.u32.wrap ((IntKind.u32.wrap ((IntKind.u32.wrap (x1 + 1000000000)) - s6)) - x2)) ≥ 1000000000) with | true => (match getI r0 s7 with | some _ => (match true, r0[(s7).toNat]? with | true, some _x3 => k 10 (qmns_h10 a b (IntKind.i64.wrap (s7 + 1)) (r0.set ((s7).toNat) (IntKind.u32.wrap ((IntKind.u32.wrap ((IntKind.u32.wrap ((IntKind.u32.wrap (x1 + 1000000000)) - s6)) - x2)) - 1000000000))) 0) | _, _ => none) | none => none) | false => (match getI r0 s7 with | some _ => (match true, r0[(s7).toNat]? with | true, some _x3 => k 10 (qmns_h10 a b (IntKind.i64.wrap (s7 + 1)) (r0.set ((s7).toNat) (IntKind.u32.wrap ((IntKind.u32.wrap ((IntKind.u32.wrap (x1 + 1000000000)) - s6)) - x2))) 1) | _, _ => none) | none => none)) | none => none) | false => (match decide ((IntKind.u32.wrap ((IntKind.u32.wrap (x1 + 1000000000)) - s6)) ≥ 1000000000) with | true => (match getI r0 s7 with | some _ => (match true, r0[(s7).toNat]? with | true, some _x2 => k 10 (qmns_h10 a b (IntKind.i64.wrap (s7 + 1)) (r0.set ((s7).toNat) (IntKind.u32.wrap ((IntKind.u32.wrap ((IntKind.u32.wrap (x1 + 1000000000)) - s6)) - 1000000000))) 0) | _, _ => none) | none => none) | false => (match getI r0 s7 with | some _ => (match true, r0[(s7).toNat]? with | true, some _x2 => k 10 (qmns_h10 a b (IntKind.i64.wrap (s7 + 1)) (r0.set ((s7).toNat) (IntKind.u32.wrap ((IntKind.u32.wrap (x1 + 1000000000)) - s6))) 1) | _, _ => none) | none => none))) | none => none) | false => (match decide (LimS r0) with | true => some [RV.d (.sl (.int .u32)) (limbs (val r0).toNat)] | false => none)
theorem qmns_h10_eq (k : Nat → Cfg → Option (List RV)) (a : List Int) (b : List Int) (s7 : Int) (r0 : List Int) (s6 : Int) : go Tryz.prog ft tys envQg1 qmns_nt k 4000 { qmns_h10 a b s7 r0 s6 with K := .lp 10 :: (qmns_h10 a b s7 r0 s6).K } (.node 11) = qmns_h10_t k a b s7 r0 s6 := (go2_eq _ _ _ _ _ _ _ _ _).symm.trans (show go2 Tryz.prog ft tys envQg1 qmns_nt k 4000 { qmns_h10 a b s7 r0 s6 with K := .lp 10 :: (qmns_h10 a b s7 r0 s6).K } (.node 11) = qmns_h10_t k a b s7 r0 s6 by kernel_rfl)
theorem qmns_h10_s (a : List Int) (b : List Int) (s7 : Int) (r0 : List Int) (s6 : Int) {rX : List RV} (hX : ∃ nX, qmns_h10_t (qmns_C.k nX) a b s7 r0 s6 = some rX) : qmns_C.Runs 10 (qmns_h10 a b s7 r0 s6) rX := by
  obtain ⟨nX, hX⟩ := hX
  exact ⟨nX + 1, (qmns_h10_eq _ a b s7 r0 s6).trans hX⟩
def qtms_nt : NT := [((92, 8), { keep := [0, 1, 5, 6], hl := 1 }), ((92, 23), { keep := [0, 1, 5, 6, 7, 8], hl := 1 })]
noncomputable def qtms_C : Ctx := ⟨Tryz.prog, ft, tys, envQg1, qtms_nt⟩
def qtms_h8 (a : List Int) (b : List Int) (s6 : Int) (r0 : List Int) : Cfg := ⟨92, [.blk 0, .seq 40], [(0, .d (.sl (.int .u32)) a), (1, .d (.sl (.int .u32)) b), (5, .own 0), (6, SI s6)], [.row 137 (.int .u32) r0], 0, []⟩
def qtms_h23 (a : List Int) (b : List Int) (s6 : Int) (s7 : Int) (s8 : Int) (r0 : List Int) : Cfg := ⟨92, [.blk 2, .seq 38, .blk 1, .seq 39, .lp 8, .blk 0, .seq 40], [(0, .d (.sl (.int .u32)) a), (1, .d (.sl (.int .u32)) b), (5, .own 0), (6, SI s6), (7, .d (.int .u64) s7), (8, SI s8)], [.row 137 (.int .u32) r0], 0, []⟩
noncomputable def qtms_t (k : Nat → Cfg → Option (List RV)) (a : List Int) (b : List Int) : Option (List RV) := match decide ((0 : Int) ≤ IntKind.i64.wrap ((a.length : Int) + (b.length : Int)) ∧ (IntKind.i64.wrap ((a.length : Int) + (b.length : Int))) * ((4 : Nat) : Int) ≤ 140737488355328 ∧ IntKind.i64.wrap ((a.length : Int) + (b.length : Int)) ≤ 140737488355328) with | true => k 8 (qtms_h8 a b 0 (List.replicate (IntKind.i64.wrap ((a.length : Int) + (b.length : Int))).toNat (0 : Int))) | false => none
theorem qtms_eq (k : Nat → Cfg → Option (List RV)) (a : List Int) (b : List Int) : go Tryz.prog ft tys envQg1 qtms_nt k 4000 (start 92 [.d (.sl (.int .u32)) a, .d (.sl (.int .u32)) b]) (.node 0) = qtms_t k a b := (go2_eq _ _ _ _ _ _ _ _ _).symm.trans (show go2 Tryz.prog ft tys envQg1 qtms_nt k 4000 (start 92 [.d (.sl (.int .u32)) a, .d (.sl (.int .u32)) b]) (.node 0) = qtms_t k a b by kernel_rfl)
theorem qtms_s (a : List Int) (b : List Int) {rX : List RV} (hX : ∃ nX, qtms_t (qtms_C.k nX) a b = some rX) : qtms_C.Res 92 [.d (.sl (.int .u32)) a, .d (.sl (.int .u32)) b] rX := by
  obtain ⟨nX, hX⟩ := hX
  exact ⟨nX, (qtms_eq _ a b).trans hX⟩
noncomputable def qtms_h8_t (k : Nat → Cfg → Option (List RV)) (a : List Int) (b : List Int) (s6 : Int) (r0 : List Int) : Option (List RV) := match decide (s6 < (a.length : Int)) with | true => k 23 (qtms_h23 a b s6 0 0 r0) | false => (match decide (LimS r0) with | true => some [RV.d (.sl (.int .u32)) (limbs (val r0).toNat)] | false => none)
theorem qtms_h8_eq (k : Nat → Cfg → Option (List RV)) (a : List Int) (b : List Int) (s6 : Int) (r0 : List Int) : go Tryz.prog ft tys envQg1 qtms_nt k 4000 { qtms_h8 a b s6 r0 with K := .lp 8 :: (qtms_h8 a b s6 r0).K } (.node 9) = qtms_h8_t k a b s6 r0 := (go2_eq _ _ _ _ _ _ _ _ _).symm.trans (show go2 Tryz.prog ft tys envQg1 qtms_nt k 4000 { qtms_h8 a b s6 r0 with K := .lp 8 :: (qtms_h8 a b s6 r0).K } (.node 9) = qtms_h8_t k a b s6 r0 by kernel_rfl)
theorem qtms_h8_s (a : List Int) (b : List Int) (s6 : Int) (r0 : List Int) {rX : List RV} (hX : ∃ nX, qtms_h8_t (qtms_C.k nX) a b s6 r0 = some rX) : qtms_C.Runs 8 (qtms_h8 a b s6 r0) rX := by
  obtain ⟨nX, hX⟩ := hX
  exact ⟨nX + 1, (qtms_h8_eq _ a b s6 r0).trans hX⟩
noncomputable def qtms_h23_t (k : Nat → Cfg → Option (List RV)) (a : List Int) (b : List Int) (s6 : Int) (s7 : Int) (s8 : Int) (r0 : List Int) : Option (List RV) := match decide (s8 < (b.length : Int)) with | true => (match getI r0 (IntKind.i64.wrap (s6 + s8)) with | some _ => (match true, r0[(IntKind.i64.wrap (s6 + s8)).toNat]? with | true, some x1 => (match getI a s6 with | some x2 => (match getI b s8 with | some x3 => (match getI r0 (IntKind.i64.wrap (s6 + s8)) with | some _ => (match true, r0[(IntKind.i64.wrap (s6 + s8)).toNat]? with | true, some _ => k 23 (qtms_h23 a b s6 (IntKind.u64.wrap (Int.tdiv (IntKind.u64.wrap ((IntKind.u64.wrap (s7 + (IntKind.u64.wrap x1))) + (IntKind.u64.wrap ((IntKind.u64.wrap x2) * (IntKind.u64.wrap x3))))) 1000000000)) (IntKind.i64.wrap (s8 + 1)) (r0.set ((IntKind.i64.wrap (s6 + s8)).toNat) (IntKind.u32.wrap (Int.tmod (IntKind.u64.wrap ((IntKind.u64.wrap (s7 + (IntKind.u64.wrap x1))) + (IntKind.u64.wrap ((IntKind.u64.wrap x2) * (IntKind.u64.wrap x3))))) 1000000000)))) | _, _ => none) | none => none) | none => none) | none => none) | _, _ => none) | none => none) | false => (match getI r0 (IntKind.i64.wrap (s6 + (b.length : Int))) with | some _ => (match true, r0[(IntKind.i64.wrap (s6 + (b.length : Int))).toNat]? with | true, some _x1 => k 8 (qtms_h8 a b (IntKind.i64.wrap (s6 + 1)) (r0.set ((IntKind.i64.wrap (s6 + (b.length : Int))).toNat) (IntKind.u32.wrap s7))) | _, _ => none) | none => none)
theorem qtms_h23_eq (k : Nat → Cfg → Option (List RV)) (a : List Int) (b : List Int) (s6 : Int) (s7 : Int) (s8 : Int) (r0 : List Int) : go Tryz.prog ft tys envQg1 qtms_nt k 4000 { qtms_h23 a b s6 s7 s8 r0 with K := .lp 23 :: (qtms_h23 a b s6 s7 s8 r0).K } (.node 24) = qtms_h23_t k a b s6 s7 s8 r0 := (go2_eq _ _ _ _ _ _ _ _ _).symm.trans (show go2 Tryz.prog ft tys envQg1 qtms_nt k 4000 { qtms_h23 a b s6 s7 s8 r0 with K := .lp 23 :: (qtms_h23 a b s6 s7 s8 r0).K } (.node 24) = qtms_h23_t k a b s6 s7 s8 r0 by kernel_rfl)
theorem qtms_h23_s (a : List Int) (b : List Int) (s6 : Int) (s7 : Int) (s8 : Int) (r0 : List Int) {rX : List RV} (hX : ∃ nX, qtms_h23_t (qtms_C.k nX) a b s6 s7 s8 r0 = some rX) : qtms_C.Runs 23 (qtms_h23 a b s6 s7 s8 r0) rX := by
  obtain ⟨nX, hX⟩ := hX
  exact ⟨nX + 1, (qtms_h23_eq _ a b s6 s7 s8 r0).trans hX⟩
theorem qsgd_con (neg : Bool) (l : List Int) (h : LimS l) : Con Tryz.prog 91 [.d .bool neg, .d (.sl (.int .u32)) l] [.d (.st (.pair .bool (.sl (.int .u32)))) (encI (sgnI neg (val l)))] := by
  refine Ctx.Res.con (C := qsgd_C) (ctx_ok envQg1_ok) (qsgd_s _ _ ⟨0, ?_⟩) (fn := Tryz.f91) (by kernel_rfl) (by kernel_rfl)
  have hv := val_nonneg h.1
  have hp : decide (((limbs (val l).toNat).length : Int) > 0) = decide (0 < val l) := by
    refine decide_eq_decide.2 ⟨fun g => ?_, fun g => ?_⟩
    · apply Classical.byContradiction
      intro hc
      rw [show (val l).toNat = 0 by omega, limbs_zero] at g
      simp at g
    · have : limbs (val l).toNat ≠ [] := fun e => by rw [limbs_nil] at e; omega
      have := List.length_pos_iff.2 this
      omega
  unfold qsgd_t
  rw [decide_eq_true h, encI_sgn neg hv, hp]
  cases neg <;> rfl
theorem qpls_loop (a b : List Int) (ha : LimT a) (hb : LimT b) (hab : b.length ≤ a.length) : ∀ (j i : Nat) (c : Int) (r : List Int), i + j = a.length → 0 ≤ c → c ≤ 1 → Lim r → r.length = a.length + 1 → (∀ k (hk : k < r.length), i ≤ k → r[k] = 0) → val r + pw i * c = val (a.take i) + val (b.take i) →
    qpls_C.Runs 16 (qpls_h16 a b r c (i : Int)) [.d (.sl (.int .u32)) (limbs (val a + val b).toNat)] := by
  have hsa := ha.2
  intro j
  induction j with
  | zero =>
    intro i c r hi c0 c1 hr hl hz hv
    obtain rfl : i = a.length := by omega
    have hir : a.length < r.length := by omega
    have hr0 := hz _ hir (Nat.le_refl _)
    have e : val (r.set a.length c) = val a + val b := by
      rw [val_set hir, hr0]
      rw [List.take_length, List.take_of_length_le hab] at hv
      grind
    refine qpls_h16_s _ _ _ _ _ ⟨0, ?_⟩
    unfold qpls_h16_t
    rw [ge_dec (Nat.le_refl _), getI_nat r, toNat_nat, List.getElem?_eq_getElem hir]
    dsimp only
    rw [decide_eq_true (show LimS (r.set a.length c) from ⟨hr.set _ ⟨c0, by omega⟩, by simp; omega⟩), e]
  | succ j ih =>
    intro i c r hi c0 c1 hr hl hz hv
    have hia : i < a.length := by omega
    have hir : i < r.length := by omega
    have xa := ha.1.get hia
    have hr0 := hz i hir (Nat.le_refl _)
    have step : ∀ (t : Int), 0 ≤ t → t < 2000000000 → val (b.take (i + 1)) = val (b.take i) + pw i * (t - a[i] - c) → qpls_C.Runs 16 (qpls_h16 a b (r.set i (t % 1000000000)) (t / 1000000000) ((i + 1 : Nat) : Int)) [.d (.sl (.int .u32)) (limbs (val a + val b).toNat)] := by
      intro t t0 t1 hb'
      refine ih (i + 1) (t / 1000000000) (r.set i (t % 1000000000)) (by omega) (by omega) (by omega) (hr.set i ⟨by omega, by omega⟩) (by simpa using hl) (set_zero hz) ?_
      rw [val_set hir, hr0, val_take_succ hia, hb', pw_succ]
      have := Int.emod_add_mul_ediv t 1000000000
      grind
    by_cases hib : i < b.length
    · have xb := hb.1.get hib
      have ht := val_take_succ hib
      obtain ⟨q, hq⟩ := step (c + a[i] + b[i]) (by omega) (by omega) (by rw [ht]; grind)
      refine qpls_h16_s _ _ _ _ _ ⟨q, ?_⟩
      unfold qpls_h16_t
      rw [lt_dec hia, getI_nat, List.getElem?_eq_getElem hia, lt_dec hib, getI_nat, List.getElem?_eq_getElem hib, getI_nat r i, toNat_nat, List.getElem?_eq_getElem hir]
      dsimp only
      rw [wr32 (x := c + a[i]) (by omega) (by omega), wr32 (x := c + a[i] + b[i]) (by omega) (by omega), tmodP (by omega), tdivP (by omega), wr32 (x := (c + a[i] + b[i]) / 1000000000) (by omega) (by omega), wrapS (by omega)]
      exact hq
    · have ht := take_past (b := b) (i := i) (by omega)
      obtain ⟨q, hq⟩ := step (c + a[i]) (by omega) (by omega) (by rw [ht]; grind)
      refine qpls_h16_s _ _ _ _ _ ⟨q, ?_⟩
      unfold qpls_h16_t
      rw [lt_dec hia, getI_nat, List.getElem?_eq_getElem hia, ge_dec (show b.length ≤ i by omega), getI_nat r i, toNat_nat, List.getElem?_eq_getElem hir]
      dsimp only
      rw [wr32 (x := c + a[i]) (by omega) (by omega), tmodP (by omega), tdivP (by omega), wr32 (x := (c + a[i]) / 1000000000) (by omega) (by omega), wrapS (by omega)]
      exact hq
theorem qpls_con (a : List Int) (b : List Int) (h : LimT a ∧ LimT b) : Con Tryz.prog 155 [.d (.sl (.int .u32)) a, .d (.sl (.int .u32)) b] [.d (.sl (.int .u32)) (limbs (val a + val b).toNat)] := by
  refine Ctx.Res.con (C := qpls_C) (ctx_ok envQg1_ok) ?_ (fn := Tryz.f155) (by kernel_rfl) (by kernel_rfl)
  obtain ⟨ha, hb⟩ := h
  have hsa := ha.2
  have hsb := hb.2
  by_cases hc : a.length < b.length
  · obtain ⟨q, hq⟩ := qpls_loop b a hb ha (by omega) b.length 0 0 (List.replicate (b.length + 1) 0) (by omega) (by omega) (by omega) (Lim.rep _) (by simp) (fun k hk _ => by simp) (by simp [val, val_rep])
    refine qpls_s _ _ ⟨q, ?_⟩
    unfold qpls_t
    rw [lt_dec hc, wrapS (by omega), mk_ok (by omega), toNat_nat, Int.add_comm (val a)]
    exact hq
  · obtain ⟨q, hq⟩ := qpls_loop a b ha hb (by omega) a.length 0 0 (List.replicate (a.length + 1) 0) (by omega) (by omega) (by omega) (Lim.rep _) (by simp) (fun k hk _ => by simp) (by simp [val, val_rep])
    refine qpls_s _ _ ⟨q, ?_⟩
    unfold qpls_t
    rw [ge_dec (by omega), wrapS (k := a.length) (by omega), mk_ok (n := a.length + 1) (by omega), toNat_nat]
    exact hq
theorem qmns_loop (a b : List Int) (ha : LimS a) (hb : LimS b) (hle : val b ≤ val a) : ∀ (j i : Nat) (c : Int) (r : List Int), i + j = a.length → 0 ≤ c → c ≤ 1 → Lim r → r.length = a.length → (∀ k (hk : k < r.length), i ≤ k → r[k] = 0) → val r + val (b.take i) = val (a.take i) + pw i * c →
    qmns_C.Runs 10 (qmns_h10 a b (i : Int) r c) [.d (.sl (.int .u32)) (limbs (val a - val b).toNat)] := by
  have hsa := ha.2
  intro j
  induction j with
  | zero =>
    intro i c r hi c0 c1 hr hl hz hv
    obtain rfl : i = a.length := by omega
    refine qmns_h10_s _ _ _ _ _ ⟨0, ?_⟩
    unfold qmns_h10_t
    rw [ge_dec (Nat.le_refl _)]
    have hrl := val_lt hr
    rw [hl] at hrl
    have hb2 : val b = val (b.take a.length) + pw (min a.length b.length) * val (b.drop a.length) := val_split b a.length
    have hbd : 0 ≤ val (b.drop a.length) := val_nonneg (hb.1.drop _)
    have hal := val_lt ha.1
    have hbt := val_nonneg (hb.1.take a.length)
    rw [List.take_length] at hv
    have hz0 : val (b.drop a.length) = 0 := by
      rcases Nat.lt_or_ge a.length b.length with h1 | h1
      · rw [Nat.min_eq_left (by omega)] at hb2
        rcases Int.lt_or_le 0 (val (b.drop a.length)) with h2 | h2
        · have hp := pw_pos a.length
          have := Int.mul_le_mul_of_nonneg_left (show 1 ≤ val (b.drop a.length) by omega) (Int.le_of_lt hp)
          omega
        · omega
      · rw [List.drop_eq_nil_of_le h1]; rfl
    rw [hz0, Int.mul_zero, Int.add_zero] at hb2
    have hc0 : c = 0 := by
      have hp := pw_pos a.length
      rcases (show c = 0 ∨ c = 1 by omega) with h | h
      · exact h
      · subst h; rw [Int.mul_one] at hv; omega
    subst hc0
    rw [Int.mul_zero] at hv
    rw [decide_eq_true (show LimS r from ⟨hr, by omega⟩), show val r = val a - val b by omega]
  | succ j ih =>
    intro i c r hi c0 c1 hr hl hz hv
    have hia : i < a.length := by omega
    have hir : i < r.length := by omega
    have xa := ha.1.get hia
    have hr0 := hz i hir (Nat.le_refl _)
    have step : ∀ (y c' : Int), 0 ≤ y → y < 1000000000 → 0 ≤ c' → c' ≤ 1 → val (b.take (i + 1)) = val (b.take i) + pw i * (a[i] + 1000000000 * c' - y - c) → qmns_C.Runs 10 (qmns_h10 a b ((i + 1 : Nat) : Int) (r.set i y) c') [.d (.sl (.int .u32)) (limbs (val a - val b).toNat)] := by
      intro y c' y0 y1 k0 k1 hb'
      refine ih (i + 1) c' (r.set i y) (by omega) k0 k1 (hr.set i ⟨y0, y1⟩) (by simpa using hl) (set_zero hz) ?_
      rw [val_set hir, hr0, val_take_succ hia, hb', pw_succ]
      grind
    by_cases hib : i < b.length
    · have xb := hb.1.get hib
      have ht := val_take_succ hib
      by_cases hc : a[i] + 1000000000 - c - b[i] ≥ 1000000000
      · obtain ⟨q, hq⟩ := step (a[i] + 1000000000 - c - b[i] - 1000000000) 0 (by omega) (by omega) (by omega) (by omega) (by rw [ht]; grind)
        refine qmns_h10_s _ _ _ _ _ ⟨q, ?_⟩
        unfold qmns_h10_t
        rw [lt_dec hia, getI_nat, List.getElem?_eq_getElem hia, lt_dec hib, getI_nat, List.getElem?_eq_getElem hib, getI_nat, toNat_nat, List.getElem?_eq_getElem hir]
        dsimp only
        rw [wr32 (x := a[i] + 1000000000) (by omega) (by omega), wr32 (x := a[i] + 1000000000 - c) (by omega) (by omega), wr32 (x := a[i] + 1000000000 - c - b[i]) (by omega) (by omega), decide_eq_true hc, wr32 (x := a[i] + 1000000000 - c - b[i] - 1000000000) (by omega) (by omega), wrapS (by omega)]
        exact hq
      · obtain ⟨q, hq⟩ := step (a[i] + 1000000000 - c - b[i]) 1 (by omega) (by omega) (by omega) (by omega) (by rw [ht]; grind)
        refine qmns_h10_s _ _ _ _ _ ⟨q, ?_⟩
        unfold qmns_h10_t
        rw [lt_dec hia, getI_nat, List.getElem?_eq_getElem hia, lt_dec hib, getI_nat, List.getElem?_eq_getElem hib, getI_nat, toNat_nat, List.getElem?_eq_getElem hir]
        dsimp only
        rw [wr32 (x := a[i] + 1000000000) (by omega) (by omega), wr32 (x := a[i] + 1000000000 - c) (by omega) (by omega), wr32 (x := a[i] + 1000000000 - c - b[i]) (by omega) (by omega), decide_eq_false hc, wrapS (by omega)]
        exact hq
    · have ht := take_past (b := b) (i := i) (by omega)
      by_cases hc : a[i] + 1000000000 - c ≥ 1000000000
      · obtain ⟨q, hq⟩ := step (a[i] + 1000000000 - c - 1000000000) 0 (by omega) (by omega) (by omega) (by omega) (by rw [ht]; grind)
        refine qmns_h10_s _ _ _ _ _ ⟨q, ?_⟩
        unfold qmns_h10_t
        rw [lt_dec hia, getI_nat, List.getElem?_eq_getElem hia, ge_dec (show b.length ≤ i by omega), getI_nat r i, toNat_nat, List.getElem?_eq_getElem hir]
        dsimp only
        rw [wr32 (x := a[i] + 1000000000) (by omega) (by omega), wr32 (x := a[i] + 1000000000 - c) (by omega) (by omega), decide_eq_true hc, wr32 (x := a[i] + 1000000000 - c - 1000000000) (by omega) (by omega), wrapS (by omega)]
        exact hq
      · obtain ⟨q, hq⟩ := step (a[i] + 1000000000 - c) 1 (by omega) (by omega) (by omega) (by omega) (by rw [ht]; grind)
        refine qmns_h10_s _ _ _ _ _ ⟨q, ?_⟩
        unfold qmns_h10_t
        rw [lt_dec hia, getI_nat, List.getElem?_eq_getElem hia, ge_dec (show b.length ≤ i by omega), getI_nat r i, toNat_nat, List.getElem?_eq_getElem hir]
        dsimp only
        rw [wr32 (x := a[i] + 1000000000) (by omega) (by omega), wr32 (x := a[i] + 1000000000 - c) (by omega) (by omega), decide_eq_false hc, wrapS (by omega)]
        exact hq
theorem qmns_con (a : List Int) (b : List Int) (h : mnsP a b) : Con Tryz.prog 154 [.d (.sl (.int .u32)) a, .d (.sl (.int .u32)) b] [.d (.sl (.int .u32)) (limbs (val a - val b).toNat)] := by
  refine Ctx.Res.con (C := qmns_C) (ctx_ok envQg1_ok) ?_ (fn := Tryz.f154) (by kernel_rfl) (by kernel_rfl)
  obtain ⟨ha, hb, hle⟩ := h
  have hsa := ha.2
  obtain ⟨q, hq⟩ := qmns_loop a b ha hb hle a.length 0 0 (List.replicate a.length 0) (by omega) (by omega) (by omega) (Lim.rep _) (by simp) (fun k hk _ => by simp) (by simp [val, val_rep])
  refine qmns_s _ _ ⟨q, ?_⟩
  unfold qmns_t
  rw [mk_ok (by omega), toNat_nat]
  exact hq
theorem qtms_inner (a b : List Int) (ha : LimT a) (hb : LimT b) (i : Nat) (hi : i < a.length)
    (hout : ∀ r, Lim r → r.length = a.length + b.length → (∀ k (hk : k < r.length), i + 1 + b.length ≤ k → r[k] = 0) → val r = val (a.take (i + 1)) * val b → qtms_C.Runs 8 (qtms_h8 a b ((i + 1 : Nat) : Int) r) [.d (.sl (.int .u32)) (limbs (val a * val b).toNat)]) :
    ∀ (j k : Nat) (c : Int) (r : List Int), k + j = b.length → 0 ≤ c → c < 1000000000 → Lim r → r.length = a.length + b.length → (∀ q (hq : q < r.length), i + b.length ≤ q → r[q] = 0) → val r + pw (i + k) * c = val (a.take i) * val b + pw i * a[i] * val (b.take k) →
    qtms_C.Runs 23 (qtms_h23 a b (i : Int) c (k : Int) r) [.d (.sl (.int .u32)) (limbs (val a * val b).toNat)] := by
  have hsa := ha.2
  have hsb := hb.2
  have xa := ha.1.get hi
  intro j
  induction j with
  | zero =>
    intro k c r hk c0 c1 hr hl hz hv
    obtain rfl : k = b.length := by omega
    have hir : i + b.length < r.length := by omega
    have hr0 := hz _ hir (Nat.le_refl _)
    obtain ⟨q, hq⟩ := hout (r.set (i + b.length) c) (hr.set _ ⟨c0, c1⟩) (by simpa using hl) (by rw [show i + 1 + b.length = i + b.length + 1 by omega]; exact set_zero hz) (by
      rw [val_set hir, hr0, val_take_succ hi]
      rw [List.take_length] at hv
      grind)
    refine qtms_h23_s _ _ _ _ _ _ ⟨q, ?_⟩
    have hw : IntKind.i64.wrap ((i : Int) + (b.length : Int)) = ((i + b.length : Nat) : Int) := by rw [wrap64 (by omega) (by omega)]; simp
    unfold qtms_h23_t
    rw [ge_dec (Nat.le_refl _), hw, getI_nat r (i + b.length), toNat_nat, List.getElem?_eq_getElem hir, wr32 (x := c) (by omega) (by omega), wrapS (k := i) (by omega)]
    exact hq
  | succ j ih =>
    intro k c r hk c0 c1 hr hl hz hv
    have hkb : k < b.length := by omega
    have hir : i + k < r.length := by omega
    have xb := hb.1.get hkb
    have xr := hr.get hir
    have hbd := tms_bd xr xa xb ⟨c0, c1⟩
    obtain ⟨q, hq⟩ := ih (k + 1) ((r[i + k] + a[i] * b[k] + c) / 1000000000) (r.set (i + k) ((r[i + k] + a[i] * b[k] + c) % 1000000000)) (by omega) hbd.2.2.1 hbd.2.2.2 (hr.set _ (by omega)) (by simpa using hl)
      (fun m hm hq => by rw [List.getElem_set_ne (by omega)]; exact hz m (by simpa using hm) hq) (by
        rw [val_set hir, val_take_succ hkb, show i + (k + 1) = i + k + 1 by omega, pw_succ, pw_add]
        rw [pw_add] at hv
        have e := Int.emod_add_mul_ediv (r[i + k] + a[i] * b[k] + c) 1000000000
        grind)
    refine qtms_h23_s _ _ _ _ _ _ ⟨q, ?_⟩
    have hw : IntKind.i64.wrap ((i : Int) + (k : Int)) = ((i + k : Nat) : Int) := by rw [wrap64 (by omega) (by omega)]; simp
    unfold qtms_h23_t
    rw [lt_dec hkb, hw, getI_nat b k, List.getElem?_eq_getElem hkb, getI_nat a i, List.getElem?_eq_getElem hi, getI_nat r (i + k), toNat_nat, List.getElem?_eq_getElem hir]
    dsimp only
    rw [wr64 (x := r[i + k]) (by omega) (by omega), wr64 (x := a[i]) (by omega) (by omega), wr64 (x := b[k]) (by omega) (by omega), wr64 (x := a[i] * b[k]) (by omega) (by omega), wr64 (x := c + r[i + k]) (by omega) (by omega), wr64 (x := c + r[i + k] + a[i] * b[k]) (by omega) (by omega), show c + r[i + k] + a[i] * b[k] = r[i + k] + a[i] * b[k] + c by omega, tdivP (a := r[i + k] + a[i] * b[k] + c) (by omega), tmodP (a := r[i + k] + a[i] * b[k] + c) (by omega), wr64 (x := (r[i + k] + a[i] * b[k] + c) / 1000000000) (by omega) (by omega), wr32 (x := (r[i + k] + a[i] * b[k] + c) % 1000000000) (by omega) (by omega), wrapS (k := k) (by omega)]
    exact hq
theorem qtms_outer (a b : List Int) (ha : LimT a) (hb : LimT b) : ∀ (j i : Nat) (r : List Int), i + j = a.length → Lim r → r.length = a.length + b.length → (∀ k (hk : k < r.length), i + b.length ≤ k → r[k] = 0) → val r = val (a.take i) * val b →
    qtms_C.Runs 8 (qtms_h8 a b (i : Int) r) [.d (.sl (.int .u32)) (limbs (val a * val b).toNat)] := by
  have hsa := ha.2
  have hsb := hb.2
  intro j
  induction j with
  | zero =>
    intro i r hi hr hl hz hv
    obtain rfl : i = a.length := by omega
    refine qtms_h8_s _ _ _ _ ⟨0, ?_⟩
    unfold qtms_h8_t
    rw [List.take_length] at hv
    rw [ge_dec (Nat.le_refl _), decide_eq_true (show LimS r from ⟨hr, by omega⟩), hv]
  | succ j ih =>
    intro i r hi hr hl hz hv
    have hia : i < a.length := by omega
    obtain ⟨q, hq⟩ := qtms_inner a b ha hb i hia (fun r' h1 h2 h3 h4 => ih (i + 1) r' (by omega) h1 h2 h3 h4) b.length 0 0 r (by omega) (by omega) (by omega) hr hl hz (by simp [val, hv])
    refine qtms_h8_s _ _ _ _ ⟨q, ?_⟩
    unfold qtms_h8_t
    rw [lt_dec hia]
    exact hq
theorem qtms_con (a : List Int) (b : List Int) (h : LimT a ∧ LimT b) : Con Tryz.prog 92 [.d (.sl (.int .u32)) a, .d (.sl (.int .u32)) b] [.d (.sl (.int .u32)) (limbs (val a * val b).toNat)] := by
  refine Ctx.Res.con (C := qtms_C) (ctx_ok envQg1_ok) ?_ (fn := Tryz.f92) (by kernel_rfl) (by kernel_rfl)
  obtain ⟨ha, hb⟩ := h
  have hsa := ha.2
  have hsb := hb.2
  obtain ⟨q, hq⟩ := qtms_outer a b ha hb a.length 0 (List.replicate (a.length + b.length) 0) (by omega) (Lim.rep _) (by simp) (fun k hk _ => by simp) (by simp [val, val_rep])
  refine qtms_s _ _ ⟨q, ?_⟩
  have hw : IntKind.i64.wrap ((a.length : Int) + (b.length : Int)) = ((a.length + b.length : Nat) : Int) := by rw [wrap64 (by omega) (by omega)]; simp
  unfold qtms_t
  rw [hw, mk_ok (by omega), toNat_nat]
  exact hq
end Go.Proofs.YtcaiedfkohigjaaGreat
/- The reference's integers: FromInt64, Sign, Cmp, Add, Neg, Sub, Mul, by. -/
namespace Go.Proofs.YtcaiedfkohigjaaGreat
open Go.RowKit
theorem okI_limT {x : BI} (h : okI x) : LimT x.2 := ⟨h.1.1, by have := h.2.2; omega⟩
theorem cmpI_ge (a b : Int) : decide (cmpI a b ≥ 0) = decide (b ≤ a) := by
  rcases Int.lt_trichotomy a b with h | h | h
  · rw [cmpI_lt h, decide_eq_false (show ¬ b ≤ a by omega)]; rfl
  · subst h; rw [cmpI_eq, decide_eq_true (Int.le_refl a)]; rfl
  · rw [cmpI_gt h, decide_eq_true (show b ≤ a by omega)]; rfl
theorem cmpI_gt0 (a b : Int) : decide (cmpI a b > 0) = decide (b < a) := by
  rcases Int.lt_trichotomy a b with h | h | h
  · rw [cmpI_lt h, decide_eq_false (show ¬ b < a by omega)]; rfl
  · subst h; rw [cmpI_eq, decide_eq_false (show ¬ a < a by omega)]; rfl
  · rw [cmpI_gt h, decide_eq_true h]; rfl
def qsgd_sp : Spec := { keep := false, run := fun _ args k => match args with
  | [.d .bool neg, .d (.sl (.int .u32)) l] => match decide (LimS l) with
    | true => k [RV.d (.st (.pair .bool (.sl (.int .u32)))) (encI (sgnI neg (val l)))]
    | false => none
  | _ => none }
theorem qsgd_spec : callable Tryz.prog 91 = true ∧ SpecOk Tryz.prog 91 qsgd_sp ∧ ∀ g, qsgd_sp.mut_ = some g → MCon Tryz.prog 91 g := by
  refine ⟨by kernel_rfl, fun R args k r h => ?_, fun g h => by simp [qsgd_sp] at h⟩
  unfold qsgd_sp at h
  dsimp only at h
  split at h <;> try (cases h; done)
  split at h <;> try (cases h; done)
  rename_i hd
  exact ⟨_, h, qsgd_con _ _ (of_decide_eq_true hd)⟩

def qpls_sp : Spec := { keep := false, run := fun _ args k => match args with
  | [.d (.sl (.int .u32)) a, .d (.sl (.int .u32)) b] => match decide (LimT a ∧ LimT b) with
    | true => k [RV.d (.sl (.int .u32)) (limbs (val a + val b).toNat)]
    | false => none
  | _ => none }
theorem qpls_spec : callable Tryz.prog 155 = true ∧ SpecOk Tryz.prog 155 qpls_sp ∧ ∀ g, qpls_sp.mut_ = some g → MCon Tryz.prog 155 g := by
  refine ⟨by kernel_rfl, fun R args k r h => ?_, fun g h => by simp [qpls_sp] at h⟩
  unfold qpls_sp at h
  dsimp only at h
  split at h <;> try (cases h; done)
  split at h <;> try (cases h; done)
  rename_i hd
  exact ⟨_, h, qpls_con _ _ (of_decide_eq_true hd)⟩

def qmns_sp : Spec := { keep := false, run := fun _ args k => match args with
  | [.d (.sl (.int .u32)) a, .d (.sl (.int .u32)) b] => match decide (mnsP a b) with
    | true => k [RV.d (.sl (.int .u32)) (limbs (val a - val b).toNat)]
    | false => none
  | _ => none }
theorem qmns_spec : callable Tryz.prog 154 = true ∧ SpecOk Tryz.prog 154 qmns_sp ∧ ∀ g, qmns_sp.mut_ = some g → MCon Tryz.prog 154 g := by
  refine ⟨by kernel_rfl, fun R args k r h => ?_, fun g h => by simp [qmns_sp] at h⟩
  unfold qmns_sp at h
  dsimp only at h
  split at h <;> try (cases h; done)
  split at h <;> try (cases h; done)
  rename_i hd
  exact ⟨_, h, qmns_con _ _ (of_decide_eq_true hd)⟩

def qtms_sp : Spec := { keep := false, run := fun _ args k => match args with
  | [.d (.sl (.int .u32)) a, .d (.sl (.int .u32)) b] => match decide (LimT a ∧ LimT b) with
    | true => k [RV.d (.sl (.int .u32)) (limbs (val a * val b).toNat)]
    | false => none
  | _ => none }
theorem qtms_spec : callable Tryz.prog 92 = true ∧ SpecOk Tryz.prog 92 qtms_sp ∧ ∀ g, qtms_sp.mut_ = some g → MCon Tryz.prog 92 g := by
  refine ⟨by kernel_rfl, fun R args k r h => ?_, fun g h => by simp [qtms_sp] at h⟩
  unfold qtms_sp at h
  dsimp only at h
  split at h <;> try (cases h; done)
  split at h <;> try (cases h; done)
  rename_i hd
  exact ⟨_, h, qtms_con _ _ (of_decide_eq_true hd)⟩

def envQg2 : Env := [(124, qtrm_sp), (95, qlbs_sp), (134, qsht_sp), (90, qcpr_sp), (91, qsgd_sp), (155, qpls_sp), (154, qmns_sp), (92, qtms_sp)]
theorem envQg2_ok : EnvAll Tryz.prog envQg2 := ⟨qtrm_spec, qlbs_spec, qsht_spec, qcpr_spec, qsgd_spec, qpls_spec, qmns_spec, qtms_spec, trivial⟩
def qfri_nt : NT := []
noncomputable def qfri_C : Ctx := ⟨Tryz.prog, ft, tys, envQg2, qfri_nt⟩
noncomputable def qfri_t (_k : Nat → Cfg → Option (List RV)) (n : Int) : Option (List RV) := match decide (n < 0) with | true => (match decide (u64P (IntKind.u64.wrap (0 - (IntKind.u64.wrap n)))) with | true => (match decide (LimS (limbs (IntKind.u64.wrap (0 - (IntKind.u64.wrap n))).toNat)) with | true => some [RV.d (.st (.pair .bool (.sl (.int .u32)))) (encI (sgnI true (val (limbs (IntKind.u64.wrap (0 - (IntKind.u64.wrap n))).toNat))))] | false => none) | false => none) | false => (match decide (u64P (IntKind.u64.wrap n)) with | true => (match decide (LimS (limbs (IntKind.u64.wrap n).toNat)) with | true => some [RV.d (.st (.pair .bool (.sl (.int .u32)))) (encI (sgnI false (val (limbs (IntKind.u64.wrap n).toNat))))] | false => none) | false => none)
theorem qfri_eq (k : Nat → Cfg → Option (List RV)) (n : Int) : go Tryz.prog ft tys envQg2 qfri_nt k 4000 (start 65 [SI n]) (.node 0) = qfri_t k n := (go2_eq _ _ _ _ _ _ _ _ _).symm.trans (show go2 Tryz.prog ft tys envQg2 qfri_nt k 4000 (start 65 [SI n]) (.node 0) = qfri_t k n by kernel_rfl)
theorem qfri_s (n : Int) {rX : List RV} (hX : ∃ nX, qfri_t (qfri_C.k nX) n = some rX) : qfri_C.Res 65 [SI n] rX := by
  obtain ⟨nX, hX⟩ := hX
  exact ⟨nX, (qfri_eq _ n).trans hX⟩
def qisg_nt : NT := []
noncomputable def qisg_C : Ctx := ⟨Tryz.prog, ft, tys, envQg2, qisg_nt⟩
noncomputable def qisg_t (_k : Nat → Cfg → Option (List RV)) (x : Bool × List Int) : Option (List RV) := match (x.2.length : Int) == 0 with | true => some [RV.d (.int .i64) 0] | false => (match x.1 with | true => some [RV.d (.int .i64) (-1)] | false => some [RV.d (.int .i64) 1])
theorem qisg_eq (k : Nat → Cfg → Option (List RV)) (x : Bool × List Int) : go Tryz.prog ft tys envQg2 qisg_nt k 4000 (start 100 [.d (.st (.pair .bool (.sl (.int .u32)))) x]) (.node 0) = qisg_t k x := (go2_eq _ _ _ _ _ _ _ _ _).symm.trans (show go2 Tryz.prog ft tys envQg2 qisg_nt k 4000 (start 100 [.d (.st (.pair .bool (.sl (.int .u32)))) x]) (.node 0) = qisg_t k x by kernel_rfl)
theorem qisg_s (x : Bool × List Int) {rX : List RV} (hX : ∃ nX, qisg_t (qisg_C.k nX) x = some rX) : qisg_C.Res 100 [.d (.st (.pair .bool (.sl (.int .u32)))) x] rX := by
  obtain ⟨nX, hX⟩ := hX
  exact ⟨nX, (qisg_eq _ x).trans hX⟩
def qicm_nt : NT := []
noncomputable def qicm_C : Ctx := ⟨Tryz.prog, ft, tys, envQg2, qicm_nt⟩
noncomputable def qicm_t (_k : Nat → Cfg → Option (List RV)) (x : Bool × List Int) (y : Bool × List Int) : Option (List RV) := match !(x.1 == y.1) with | true => (match x.1 with | true => some [RV.d (.int .i64) (-1)] | false => some [RV.d (.int .i64) 1]) | false => (match x.1 with | true => (match decide (can2 y.2 x.2) with | true => some [RV.d (.int .i64) (cmpI (val y.2) (val x.2))] | false => none) | false => (match decide (can2 x.2 y.2) with | true => some [RV.d (.int .i64) (cmpI (val x.2) (val y.2))] | false => none))
theorem qicm_eq (k : Nat → Cfg → Option (List RV)) (x : Bool × List Int) (y : Bool × List Int) : go Tryz.prog ft tys envQg2 qicm_nt k 4000 (start 61 [.d (.st (.pair .bool (.sl (.int .u32)))) x, .d (.st (.pair .bool (.sl (.int .u32)))) y]) (.node 0) = qicm_t k x y := (go2_eq _ _ _ _ _ _ _ _ _).symm.trans (show go2 Tryz.prog ft tys envQg2 qicm_nt k 4000 (start 61 [.d (.st (.pair .bool (.sl (.int .u32)))) x, .d (.st (.pair .bool (.sl (.int .u32)))) y]) (.node 0) = qicm_t k x y by kernel_rfl)
theorem qicm_s (x : Bool × List Int) (y : Bool × List Int) {rX : List RV} (hX : ∃ nX, qicm_t (qicm_C.k nX) x y = some rX) : qicm_C.Res 61 [.d (.st (.pair .bool (.sl (.int .u32)))) x, .d (.st (.pair .bool (.sl (.int .u32)))) y] rX := by
  obtain ⟨nX, hX⟩ := hX
  exact ⟨nX, (qicm_eq _ x y).trans hX⟩
def qiad_nt : NT := []
noncomputable def qiad_C : Ctx := ⟨Tryz.prog, ft, tys, envQg2, qiad_nt⟩
noncomputable def qiad_t (_k : Nat → Cfg → Option (List RV)) (x : Bool × List Int) (y : Bool × List Int) : Option (List RV) := match x.1 == y.1 with | true => (match decide (LimT x.2 ∧ LimT y.2) with | true => (match decide (LimS (limbs (val x.2 + val y.2).toNat)) with | true => some [RV.d (.st (.pair .bool (.sl (.int .u32)))) (encI (sgnI x.1 (val (limbs (val x.2 + val y.2).toNat))))] | false => none) | false => none) | false => (match decide (can2 x.2 y.2) with | true => (match decide ((cmpI (val x.2) (val y.2)) ≥ 0) with | true => (match decide (mnsP x.2 y.2) with | true => (match decide (LimS (limbs (val x.2 - val y.2).toNat)) with | true => some [RV.d (.st (.pair .bool (.sl (.int .u32)))) (encI (sgnI x.1 (val (limbs (val x.2 - val y.2).toNat))))] | false => none) | false => none) | false => (match decide (mnsP y.2 x.2) with | true => (match decide (LimS (limbs (val y.2 - val x.2).toNat)) with | true => some [RV.d (.st (.pair .bool (.sl (.int .u32)))) (encI (sgnI y.1 (val (limbs (val y.2 - val x.2).toNat))))] | false => none) | false => none)) | false => none)
theorem qiad_eq (k : Nat → Cfg → Option (List RV)) (x : Bool × List Int) (y : Bool × List Int) : go Tryz.prog ft tys envQg2 qiad_nt k 4000 (start 136 [.d (.st (.pair .bool (.sl (.int .u32)))) x, .d (.st (.pair .bool (.sl (.int .u32)))) y]) (.node 0) = qiad_t k x y := (go2_eq _ _ _ _ _ _ _ _ _).symm.trans (show go2 Tryz.prog ft tys envQg2 qiad_nt k 4000 (start 136 [.d (.st (.pair .bool (.sl (.int .u32)))) x, .d (.st (.pair .bool (.sl (.int .u32)))) y]) (.node 0) = qiad_t k x y by kernel_rfl)
theorem qiad_s (x : Bool × List Int) (y : Bool × List Int) {rX : List RV} (hX : ∃ nX, qiad_t (qiad_C.k nX) x y = some rX) : qiad_C.Res 136 [.d (.st (.pair .bool (.sl (.int .u32)))) x, .d (.st (.pair .bool (.sl (.int .u32)))) y] rX := by
  obtain ⟨nX, hX⟩ := hX
  exact ⟨nX, (qiad_eq _ x y).trans hX⟩
def qing_nt : NT := []
noncomputable def qing_C : Ctx := ⟨Tryz.prog, ft, tys, envQg2, qing_nt⟩
noncomputable def qing_t (_k : Nat → Cfg → Option (List RV)) (x : Bool × List Int) : Option (List RV) := match decide (LimS x.2) with | true => some [RV.d (.st (.pair .bool (.sl (.int .u32)))) (encI (sgnI (!x.1) (val x.2)))] | false => none
theorem qing_eq (k : Nat → Cfg → Option (List RV)) (x : Bool × List Int) : go Tryz.prog ft tys envQg2 qing_nt k 4000 (start 101 [.d (.st (.pair .bool (.sl (.int .u32)))) x]) (.node 0) = qing_t k x := (go2_eq _ _ _ _ _ _ _ _ _).symm.trans (show go2 Tryz.prog ft tys envQg2 qing_nt k 4000 (start 101 [.d (.st (.pair .bool (.sl (.int .u32)))) x]) (.node 0) = qing_t k x by kernel_rfl)
theorem qing_s (x : Bool × List Int) {rX : List RV} (hX : ∃ nX, qing_t (qing_C.k nX) x = some rX) : qing_C.Res 101 [.d (.st (.pair .bool (.sl (.int .u32)))) x] rX := by
  obtain ⟨nX, hX⟩ := hX
  exact ⟨nX, (qing_eq _ x).trans hX⟩
def qimu_nt : NT := []
noncomputable def qimu_C : Ctx := ⟨Tryz.prog, ft, tys, envQg2, qimu_nt⟩
noncomputable def qimu_t (_k : Nat → Cfg → Option (List RV)) (x : Bool × List Int) (y : Bool × List Int) : Option (List RV) := match decide (LimT x.2 ∧ LimT y.2) with | true => (match decide (LimS (limbs (val x.2 * val y.2).toNat)) with | true => some [RV.d (.st (.pair .bool (.sl (.int .u32)))) (encI (sgnI (!(x.1 == y.1)) (val (limbs (val x.2 * val y.2).toNat))))] | false => none) | false => none
theorem qimu_eq (k : Nat → Cfg → Option (List RV)) (x : Bool × List Int) (y : Bool × List Int) : go Tryz.prog ft tys envQg2 qimu_nt k 4000 (start 62 [.d (.st (.pair .bool (.sl (.int .u32)))) x, .d (.st (.pair .bool (.sl (.int .u32)))) y]) (.node 0) = qimu_t k x y := (go2_eq _ _ _ _ _ _ _ _ _).symm.trans (show go2 Tryz.prog ft tys envQg2 qimu_nt k 4000 (start 62 [.d (.st (.pair .bool (.sl (.int .u32)))) x, .d (.st (.pair .bool (.sl (.int .u32)))) y]) (.node 0) = qimu_t k x y by kernel_rfl)
theorem qimu_s (x : Bool × List Int) (y : Bool × List Int) {rX : List RV} (hX : ∃ nX, qimu_t (qimu_C.k nX) x y = some rX) : qimu_C.Res 62 [.d (.st (.pair .bool (.sl (.int .u32)))) x, .d (.st (.pair .bool (.sl (.int .u32)))) y] rX := by
  obtain ⟨nX, hX⟩ := hX
  exact ⟨nX, (qimu_eq _ x y).trans hX⟩
def qby_nt : NT := []
noncomputable def qby_C : Ctx := ⟨Tryz.prog, ft, tys, envQg2, qby_nt⟩
noncomputable def qby_t (_k : Nat → Cfg → Option (List RV)) (a : List Int) (n : Int) : Option (List RV) := match decide (LimS ([n])) with | true => (match decide (LimT a ∧ LimT (limbs (val ([n])).toNat)) with | true => some [RV.d (.sl (.int .u32)) (limbs (val a * val (limbs (val ([n])).toNat)).toNat)] | false => none) | false => none
theorem qby_eq (k : Nat → Cfg → Option (List RV)) (a : List Int) (n : Int) : go Tryz.prog ft tys envQg2 qby_nt k 4000 (start 153 [.d (.sl (.int .u32)) a, .d (.int .u32) n]) (.node 0) = qby_t k a n := (go2_eq _ _ _ _ _ _ _ _ _).symm.trans (show go2 Tryz.prog ft tys envQg2 qby_nt k 4000 (start 153 [.d (.sl (.int .u32)) a, .d (.int .u32) n]) (.node 0) = qby_t k a n by kernel_rfl)
theorem qby_s (a : List Int) (n : Int) {rX : List RV} (hX : ∃ nX, qby_t (qby_C.k nX) a n = some rX) : qby_C.Res 153 [.d (.sl (.int .u32)) a, .d (.int .u32) n] rX := by
  obtain ⟨nX, hX⟩ := hX
  exact ⟨nX, (qby_eq _ a n).trans hX⟩
theorem qfri_con (n : Int) (h : i64P n) : Con Tryz.prog 65 [.d (.int .i64) n] [.d (.st (.pair .bool (.sl (.int .u32)))) (encI n)] := by
  refine Ctx.Res.con (C := qfri_C) (ctx_ok envQg2_ok) (qfri_s _ ⟨0, ?_⟩) (fn := Tryz.f65) (by kernel_rfl) (by kernel_rfl)
  have h1 := h.1
  have h2 := h.2
  unfold qfri_t
  by_cases hn : n < 0
  · have e : IntKind.u64.wrap (0 - IntKind.u64.wrap n) = -n := by rw [IntKind.wrap_u64, IntKind.wrap_u64]; omega
    have hl : (limbs (-n).toNat).length ≤ 3 := limbs_len_int (by omega) (Int.lt_of_lt_of_le (show -n < 18446744073709551616 by omega) (by decide))
    rw [decide_eq_true hn]
    dsimp only
    rw [e, decide_eq_true (show u64P (-n) from ⟨by omega, by omega⟩), decide_eq_true (limS_limbs (n := (-n).toNat) (by omega)), val_limbs (v := -n) (by omega)]
    dsimp only
    rw [show sgnI true (-n) = n by unfold sgnI; simp]
  · have e : IntKind.u64.wrap n = n := wr64 (by omega) (by omega)
    have hl : (limbs n.toNat).length ≤ 3 := limbs_len_int (by omega) (Int.lt_of_lt_of_le (show n < 18446744073709551616 by omega) (by decide))
    rw [decide_eq_false hn]
    dsimp only
    rw [e, decide_eq_true (show u64P n from ⟨by omega, by omega⟩), decide_eq_true (limS_limbs (n := n.toNat) (by omega)), val_limbs (v := n) (by omega)]
    rfl
theorem qisg_con (x : Bool × List Int) (h : okI x) : Con Tryz.prog 100 [.d (.st (.pair .bool (.sl (.int .u32)))) x] [.d (.int .i64) (cmpI (decI x) 0)] := by
  refine Ctx.Res.con (C := qisg_C) (ctx_ok envQg2_ok) (qisg_s _ ⟨0, ?_⟩) (fn := Tryz.f100) (by kernel_rfl) (by kernel_rfl)
  obtain ⟨h0, h1, h2⟩ := okI_val h
  unfold qisg_t
  rw [decI_sgn]
  unfold sgnI
  by_cases he : x.2 = []
  · have e0 := h2.1 he
    have ex : x.1 = false := by
      cases hx : x.1
      · rfl
      · have := h1 hx; omega
    rw [ex, e0, he]
    rfl
  · have hp : 0 < val x.2 := can_val_pos h.1 he
    have := List.length_pos_iff.2 he
    rw [show ((x.2.length : Int) == 0) = false by simp; omega]
    cases x.1
    · simp only [cond_false]; rw [cmpI_gt hp]
    · simp only [cond_true]; rw [cmpI_lt (by omega)]
theorem qicm_con (x : Bool × List Int) (y : Bool × List Int) (h : okI x ∧ okI y) : Con Tryz.prog 61 [.d (.st (.pair .bool (.sl (.int .u32)))) x, .d (.st (.pair .bool (.sl (.int .u32)))) y] [.d (.int .i64) (cmpI (decI x) (decI y))] := by
  refine Ctx.Res.con (C := qicm_C) (ctx_ok envQg2_ok) (qicm_s _ _ ⟨0, ?_⟩) (fn := Tryz.f61) (by kernel_rfl) (by kernel_rfl)
  obtain ⟨hx, hy⟩ := h
  obtain ⟨x0, x1, x2⟩ := okI_val hx
  obtain ⟨y0, y1, y2⟩ := okI_val hy
  have sx := hx.2.2
  have sy := hy.2.2
  unfold qicm_t
  rw [decI_sgn, decI_sgn, decide_eq_true (show can2 y.2 x.2 from ⟨⟨hy.1, by omega⟩, hx.1, by omega⟩), decide_eq_true (show can2 x.2 y.2 from ⟨⟨hx.1, by omega⟩, hy.1, by omega⟩)]
  unfold sgnI
  cases ex : x.1 <;> cases ey : y.1
  · rfl
  · have := y1 ey
    simp only [cond_true, cond_false]
    rw [show cmpI (val x.2) (-val y.2) = 1 from cmpI_gt (by omega)]
    rfl
  · have := x1 ex
    simp only [cond_true, cond_false]
    rw [show cmpI (-val x.2) (val y.2) = -1 from cmpI_lt (by omega)]
    rfl
  · simp only [cond_true]
    rw [sgn_cmp x0 y0]
    rfl
theorem qiad_con (x : Bool × List Int) (y : Bool × List Int) (h : okI x ∧ okI y) : Con Tryz.prog 136 [.d (.st (.pair .bool (.sl (.int .u32)))) x, .d (.st (.pair .bool (.sl (.int .u32)))) y] [.d (.st (.pair .bool (.sl (.int .u32)))) (encI (decI x + decI y))] := by
  refine Ctx.Res.con (C := qiad_C) (ctx_ok envQg2_ok) (qiad_s _ _ ⟨0, ?_⟩) (fn := Tryz.f136) (by kernel_rfl) (by kernel_rfl)
  obtain ⟨hx, hy⟩ := h
  obtain ⟨x0, x1, x2⟩ := okI_val hx
  obtain ⟨y0, y1, y2⟩ := okI_val hy
  have lx := okI_lim hx
  have ly := okI_lim hy
  have tx := okI_limT hx
  have ty := okI_limT hy
  have sx := hx.2.2
  have sy := hy.2.2
  have bx := val_lt hx.1.1
  have by' := val_lt hy.1.1
  have px := pw_mono (show x.2.length ≤ 1000000 by omega)
  have py := pw_mono (show y.2.length ≤ 1000000 by omega)
  have l1 : (limbs (val x.2 + val y.2).toNat).length ≤ 1000001 := limbs_len_int (by omega) (by rw [pw_succ]; omega)
  have l2 : (limbs (val x.2 - val y.2).toNat).length ≤ 1000000 := limbs_len_le (by have := pw_pos 1000000; omega)
  have l3 : (limbs (val y.2 - val x.2).toNat).length ≤ 1000000 := limbs_len_le (by have := pw_pos 1000000; omega)
  unfold qiad_t
  rw [decI_sgn, decI_sgn, decide_eq_true (show LimT x.2 ∧ LimT y.2 from ⟨tx, ty⟩), decide_eq_true (limS_limbs (n := (val x.2 + val y.2).toNat) (by omega)), decide_eq_true (limS_limbs (n := (val x.2 - val y.2).toNat) (by omega)), decide_eq_true (limS_limbs (n := (val y.2 - val x.2).toNat) (by omega)), val_limbs (v := val x.2 + val y.2) (by omega),
    decide_eq_true (show can2 x.2 y.2 from ⟨⟨hx.1, by omega⟩, hy.1, by omega⟩), cmpI_ge]
  cases hs : x.1 == y.1
  · dsimp only
    rcases Int.lt_or_le (val x.2) (val y.2) with hc | hc
    · rw [decide_eq_false (show ¬ val y.2 ≤ val x.2 by omega), decide_eq_true (show mnsP y.2 x.2 from ⟨ly, lx, by omega⟩), val_limbs (v := val y.2 - val x.2) (by omega)]
      dsimp only
      unfold sgnI
      cases ex : x.1 <;> cases ey : y.1 <;> simp_all <;> congr 2 <;> omega
    · rw [decide_eq_true hc, decide_eq_true (show mnsP x.2 y.2 from ⟨lx, ly, hc⟩), val_limbs (v := val x.2 - val y.2) (by omega)]
      dsimp only
      unfold sgnI
      cases ex : x.1 <;> cases ey : y.1 <;> simp_all <;> congr 2 <;> omega
  · dsimp only
    have e := beq_iff_eq.1 hs
    rw [← e]
    unfold sgnI
    cases x.1
    · rfl
    · simp only [cond_true]
      rw [show -(val x.2 + val y.2) = -val x.2 + -val y.2 by omega]
theorem qing_con (x : Bool × List Int) (h : okI x) : Con Tryz.prog 101 [.d (.st (.pair .bool (.sl (.int .u32)))) x] [.d (.st (.pair .bool (.sl (.int .u32)))) (encI (-decI x))] := by
  refine Ctx.Res.con (C := qing_C) (ctx_ok envQg2_ok) (qing_s _ ⟨0, ?_⟩) (fn := Tryz.f101) (by kernel_rfl) (by kernel_rfl)
  unfold qing_t
  rw [decI_sgn, decide_eq_true (okI_lim h)]
  unfold sgnI
  cases x.1 <;> simp
theorem qimu_con (x : Bool × List Int) (y : Bool × List Int) (h : okI x ∧ okI y) : Con Tryz.prog 62 [.d (.st (.pair .bool (.sl (.int .u32)))) x, .d (.st (.pair .bool (.sl (.int .u32)))) y] [.d (.st (.pair .bool (.sl (.int .u32)))) (encI (decI x * decI y))] := by
  refine Ctx.Res.con (C := qimu_C) (ctx_ok envQg2_ok) (qimu_s _ _ ⟨0, ?_⟩) (fn := Tryz.f62) (by kernel_rfl) (by kernel_rfl)
  obtain ⟨hx, hy⟩ := h
  obtain ⟨x0, x1, x2⟩ := okI_val hx
  obtain ⟨y0, y1, y2⟩ := okI_val hy
  have bx := val_lt hx.1.1
  have by' := val_lt hy.1.1
  have sx := hx.2.2
  have sy := hy.2.2
  have hm : 0 ≤ val x.2 * val y.2 := Int.mul_nonneg x0 y0
  have l1 : (limbs (val x.2 * val y.2).toNat).length ≤ x.2.length + y.2.length := limbs_len_int hm (by
    rw [pw_add]
    have p1 := pw_pos x.2.length
    have p2 := pw_pos y.2.length
    have := Int.mul_le_mul (show val x.2 ≤ pw x.2.length - 1 by omega) (show val y.2 ≤ pw y.2.length - 1 by omega) y0 (by omega)
    grind)
  unfold qimu_t
  rw [decI_sgn, decI_sgn, decide_eq_true (show LimT x.2 ∧ LimT y.2 from ⟨okI_limT hx, okI_limT hy⟩), decide_eq_true (limS_limbs (n := (val x.2 * val y.2).toNat) (by omega)), val_limbs hm]
  unfold sgnI
  cases x.1 <;> cases y.1 <;> simp [Int.neg_mul, Int.mul_neg]
def byP (a : List Int) (n : Int) : Prop := LimT a ∧ 0 ≤ n ∧ n < 1000000000
instance (a : List Int) (n : Int) : Decidable (byP a n) := by unfold byP; infer_instance
theorem qby_con (a : List Int) (n : Int) (h : byP a n) : Con Tryz.prog 153 [.d (.sl (.int .u32)) a, .d (.int .u32) n] [.d (.sl (.int .u32)) (limbs (val a * n).toNat)] := by
  refine Ctx.Res.con (C := qby_C) (ctx_ok envQg2_ok) (qby_s _ _ ⟨0, ?_⟩) (fn := Tryz.f153) (by kernel_rfl) (by kernel_rfl)
  obtain ⟨ha, h1, h2⟩ := h
  have hl : (limbs n.toNat).length ≤ 1 := limbs_len_int (by omega) (by show n < pw 1; simp [pw]; exact h2)
  have e : val [n] = n := by simp [val]
  unfold qby_t
  rw [e, decide_eq_true (show LimS [n] from ⟨Lim.cons ⟨by omega, h2⟩ Lim.nil, by simp⟩), decide_eq_true (show LimT a ∧ LimT (limbs n.toNat) from ⟨ha, limbs_lim _, by omega⟩), val_limbs (by omega)]
def qiad_sp : Spec := { keep := false, run := fun _ args k => match args with
  | [.d (.st (.pair .bool (.sl (.int .u32)))) x, .d (.st (.pair .bool (.sl (.int .u32)))) y] => match decide (okI x ∧ okI y) with
    | true => k [RV.d (.st (.pair .bool (.sl (.int .u32)))) (encI (decI x + decI y))]
    | false => none
  | _ => none }
theorem qiad_spec : callable Tryz.prog 136 = true ∧ SpecOk Tryz.prog 136 qiad_sp ∧ ∀ g, qiad_sp.mut_ = some g → MCon Tryz.prog 136 g := by
  refine ⟨by kernel_rfl, fun R args k r h => ?_, fun g h => by simp [qiad_sp] at h⟩
  unfold qiad_sp at h
  dsimp only at h
  split at h <;> try (cases h; done)
  split at h <;> try (cases h; done)
  rename_i hd
  exact ⟨_, h, qiad_con _ _ (of_decide_eq_true hd)⟩

def qing_sp : Spec := { keep := false, run := fun _ args k => match args with
  | [.d (.st (.pair .bool (.sl (.int .u32)))) x] => match decide (okI x) with
    | true => k [RV.d (.st (.pair .bool (.sl (.int .u32)))) (encI (-decI x))]
    | false => none
  | _ => none }
theorem qing_spec : callable Tryz.prog 101 = true ∧ SpecOk Tryz.prog 101 qing_sp ∧ ∀ g, qing_sp.mut_ = some g → MCon Tryz.prog 101 g := by
  refine ⟨by kernel_rfl, fun R args k r h => ?_, fun g h => by simp [qing_sp] at h⟩
  unfold qing_sp at h
  dsimp only at h
  split at h <;> try (cases h; done)
  split at h <;> try (cases h; done)
  rename_i hd
  exact ⟨_, h, qing_con _ (of_decide_eq_true hd)⟩

def envQg3 : Env := [(124, qtrm_sp), (95, qlbs_sp), (134, qsht_sp), (90, qcpr_sp), (91, qsgd_sp), (155, qpls_sp), (154, qmns_sp), (92, qtms_sp), (136, qiad_sp), (101, qing_sp)]
theorem envQg3_ok : EnvAll Tryz.prog envQg3 := ⟨qtrm_spec, qlbs_spec, qsht_spec, qcpr_spec, qsgd_spec, qpls_spec, qmns_spec, qtms_spec, qiad_spec, qing_spec, trivial⟩
def qisu_nt : NT := []
noncomputable def qisu_C : Ctx := ⟨Tryz.prog, ft, tys, envQg3, qisu_nt⟩
noncomputable def qisu_t (_k : Nat → Cfg → Option (List RV)) (x : Bool × List Int) (y : Bool × List Int) : Option (List RV) := match decide (okI y) with | true => (match decide (okI x ∧ okI (encI (-decI y))) with | true => some [RV.d (.st (.pair .bool (.sl (.int .u32)))) (encI (decI x + decI (encI (-decI y))))] | false => none) | false => none
theorem qisu_eq (k : Nat → Cfg → Option (List RV)) (x : Bool × List Int) (y : Bool × List Int) : go Tryz.prog ft tys envQg3 qisu_nt k 4000 (start 135 [.d (.st (.pair .bool (.sl (.int .u32)))) x, .d (.st (.pair .bool (.sl (.int .u32)))) y]) (.node 0) = qisu_t k x y := (go2_eq _ _ _ _ _ _ _ _ _).symm.trans (show go2 Tryz.prog ft tys envQg3 qisu_nt k 4000 (start 135 [.d (.st (.pair .bool (.sl (.int .u32)))) x, .d (.st (.pair .bool (.sl (.int .u32)))) y]) (.node 0) = qisu_t k x y by kernel_rfl)
theorem qisu_s (x : Bool × List Int) (y : Bool × List Int) {rX : List RV} (hX : ∃ nX, qisu_t (qisu_C.k nX) x y = some rX) : qisu_C.Res 135 [.d (.st (.pair .bool (.sl (.int .u32)))) x, .d (.st (.pair .bool (.sl (.int .u32)))) y] rX := by
  obtain ⟨nX, hX⟩ := hX
  exact ⟨nX, (qisu_eq _ x y).trans hX⟩
theorem qisu_con (x : Bool × List Int) (y : Bool × List Int) (h : okI x ∧ okI y) : Con Tryz.prog 135 [.d (.st (.pair .bool (.sl (.int .u32)))) x, .d (.st (.pair .bool (.sl (.int .u32)))) y] [.d (.st (.pair .bool (.sl (.int .u32)))) (encI (decI x - decI y))] := by
  refine Ctx.Res.con (C := qisu_C) (ctx_ok envQg3_ok) (qisu_s _ _ ⟨0, ?_⟩) (fn := Tryz.f135) (by kernel_rfl) (by kernel_rfl)
  obtain ⟨hx, hy⟩ := h
  unfold qisu_t
  rw [decide_eq_true hy, decide_eq_true (show okI x ∧ okI (encI (-decI y)) from ⟨hx, okI_enc (by rw [szI_neg]; exact okI_sz hy)⟩), dec_enc, Int.sub_eq_add_neg]
end Go.Proofs.YtcaiedfkohigjaaGreat
