/- integer: plus, minus, times, byWord. -/
import Derived.Test.YtcaiedfkohigjaaGreatZ7
namespace Go.Proofs.YtcaiedfkohigjaaGreat
open Go.RowKit
def pls_nt : NT := [((158, 16), { keep := [1, 5, 6, 20, 21, 22], hl := 1 })]
noncomputable def pls_C : Ctx := ⟨Tryz.prog, ft, tys, [], pls_nt⟩
def pls_h16 (s1 : List Int) (s20 : List Int) (s21 : Int) (s6 : Int) (s22 : Int) (r0 : List Int) : Cfg := ⟨158, [.blk 0, .seq 45], [(1, .d (.sl (.int .u32)) s1), (5, .own 0), (6, .d (.int .u32) s6), (20, .d (.sl (.int .u32)) s20), (21, SI s21), (22, SI s22)], [.row 137 (.int .u32) r0], 0, []⟩
def pls_t (k : Nat → Cfg → Option (List RV)) (a : List Int) (b : List Int) : Option (List RV) := match decide ((a.length : Int) < (b.length : Int)) with | true => (match decide ((0 : Int) = 0 ∧ (0 : Int) ≤ IntKind.i64.wrap ((b.length : Int) + 1) ∧ (IntKind.i64.wrap ((b.length : Int) + 1)) * ((4 : Nat) : Int) ≤ 140737488355328 ∧ IntKind.i64.wrap ((b.length : Int) + 1) ≤ 140737488355328) with | true => k 16 (pls_h16 a b (b.length : Int) 0 0 ([] : List Int)) | false => none) | false => (match decide ((0 : Int) = 0 ∧ (0 : Int) ≤ IntKind.i64.wrap ((a.length : Int) + 1) ∧ (IntKind.i64.wrap ((a.length : Int) + 1)) * ((4 : Nat) : Int) ≤ 140737488355328 ∧ IntKind.i64.wrap ((a.length : Int) + 1) ≤ 140737488355328) with | true => k 16 (pls_h16 b a (a.length : Int) 0 0 ([] : List Int)) | false => none)
theorem pls_eq (k : Nat → Cfg → Option (List RV)) (a : List Int) (b : List Int) : go Tryz.prog ft tys [] pls_nt k 4000 (start 158 [.d (.sl (.int .u32)) a, .d (.sl (.int .u32)) b]) (.node 0) = pls_t k a b := (go2_eq _ _ _ _ _ _ _ _ _).symm.trans (show go2 Tryz.prog ft tys [] pls_nt k 4000 (start 158 [.d (.sl (.int .u32)) a, .d (.sl (.int .u32)) b]) (.node 0) = pls_t k a b by kernel_rfl)
theorem pls_s (a : List Int) (b : List Int) {rX : List RV} (hX : ∃ nX, pls_t (pls_C.k nX) a b = some rX) : pls_C.Res 158 [.d (.sl (.int .u32)) a, .d (.sl (.int .u32)) b] rX := by
  obtain ⟨nX, hX⟩ := hX
  exact ⟨nX, (pls_eq _ a b).trans hX⟩
def pls_h16_t (k : Nat → Cfg → Option (List RV)) (s1 : List Int) (s20 : List Int) (s21 : Int) (s6 : Int) (s22 : Int) (r0 : List Int) : Option (List RV) := match decide (s22 < s21) with | true => (match getI s20 s22 with | some x1 => (match decide (s22 < (s1.length : Int)) with | true => (match getI s1 s22 with | some x2 => (match decide ((IntKind.u32.wrap ((IntKind.u32.wrap (x1 + s6)) + x2)) ≥ 1000000000) with | true => (match decide ((r0.length + ([IntKind.u32.wrap ((IntKind.u32.wrap ((IntKind.u32.wrap (x1 + s6)) + x2)) - 1000000000)]).length) * 4 ≤ 140737488355328 ∧ r0.length + ([IntKind.u32.wrap ((IntKind.u32.wrap ((IntKind.u32.wrap (x1 + s6)) + x2)) - 1000000000)]).length ≤ 140737488355328) with | true => k 16 (pls_h16 s1 s20 s21 1 (IntKind.i64.wrap (s22 + 1)) (r0 ++ ([IntKind.u32.wrap ((IntKind.u32.wrap ((IntKind.u32.wrap (x1 + s6)) + x2)) - 1000000000)]))) | false => none) | false => (match decide ((r0.length + ([IntKind.u32.wrap ((IntKind.u32.wrap (x1 + s6)) + x2)]).length) * 4 ≤ 140737488355328 ∧ r0.length + ([IntKind.u32.wrap ((IntKind.u32.wrap (x1 + s6)) + x2)]).length ≤ 140737488355328) with | true => k 16 (pls_h16 s1 s20 s21 0 (IntKind.i64.wrap (s22 + 1)) (r0 ++ ([IntKind.u32.wrap ((IntKind.u32.wrap (x1 + s6)) + x2)]))) | false => none)) | none => none) | false => (match decide ((IntKind.u32.wrap (x1 + s6)) ≥ 1000000000) with | true => (match decide ((r0.length + ([IntKind.u32.wrap ((IntKind.u32.wrap (x1 + s6)) - 1000000000)]).length) * 4 ≤ 140737488355328 ∧ r0.length + ([IntKind.u32.wrap ((IntKind.u32.wrap (x1 + s6)) - 1000000000)]).length ≤ 140737488355328) with | true => k 16 (pls_h16 s1 s20 s21 1 (IntKind.i64.wrap (s22 + 1)) (r0 ++ ([IntKind.u32.wrap ((IntKind.u32.wrap (x1 + s6)) - 1000000000)]))) | false => none) | false => (match decide ((r0.length + ([IntKind.u32.wrap (x1 + s6)]).length) * 4 ≤ 140737488355328 ∧ r0.length + ([IntKind.u32.wrap (x1 + s6)]).length ≤ 140737488355328) with | true => k 16 (pls_h16 s1 s20 s21 0 (IntKind.i64.wrap (s22 + 1)) (r0 ++ ([IntKind.u32.wrap (x1 + s6)]))) | false => none))) | none => none) | false => (match decide ((r0.length + ([s6]).length) * 4 ≤ 140737488355328 ∧ r0.length + ([s6]).length ≤ 140737488355328) with | true => some [RV.new 137 (.int .u32) (r0 ++ ([s6]))] | false => none)
theorem pls_h16_eq (k : Nat → Cfg → Option (List RV)) (s1 : List Int) (s20 : List Int) (s21 : Int) (s6 : Int) (s22 : Int) (r0 : List Int) : go Tryz.prog ft tys [] pls_nt k 4000 { pls_h16 s1 s20 s21 s6 s22 r0 with K := .lp 16 :: (pls_h16 s1 s20 s21 s6 s22 r0).K } (.node 17) = pls_h16_t k s1 s20 s21 s6 s22 r0 := (go2_eq _ _ _ _ _ _ _ _ _).symm.trans (show go2 Tryz.prog ft tys [] pls_nt k 4000 { pls_h16 s1 s20 s21 s6 s22 r0 with K := .lp 16 :: (pls_h16 s1 s20 s21 s6 s22 r0).K } (.node 17) = pls_h16_t k s1 s20 s21 s6 s22 r0 by kernel_rfl)
theorem pls_h16_s (s1 : List Int) (s20 : List Int) (s21 : Int) (s6 : Int) (s22 : Int) (r0 : List Int) {rX : List RV} (hX : ∃ nX, pls_h16_t (pls_C.k nX) s1 s20 s21 s6 s22 r0 = some rX) : pls_C.Runs 16 (pls_h16 s1 s20 s21 s6 s22 r0) rX := by
  obtain ⟨nX, hX⟩ := hX
  exact ⟨nX + 1, (pls_h16_eq _ s1 s20 s21 s6 s22 r0).trans hX⟩
def mns_nt : NT := [((159, 10), { keep := [1, 5, 6, 13, 14, 15], hl := 1 })]
noncomputable def mns_C : Ctx := ⟨Tryz.prog, ft, tys, [], mns_nt⟩
def mns_h10 (a : List Int) (b : List Int) (s6 : Int) (s15 : Int) (r0 : List Int) : Cfg := ⟨159, [.blk 0, .seq 39], [(1, .d (.sl (.int .u32)) b), (5, .own 0), (6, .d (.int .u32) s6), (13, .d (.sl (.int .u32)) a), (14, SI (a.length : Int)), (15, SI s15)], [.row 137 (.int .u32) r0], 0, []⟩
def mns_t (k : Nat → Cfg → Option (List RV)) (a : List Int) (b : List Int) : Option (List RV) := match decide ((0 : Int) ≤ (a.length : Int) ∧ (a.length : Int) * ((4 : Nat) : Int) ≤ 140737488355328 ∧ (a.length : Int) ≤ 140737488355328) with | true => k 10 (mns_h10 a b 0 0 (List.replicate ((a.length : Int)).toNat (0 : Int))) | false => none
theorem mns_eq (k : Nat → Cfg → Option (List RV)) (a : List Int) (b : List Int) : go Tryz.prog ft tys [] mns_nt k 4000 (start 159 [.d (.sl (.int .u32)) a, .d (.sl (.int .u32)) b]) (.node 0) = mns_t k a b := (go2_eq _ _ _ _ _ _ _ _ _).symm.trans (show go2 Tryz.prog ft tys [] mns_nt k 4000 (start 159 [.d (.sl (.int .u32)) a, .d (.sl (.int .u32)) b]) (.node 0) = mns_t k a b by kernel_rfl)
theorem mns_s (a : List Int) (b : List Int) {rX : List RV} (hX : ∃ nX, mns_t (mns_C.k nX) a b = some rX) : mns_C.Res 159 [.d (.sl (.int .u32)) a, .d (.sl (.int .u32)) b] rX := by
  obtain ⟨nX, hX⟩ := hX
  exact ⟨nX, (mns_eq _ a b).trans hX⟩
def mns_h10_t (k : Nat → Cfg → Option (List RV)) (a : List Int) (b : List Int) (s6 : Int) (s15 : Int) (r0 : List Int) : Option (List RV) := match decide (s15 < (a.length : Int)) with | true => (match getI a s15 with | some x1 => (match decide (s15 < (b.length : Int)) with | true => (match getI b s15 with | some x2 => (match decide (x1 < (IntKind.u32.wrap (s6 + x2))) with | true => (match getI r0 s15 with | some _ => (match true, r0[(s15).toNat]? with | true, some _ => k 10 (mns_h10 a b 1 (IntKind.i64.wrap (s15 + 1)) (r0.set ((s15).toNat) (IntKind.u32.wrap ((IntKind.u32.wrap (x1 + 1000000000)) - (IntKind.u32.wrap (s6 + x2)))))) | _, _ => none) | none => none) | false => (match getI r0 s15 with | some _ => (match true, r0[(s15).toNat]? with | true, some _ => k 10 (mns_h10 a b 0 (IntKind.i64.wrap (s15 + 1)) (r0.set ((s15).toNat) (IntKind.u32.wrap (x1 - (IntKind.u32.wrap (s6 + x2)))))) | _, _ => none) | none => none)) | none => none) | false => (match decide (x1 < s6) with | true => (match getI r0 s15 with | some _ => (match true, r0[(s15).toNat]? with | true, some _ => k 10 (mns_h10 a b 1 (IntKind.i64.wrap (s15 + 1)) (r0.set ((s15).toNat) (IntKind.u32.wrap ((IntKind.u32.wrap (x1 + 1000000000)) - s6)))) | _, _ => none) | none => none) | false => (match getI r0 s15 with | some _ => (match true, r0[(s15).toNat]? with | true, some _ => k 10 (mns_h10 a b 0 (IntKind.i64.wrap (s15 + 1)) (r0.set ((s15).toNat) (IntKind.u32.wrap (x1 - s6)))) | _, _ => none) | none => none))) | none => none) | false => some [RV.new 137 (.int .u32) r0]
theorem mns_h10_eq (k : Nat → Cfg → Option (List RV)) (a : List Int) (b : List Int) (s6 : Int) (s15 : Int) (r0 : List Int) : go Tryz.prog ft tys [] mns_nt k 4000 { mns_h10 a b s6 s15 r0 with K := .lp 10 :: (mns_h10 a b s6 s15 r0).K } (.node 11) = mns_h10_t k a b s6 s15 r0 := (go2_eq _ _ _ _ _ _ _ _ _).symm.trans (show go2 Tryz.prog ft tys [] mns_nt k 4000 { mns_h10 a b s6 s15 r0 with K := .lp 10 :: (mns_h10 a b s6 s15 r0).K } (.node 11) = mns_h10_t k a b s6 s15 r0 by kernel_rfl)
theorem mns_h10_s (a : List Int) (b : List Int) (s6 : Int) (s15 : Int) (r0 : List Int) {rX : List RV} (hX : ∃ nX, mns_h10_t (mns_C.k nX) a b s6 s15 r0 = some rX) : mns_C.Runs 10 (mns_h10 a b s6 s15 r0) rX := by
  obtain ⟨nX, hX⟩ := hX
  exact ⟨nX + 1, (mns_h10_eq _ a b s6 s15 r0).trans hX⟩
def tms_nt : NT := [((82, 8), { keep := [1, 5, 18, 19, 20], hl := 1 }), ((82, 25), { keep := [1, 5, 6, 7, 8, 18, 19, 20, 25, 26, 27], hl := 1 })]
noncomputable def tms_C : Ctx := ⟨Tryz.prog, ft, tys, [], tms_nt⟩
def tms_h8 (a : List Int) (b : List Int) (s20 : Int) (r0 : List Int) : Cfg := ⟨82, [.blk 0, .seq 42], [(1, .d (.sl (.int .u32)) b), (5, .own 0), (18, .d (.sl (.int .u32)) a), (19, SI (a.length : Int)), (20, SI s20)], [.row 137 (.int .u32) r0], 0, []⟩
def tms_h25 (a : List Int) (b : List Int) (s20 : Int) (x1 : Int) (s8 : Int) (s27 : Int) (r0 : List Int) : Cfg := ⟨82, [.blk 2, .seq 40, .blk 1, .seq 41, .lp 8, .blk 0, .seq 42], [(1, .d (.sl (.int .u32)) b), (5, .own 0), (6, SI s20), (7, .d (.int .u32) x1), (8, .d (.int .u64) s8), (18, .d (.sl (.int .u32)) a), (19, SI (a.length : Int)), (20, SI s20), (25, .d (.sl (.int .u32)) b), (26, SI (b.length : Int)), (27, SI s27)], [.row 137 (.int .u32) r0], 0, []⟩
def tms_t (k : Nat → Cfg → Option (List RV)) (a : List Int) (b : List Int) : Option (List RV) := match decide ((0 : Int) ≤ IntKind.i64.wrap ((a.length : Int) + (b.length : Int)) ∧ (IntKind.i64.wrap ((a.length : Int) + (b.length : Int))) * ((4 : Nat) : Int) ≤ 140737488355328 ∧ IntKind.i64.wrap ((a.length : Int) + (b.length : Int)) ≤ 140737488355328) with | true => k 8 (tms_h8 a b 0 (List.replicate (IntKind.i64.wrap ((a.length : Int) + (b.length : Int))).toNat (0 : Int))) | false => none
theorem tms_eq (k : Nat → Cfg → Option (List RV)) (a : List Int) (b : List Int) : go Tryz.prog ft tys [] tms_nt k 4000 (start 82 [.d (.sl (.int .u32)) a, .d (.sl (.int .u32)) b]) (.node 0) = tms_t k a b := (go2_eq _ _ _ _ _ _ _ _ _).symm.trans (show go2 Tryz.prog ft tys [] tms_nt k 4000 (start 82 [.d (.sl (.int .u32)) a, .d (.sl (.int .u32)) b]) (.node 0) = tms_t k a b by kernel_rfl)
theorem tms_s (a : List Int) (b : List Int) {rX : List RV} (hX : ∃ nX, tms_t (tms_C.k nX) a b = some rX) : tms_C.Res 82 [.d (.sl (.int .u32)) a, .d (.sl (.int .u32)) b] rX := by
  obtain ⟨nX, hX⟩ := hX
  exact ⟨nX, (tms_eq _ a b).trans hX⟩
def tms_h8_t (k : Nat → Cfg → Option (List RV)) (a : List Int) (b : List Int) (s20 : Int) (r0 : List Int) : Option (List RV) := match decide (s20 < (a.length : Int)) with | true => (match getI a s20 with | some x1 => k 25 (tms_h25 a b s20 x1 0 0 r0) | none => none) | false => some [RV.new 137 (.int .u32) r0]
theorem tms_h8_eq (k : Nat → Cfg → Option (List RV)) (a : List Int) (b : List Int) (s20 : Int) (r0 : List Int) : go Tryz.prog ft tys [] tms_nt k 4000 { tms_h8 a b s20 r0 with K := .lp 8 :: (tms_h8 a b s20 r0).K } (.node 9) = tms_h8_t k a b s20 r0 := (go2_eq _ _ _ _ _ _ _ _ _).symm.trans (show go2 Tryz.prog ft tys [] tms_nt k 4000 { tms_h8 a b s20 r0 with K := .lp 8 :: (tms_h8 a b s20 r0).K } (.node 9) = tms_h8_t k a b s20 r0 by kernel_rfl)
theorem tms_h8_s (a : List Int) (b : List Int) (s20 : Int) (r0 : List Int) {rX : List RV} (hX : ∃ nX, tms_h8_t (tms_C.k nX) a b s20 r0 = some rX) : tms_C.Runs 8 (tms_h8 a b s20 r0) rX := by
  obtain ⟨nX, hX⟩ := hX
  exact ⟨nX + 1, (tms_h8_eq _ a b s20 r0).trans hX⟩
def tms_h25_t (k : Nat → Cfg → Option (List RV)) (a : List Int) (b : List Int) (s20 : Int) (x1 : Int) (s8 : Int) (s27 : Int) (r0 : List Int) : Option (List RV) := match decide (s27 < (b.length : Int)) with | true => (match getI b s27 with | some x2 => (match getI r0 (IntKind.i64.wrap (s20 + s27)) with | some _ => (match true, r0[(IntKind.i64.wrap (s20 + s27)).toNat]? with | true, some x3 => (match getI r0 (IntKind.i64.wrap (s20 + s27)) with | some _ => (match true, r0[(IntKind.i64.wrap (s20 + s27)).toNat]? with | true, some _ => k 25 (tms_h25 a b s20 x1 (IntKind.u64.wrap (Int.tdiv (IntKind.u64.wrap ((IntKind.u64.wrap ((IntKind.u64.wrap x3) + (IntKind.u64.wrap ((IntKind.u64.wrap x1) * (IntKind.u64.wrap x2))))) + s8)) 1000000000)) (IntKind.i64.wrap (s27 + 1)) (r0.set ((IntKind.i64.wrap (s20 + s27)).toNat) (IntKind.u32.wrap (Int.tmod (IntKind.u64.wrap ((IntKind.u64.wrap ((IntKind.u64.wrap x3) + (IntKind.u64.wrap ((IntKind.u64.wrap x1) * (IntKind.u64.wrap x2))))) + s8)) 1000000000)))) | _, _ => none) | none => none) | _, _ => none) | none => none) | none => none) | false => (match getI r0 (IntKind.i64.wrap (s20 + (b.length : Int))) with | some _ => (match true, r0[(IntKind.i64.wrap (s20 + (b.length : Int))).toNat]? with | true, some _ => k 8 (tms_h8 a b (IntKind.i64.wrap (s20 + 1)) (r0.set ((IntKind.i64.wrap (s20 + (b.length : Int))).toNat) (IntKind.u32.wrap s8))) | _, _ => none) | none => none)
theorem tms_h25_eq (k : Nat → Cfg → Option (List RV)) (a : List Int) (b : List Int) (s20 : Int) (x1 : Int) (s8 : Int) (s27 : Int) (r0 : List Int) : go Tryz.prog ft tys [] tms_nt k 4000 { tms_h25 a b s20 x1 s8 s27 r0 with K := .lp 25 :: (tms_h25 a b s20 x1 s8 s27 r0).K } (.node 26) = tms_h25_t k a b s20 x1 s8 s27 r0 := (go2_eq _ _ _ _ _ _ _ _ _).symm.trans (show go2 Tryz.prog ft tys [] tms_nt k 4000 { tms_h25 a b s20 x1 s8 s27 r0 with K := .lp 25 :: (tms_h25 a b s20 x1 s8 s27 r0).K } (.node 26) = tms_h25_t k a b s20 x1 s8 s27 r0 by kernel_rfl)
theorem tms_h25_s (a : List Int) (b : List Int) (s20 : Int) (x1 : Int) (s8 : Int) (s27 : Int) (r0 : List Int) {rX : List RV} (hX : ∃ nX, tms_h25_t (tms_C.k nX) a b s20 x1 s8 s27 r0 = some rX) : tms_C.Runs 25 (tms_h25 a b s20 x1 s8 s27 r0) rX := by
  obtain ⟨nX, hX⟩ := hX
  exact ⟨nX + 1, (tms_h25_eq _ a b s20 x1 s8 s27 r0).trans hX⟩
def byw_nt : NT := [((150, 10), { keep := [0, 1, 6, 7, 8], hl := 1 })]
noncomputable def byw_C : Ctx := ⟨Tryz.prog, ft, tys, [], byw_nt⟩
def byw_h10 (a : List Int) (b : Int) (s7 : Int) (s8 : Int) (r0 : List Int) : Cfg := ⟨150, [.blk 0, .seq 23], [(0, .d (.sl (.int .u32)) a), (1, .d (.int .u32) b), (6, .own 0), (7, .d (.int .u64) s7), (8, SI s8)], [.row 137 (.int .u32) r0], 0, []⟩
def byw_t (k : Nat → Cfg → Option (List RV)) (a : List Int) (b : Int) : Option (List RV) := match decide ((0 : Int) ≤ (a.length : Int) ∧ (a.length : Int) * ((4 : Nat) : Int) ≤ 140737488355328 ∧ (a.length : Int) ≤ 140737488355328) with | true => k 10 (byw_h10 a b 0 (IntKind.i64.wrap ((a.length : Int) - 1)) (List.replicate ((a.length : Int)).toNat (0 : Int))) | false => none
theorem byw_eq (k : Nat → Cfg → Option (List RV)) (a : List Int) (b : Int) : go Tryz.prog ft tys [] byw_nt k 4000 (start 150 [.d (.sl (.int .u32)) a, .d (.int .u32) b]) (.node 0) = byw_t k a b := (go2_eq _ _ _ _ _ _ _ _ _).symm.trans (show go2 Tryz.prog ft tys [] byw_nt k 4000 (start 150 [.d (.sl (.int .u32)) a, .d (.int .u32) b]) (.node 0) = byw_t k a b by kernel_rfl)
theorem byw_s (a : List Int) (b : Int) {rX : List RV} (hX : ∃ nX, byw_t (byw_C.k nX) a b = some rX) : byw_C.Res 150 [.d (.sl (.int .u32)) a, .d (.int .u32) b] rX := by
  obtain ⟨nX, hX⟩ := hX
  exact ⟨nX, (byw_eq _ a b).trans hX⟩
def byw_h10_t (k : Nat → Cfg → Option (List RV)) (a : List Int) (b : Int) (s7 : Int) (s8 : Int) (r0 : List Int) : Option (List RV) := match decide (s8 ≥ 0) with | true => (match getI a s8 with | some x1 => (match decide (IntKind.u64.wrap b = (0 : Int)) with | true => none | false => (match decide (IntKind.u64.wrap b = (0 : Int)) with | true => none | false => (match getI r0 s8 with | some _ => (match true, r0[(s8).toNat]? with | true, some _ => k 10 (byw_h10 a b (Int.tmod (IntKind.u64.wrap ((IntKind.u64.wrap (s7 * 1000000000)) + (IntKind.u64.wrap x1))) (IntKind.u64.wrap b)) (IntKind.i64.wrap (s8 - 1)) (r0.set ((s8).toNat) (IntKind.u32.wrap (IntKind.u64.wrap (Int.tdiv (IntKind.u64.wrap ((IntKind.u64.wrap (s7 * 1000000000)) + (IntKind.u64.wrap x1))) (IntKind.u64.wrap b)))))) | _, _ => none) | none => none))) | none => none) | false => some [RV.d (.sl (.int .u32)) r0, RV.d (.sl (.int .u32)) ([IntKind.u32.wrap s7])]
theorem byw_h10_eq (k : Nat → Cfg → Option (List RV)) (a : List Int) (b : Int) (s7 : Int) (s8 : Int) (r0 : List Int) : go Tryz.prog ft tys [] byw_nt k 4000 { byw_h10 a b s7 s8 r0 with K := .lp 10 :: (byw_h10 a b s7 s8 r0).K } (.node 11) = byw_h10_t k a b s7 s8 r0 := (go2_eq _ _ _ _ _ _ _ _ _).symm.trans (show go2 Tryz.prog ft tys [] byw_nt k 4000 { byw_h10 a b s7 s8 r0 with K := .lp 10 :: (byw_h10 a b s7 s8 r0).K } (.node 11) = byw_h10_t k a b s7 s8 r0 by kernel_rfl)
theorem byw_h10_s (a : List Int) (b : Int) (s7 : Int) (s8 : Int) (r0 : List Int) {rX : List RV} (hX : ∃ nX, byw_h10_t (byw_C.k nX) a b s7 s8 r0 = some rX) : byw_C.Runs 10 (byw_h10 a b s7 s8 r0) rX := by
  obtain ⟨nX, hX⟩ := hX
  exact ⟨nX + 1, (byw_h10_eq _ a b s7 s8 r0).trans hX⟩
theorem take_past {b : List Int} {i : Nat} (h : b.length ≤ i) : b.take (i + 1) = b.take i := by rw [List.take_of_length_le (by omega), List.take_of_length_le h]
theorem mk_ok {n : Nat} (h : n ≤ 4000000000) : decide ((0 : Int) ≤ (n : Int) ∧ (n : Int) * ((4 : Nat) : Int) ≤ 140737488355328 ∧ (n : Int) ≤ 140737488355328) = true := decide_eq_true ⟨by omega, by omega, by omega⟩
theorem app4 {m : Nat} (h : m ≤ 4000000000) : decide ((m + 1) * 4 ≤ 140737488355328 ∧ m + 1 ≤ 140737488355328) = true := decide_eq_true ⟨by omega, by omega⟩
theorem pls_loop (a b : List Int) (ha : LimS a) (hb : LimS b) (hab : b.length ≤ a.length) : ∀ (j i : Nat) (c : Int) (r : List Int), i + j = a.length → 0 ≤ c → c ≤ 1 → Lim r → r.length = i → val r + pw i * c = val (a.take i) + val (b.take i) →
    pls_C.Runs 16 (pls_h16 b a (a.length : Int) c (i : Int) r) [.new 137 (.int .u32) (dig (a.length + 1) (val a + val b))] := by
  have hsa := ha.2
  intro j
  induction j with
  | zero =>
    intro i c r hi c0 c1 hr hl hv
    obtain rfl : i = a.length := by omega
    refine pls_h16_s _ _ _ _ _ _ ⟨0, ?_⟩
    unfold pls_h16_t
    rw [ge_dec (Nat.le_refl _)]
    simp only [List.length_singleton]
    rw [app4 (by omega)]
    have e : r ++ [c] = dig (a.length + 1) (val a + val b) := by
      refine eq_dig (hr.append (Lim.cons ⟨c0, by omega⟩ Lim.nil)) (by simp [hl]) ?_
      rw [val_append, hl]
      rw [List.take_length, List.take_of_length_le hab] at hv
      simp only [val, Int.mul_zero, Int.add_zero]
      omega
    rw [e]
  | succ j ih =>
    intro i c r hi c0 c1 hr hl hv
    have hia : i < a.length := by omega
    have xa := ha.1.get hia
    have hp := pw_pos i
    have step : ∀ (y c' : Int), 0 ≤ y → y < 1000000000 → 0 ≤ c' → c' ≤ 1 → val (b.take (i + 1)) = val (b.take i) + pw i * (y + 1000000000 * c' - a[i] - c) → pls_C.Runs 16 (pls_h16 b a (a.length : Int) c' ((i + 1 : Nat) : Int) (r ++ [y])) [.new 137 (.int .u32) (dig (a.length + 1) (val a + val b))] := by
      intro y c' y0 y1 k0 k1 hb'
      refine ih (i + 1) c' (r ++ [y]) (by omega) k0 k1 (hr.append (Lim.cons ⟨y0, y1⟩ Lim.nil)) (by simp [hl]) ?_
      rw [val_append, hl, val_take_succ hia, hb', pw_succ]
      simp only [val]
      grind
    by_cases hib : i < b.length
    · have xb := hb.1.get hib
      have ht := val_take_succ hib
      by_cases hc : a[i] + c + b[i] ≥ 1000000000
      · obtain ⟨q, hq⟩ := step (a[i] + c + b[i] - 1000000000) 1 (by omega) (by omega) (by omega) (by omega) (by rw [ht]; grind)
        refine pls_h16_s _ _ _ _ _ _ ⟨q, ?_⟩
        unfold pls_h16_t
        rw [lt_dec hia, getI_nat, List.getElem?_eq_getElem hia, lt_dec hib, getI_nat, List.getElem?_eq_getElem hib]
        dsimp only
        rw [wr32 (x := a[i] + c) (by omega) (by omega), wr32 (x := a[i] + c + b[i]) (by omega) (by omega), decide_eq_true hc, wr32 (x := a[i] + c + b[i] - 1000000000) (by omega) (by omega), wrapS (by omega)]
        simp only [List.length_singleton]
        rw [app4 (by omega)]
        exact hq
      · obtain ⟨q, hq⟩ := step (a[i] + c + b[i]) 0 (by omega) (by omega) (by omega) (by omega) (by rw [ht]; grind)
        refine pls_h16_s _ _ _ _ _ _ ⟨q, ?_⟩
        unfold pls_h16_t
        rw [lt_dec hia, getI_nat, List.getElem?_eq_getElem hia, lt_dec hib, getI_nat, List.getElem?_eq_getElem hib]
        dsimp only
        rw [wr32 (x := a[i] + c) (by omega) (by omega), wr32 (x := a[i] + c + b[i]) (by omega) (by omega), decide_eq_false hc, wrapS (by omega)]
        simp only [List.length_singleton]
        rw [app4 (by omega)]
        exact hq
    · have ht := take_past (b := b) (i := i) (by omega)
      by_cases hc : a[i] + c ≥ 1000000000
      · obtain ⟨q, hq⟩ := step (a[i] + c - 1000000000) 1 (by omega) (by omega) (by omega) (by omega) (by rw [ht]; grind)
        refine pls_h16_s _ _ _ _ _ _ ⟨q, ?_⟩
        unfold pls_h16_t
        rw [lt_dec hia, getI_nat, List.getElem?_eq_getElem hia, ge_dec (show b.length ≤ i by omega)]
        dsimp only
        rw [wr32 (x := a[i] + c) (by omega) (by omega), decide_eq_true hc, wr32 (x := a[i] + c - 1000000000) (by omega) (by omega), wrapS (by omega)]
        simp only [List.length_singleton]
        rw [app4 (by omega)]
        exact hq
      · obtain ⟨q, hq⟩ := step (a[i] + c) 0 (by omega) (by omega) (by omega) (by omega) (by rw [ht]; grind)
        refine pls_h16_s _ _ _ _ _ _ ⟨q, ?_⟩
        unfold pls_h16_t
        rw [lt_dec hia, getI_nat, List.getElem?_eq_getElem hia, ge_dec (show b.length ≤ i by omega)]
        dsimp only
        rw [wr32 (x := a[i] + c) (by omega) (by omega), decide_eq_false hc, wrapS (by omega)]
        simp only [List.length_singleton]
        rw [app4 (by omega)]
        exact hq
theorem pls_con (a b : List Int) (h : LimS a ∧ LimS b) : Con Tryz.prog 158 [.d (.sl (.int .u32)) a, .d (.sl (.int .u32)) b] [.new 137 (.int .u32) (dig (max a.length b.length + 1) (val a + val b))] := by
  refine Ctx.Res.con (C := pls_C) (ctx_ok (E := []) trivial) ?_ (fn := Tryz.f158) (by kernel_rfl) (by kernel_rfl)
  obtain ⟨ha, hb⟩ := h
  have hsa := ha.2
  have hsb := hb.2
  have mk : ∀ n : Nat, n ≤ 1000000000 → decide ((0 : Int) = 0 ∧ (0 : Int) ≤ IntKind.i64.wrap ((n : Int) + 1) ∧ IntKind.i64.wrap ((n : Int) + 1) * ((4 : Nat) : Int) ≤ 140737488355328 ∧ IntKind.i64.wrap ((n : Int) + 1) ≤ 140737488355328) = true := fun n hn => by
    rw [wrapS (by omega)]
    exact decide_eq_true ⟨rfl, by omega, by omega, by omega⟩
  by_cases hc : a.length < b.length
  · obtain ⟨q, hq⟩ := pls_loop b a hb ha (by omega) b.length 0 0 [] (by omega) (by omega) (by omega) Lim.nil rfl (by simp [val])
    refine pls_s _ _ ⟨q, ?_⟩
    unfold pls_t
    rw [lt_dec hc, mk _ hsb, Nat.max_eq_right (by omega), Int.add_comm (val a)]
    exact hq
  · obtain ⟨q, hq⟩ := pls_loop a b ha hb (by omega) a.length 0 0 [] (by omega) (by omega) (by omega) Lim.nil rfl (by simp [val])
    refine pls_s _ _ ⟨q, ?_⟩
    unfold pls_t
    rw [ge_dec (by omega), mk _ hsa, Nat.max_eq_left (by omega)]
    exact hq
theorem set_zero {r : List Int} {i : Nat} {y : Int} (hz : ∀ j (hj : j < r.length), i ≤ j → r[j] = 0) : ∀ j (hj : j < (r.set i y).length), i + 1 ≤ j → (r.set i y)[j] = 0 := fun j hj hk => by
  rw [List.getElem_set_ne (by omega)]
  exact hz j (by simpa using hj) (by omega)
theorem mns_loop (a b : List Int) (ha : LimS a) (hb : LimS b) (hle : val b ≤ val a) (_hab : b.length ≤ a.length ∨ True) : ∀ (j i : Nat) (c : Int) (r : List Int), i + j = a.length → 0 ≤ c → c ≤ 1 → Lim r → r.length = a.length → (∀ k (hk : k < r.length), i ≤ k → r[k] = 0) → val r + val (b.take i) = val (a.take i) + pw i * c →
    mns_C.Runs 10 (mns_h10 a b c (i : Int) r) [.new 137 (.int .u32) (dig a.length (val a - val b))] := by
  have hsa := ha.2
  intro j
  induction j with
  | zero =>
    intro i c r hi c0 c1 hr hl hz hv
    obtain rfl : i = a.length := by omega
    refine mns_h10_s _ _ _ _ _ ⟨0, ?_⟩
    unfold mns_h10_t
    rw [ge_dec (Nat.le_refl _)]
    have hrl := val_lt hr
    rw [hl] at hrl
    have hb2 : val b = val (b.take a.length) + pw (min a.length b.length) * val (b.drop a.length) := val_split b a.length
    have hbd : 0 ≤ val (b.drop a.length) := val_nonneg (hb.1.drop _)
    have hal := val_lt ha.1
    have hbt := val_nonneg (hb.1.take a.length)
    rw [List.take_length] at hv
    have hz0 : val (b.drop a.length) = 0 := by
      rcases Nat.lt_or_ge a.length b.length with h1 | h1
      · rw [Nat.min_eq_left (by omega)] at hb2
        rcases Int.lt_or_le 0 (val (b.drop a.length)) with h2 | h2
        · have hp := pw_pos a.length
          have := Int.mul_le_mul_of_nonneg_left (show 1 ≤ val (b.drop a.length) by omega) (Int.le_of_lt hp)
          omega
        · omega
      · rw [List.drop_eq_nil_of_le h1]; rfl
    rw [hz0, Int.mul_zero, Int.add_zero] at hb2
    have hc0 : c = 0 := by
      have hp := pw_pos a.length
      rcases (show c = 0 ∨ c = 1 by omega) with h | h
      · exact h
      · subst h; rw [Int.mul_one] at hv; omega
    subst hc0
    rw [Int.mul_zero] at hv
    rw [← eq_dig hr hl (show val r = val a - val b by omega)]
  | succ j ih =>
    intro i c r hi c0 c1 hr hl hz hv
    have hia : i < a.length := by omega
    have hir : i < r.length := by omega
    have xa := ha.1.get hia
    have hr0 := hz i hir (Nat.le_refl _)
    have step : ∀ (y c' : Int), 0 ≤ y → y < 1000000000 → 0 ≤ c' → c' ≤ 1 → val (b.take (i + 1)) = val (b.take i) + pw i * (a[i] + 1000000000 * c' - y - c) → mns_C.Runs 10 (mns_h10 a b c' ((i + 1 : Nat) : Int) (r.set i y)) [.new 137 (.int .u32) (dig a.length (val a - val b))] := by
      intro y c' y0 y1 k0 k1 hb'
      refine ih (i + 1) c' (r.set i y) (by omega) k0 k1 (hr.set i ⟨y0, y1⟩) (by simpa using hl) (set_zero hz) ?_
      rw [val_set hir, hr0, val_take_succ hia, hb', pw_succ]
      grind
    by_cases hib : i < b.length
    · have xb := hb.1.get hib
      have ht := val_take_succ hib
      by_cases hc : a[i] < c + b[i]
      · obtain ⟨q, hq⟩ := step (a[i] + 1000000000 - (c + b[i])) 1 (by omega) (by omega) (by omega) (by omega) (by rw [ht]; grind)
        refine mns_h10_s _ _ _ _ _ ⟨q, ?_⟩
        unfold mns_h10_t
        rw [lt_dec hia, getI_nat, List.getElem?_eq_getElem hia, lt_dec hib, getI_nat, List.getElem?_eq_getElem hib, getI_nat, toNat_nat, List.getElem?_eq_getElem hir]
        dsimp only
        rw [wr32 (x := c + b[i]) (by omega) (by omega), decide_eq_true hc, wr32 (x := a[i] + 1000000000) (by omega) (by omega), wr32 (x := a[i] + 1000000000 - (c + b[i])) (by omega) (by omega), wrapS (by omega)]
        exact hq
      · obtain ⟨q, hq⟩ := step (a[i] - (c + b[i])) 0 (by omega) (by omega) (by omega) (by omega) (by rw [ht]; grind)
        refine mns_h10_s _ _ _ _ _ ⟨q, ?_⟩
        unfold mns_h10_t
        rw [lt_dec hia, getI_nat, List.getElem?_eq_getElem hia, lt_dec hib, getI_nat, List.getElem?_eq_getElem hib, getI_nat, toNat_nat, List.getElem?_eq_getElem hir]
        dsimp only
        rw [wr32 (x := c + b[i]) (by omega) (by omega), decide_eq_false hc, wr32 (x := a[i] - (c + b[i])) (by omega) (by omega), wrapS (by omega)]
        exact hq
    · have ht := take_past (b := b) (i := i) (by omega)
      by_cases hc : a[i] < c
      · obtain ⟨q, hq⟩ := step (a[i] + 1000000000 - c) 1 (by omega) (by omega) (by omega) (by omega) (by rw [ht]; grind)
        refine mns_h10_s _ _ _ _ _ ⟨q, ?_⟩
        unfold mns_h10_t
        rw [lt_dec hia, getI_nat, List.getElem?_eq_getElem hia, ge_dec (show b.length ≤ i by omega), getI_nat r i, toNat_nat, List.getElem?_eq_getElem hir]
        dsimp only
        rw [decide_eq_true hc, wr32 (x := a[i] + 1000000000) (by omega) (by omega), wr32 (x := a[i] + 1000000000 - c) (by omega) (by omega), wrapS (by omega)]
        exact hq
      · obtain ⟨q, hq⟩ := step (a[i] - c) 0 (by omega) (by omega) (by omega) (by omega) (by rw [ht]; grind)
        refine mns_h10_s _ _ _ _ _ ⟨q, ?_⟩
        unfold mns_h10_t
        rw [lt_dec hia, getI_nat, List.getElem?_eq_getElem hia, ge_dec (show b.length ≤ i by omega), getI_nat r i, toNat_nat, List.getElem?_eq_getElem hir]
        dsimp only
        rw [decide_eq_false hc, wr32 (x := a[i] - c) (by omega) (by omega), wrapS (by omega)]
        exact hq
def mnsP (a b : List Int) : Prop := LimS a ∧ LimS b ∧ val b ≤ val a
instance (a b : List Int) : Decidable (mnsP a b) := by unfold mnsP; infer_instance
theorem mns_con (a b : List Int) (h : mnsP a b) : Con Tryz.prog 159 [.d (.sl (.int .u32)) a, .d (.sl (.int .u32)) b] [.new 137 (.int .u32) (dig a.length (val a - val b))] := by
  refine Ctx.Res.con (C := mns_C) (ctx_ok (E := []) trivial) ?_ (fn := Tryz.f159) (by kernel_rfl) (by kernel_rfl)
  obtain ⟨ha, hb, hle⟩ := h
  have hsa := ha.2
  obtain ⟨q, hq⟩ := mns_loop a b ha hb hle (.inr trivial) a.length 0 0 (List.replicate a.length 0) (by omega) (by omega) (by omega) (Lim.rep _) (by simp) (fun k hk _ => by simp) (by simp [val, val_rep])
  refine mns_s _ _ ⟨q, ?_⟩
  unfold mns_t
  rw [mk_ok (by omega), toNat_nat]
  exact hq
theorem tms_bd {r x y c : Int} (hr : 0 ≤ r ∧ r < 1000000000) (hx : 0 ≤ x ∧ x < 1000000000) (hy : 0 ≤ y ∧ y < 1000000000) (hc : 0 ≤ c ∧ c < 1000000000) : 0 ≤ x * y ∧ x * y ≤ 999999998000000001 ∧ 0 ≤ (r + x * y + c) / 1000000000 ∧ (r + x * y + c) / 1000000000 < 1000000000 := by
  have h1 : 0 ≤ x * y := Int.mul_nonneg hx.1 hy.1
  have h2 : x * y ≤ 999999999 * 999999999 := Int.mul_le_mul (by omega) (by omega) hy.1 (by decide)
  omega
theorem tms_inner (a b : List Int) (ha : LimS a) (hb : LimS b) (i : Nat) (hi : i < a.length)
    (hout : ∀ r, Lim r → r.length = a.length + b.length → (∀ k (hk : k < r.length), i + 1 + b.length ≤ k → r[k] = 0) → val r = val (a.take (i + 1)) * val b → tms_C.Runs 8 (tms_h8 a b ((i + 1 : Nat) : Int) r) [.new 137 (.int .u32) (dig (a.length + b.length) (val a * val b))]) :
    ∀ (j k : Nat) (c : Int) (r : List Int), k + j = b.length → 0 ≤ c → c < 1000000000 → Lim r → r.length = a.length + b.length → (∀ q (hq : q < r.length), i + b.length ≤ q → r[q] = 0) → val r + pw (i + k) * c = val (a.take i) * val b + pw i * a[i] * val (b.take k) →
    tms_C.Runs 25 (tms_h25 a b (i : Int) a[i] c (k : Int) r) [.new 137 (.int .u32) (dig (a.length + b.length) (val a * val b))] := by
  have hsa := ha.2
  have hsb := hb.2
  have xa := ha.1.get hi
  intro j
  induction j with
  | zero =>
    intro k c r hk c0 c1 hr hl hz hv
    obtain rfl : k = b.length := by omega
    have hir : i + b.length < r.length := by omega
    have hr0 := hz _ hir (Nat.le_refl _)
    obtain ⟨q, hq⟩ := hout (r.set (i + b.length) c) (hr.set _ ⟨c0, c1⟩) (by simpa using hl) (by rw [show i + 1 + b.length = i + b.length + 1 by omega]; exact set_zero hz) (by
      rw [val_set hir, hr0, val_take_succ hi]
      rw [List.take_length] at hv
      grind)
    refine tms_h25_s _ _ _ _ _ _ _ ⟨q, ?_⟩
    have hw : IntKind.i64.wrap ((i : Int) + (b.length : Int)) = ((i + b.length : Nat) : Int) := by rw [wrap64 (by omega) (by omega)]; simp
    unfold tms_h25_t
    rw [ge_dec (Nat.le_refl _), hw, getI_nat r (i + b.length), toNat_nat, List.getElem?_eq_getElem hir, wr32 (x := c) (by omega) (by omega), wrapS (k := i) (by omega)]
    exact hq
  | succ j ih =>
    intro k c r hk c0 c1 hr hl hz hv
    have hkb : k < b.length := by omega
    have hir : i + k < r.length := by omega
    have xb := hb.1.get hkb
    have xr := hr.get hir
    have hbd := tms_bd xr xa xb ⟨c0, c1⟩
    obtain ⟨q, hq⟩ := ih (k + 1) ((r[i + k] + a[i] * b[k] + c) / 1000000000) (r.set (i + k) ((r[i + k] + a[i] * b[k] + c) % 1000000000)) (by omega) hbd.2.2.1 hbd.2.2.2 (hr.set _ (by omega)) (by simpa using hl)
      (fun m hm hq => by rw [List.getElem_set_ne (by omega)]; exact hz m (by simpa using hm) hq) (by
        rw [val_set hir, val_take_succ hkb, show i + (k + 1) = i + k + 1 by omega, pw_succ, pw_add]
        rw [pw_add] at hv
        have e := Int.emod_add_mul_ediv (r[i + k] + a[i] * b[k] + c) 1000000000
        grind)
    refine tms_h25_s _ _ _ _ _ _ _ ⟨q, ?_⟩
    have hw : IntKind.i64.wrap ((i : Int) + (k : Int)) = ((i + k : Nat) : Int) := by rw [wrap64 (by omega) (by omega)]; simp
    unfold tms_h25_t
    rw [lt_dec hkb, getI_nat b k, List.getElem?_eq_getElem hkb, hw, getI_nat r (i + k), toNat_nat, List.getElem?_eq_getElem hir]
    dsimp only
    rw [wr64 (x := r[i + k]) (by omega) (by omega), wr64 (x := a[i]) (by omega) (by omega), wr64 (x := b[k]) (by omega) (by omega), wr64 (x := a[i] * b[k]) (by omega) (by omega), wr64 (x := r[i + k] + a[i] * b[k]) (by omega) (by omega), wr64 (x := r[i + k] + a[i] * b[k] + c) (by omega) (by omega), tdivP (a := r[i + k] + a[i] * b[k] + c) (by omega), tmodP (a := r[i + k] + a[i] * b[k] + c) (by omega), wr64 (x := (r[i + k] + a[i] * b[k] + c) / 1000000000) (by omega) (by omega), wr32 (x := (r[i + k] + a[i] * b[k] + c) % 1000000000) (by omega) (by omega), wrapS (k := k) (by omega)]
    exact hq
theorem tms_outer (a b : List Int) (ha : LimS a) (hb : LimS b) : ∀ (j i : Nat) (r : List Int), i + j = a.length → Lim r → r.length = a.length + b.length → (∀ k (hk : k < r.length), i + b.length ≤ k → r[k] = 0) → val r = val (a.take i) * val b →
    tms_C.Runs 8 (tms_h8 a b (i : Int) r) [.new 137 (.int .u32) (dig (a.length + b.length) (val a * val b))] := by
  have hsa := ha.2
  intro j
  induction j with
  | zero =>
    intro i r hi hr hl hz hv
    obtain rfl : i = a.length := by omega
    refine tms_h8_s _ _ _ _ ⟨0, ?_⟩
    unfold tms_h8_t
    rw [List.take_length] at hv
    rw [ge_dec (Nat.le_refl _), ← eq_dig hr hl hv]
  | succ j ih =>
    intro i r hi hr hl hz hv
    have hia : i < a.length := by omega
    obtain ⟨q, hq⟩ := tms_inner a b ha hb i hia (fun r' h1 h2 h3 h4 => ih (i + 1) r' (by omega) h1 h2 h3 h4) b.length 0 0 r (by omega) (by omega) (by omega) hr hl hz (by simp [val, hv])
    refine tms_h8_s _ _ _ _ ⟨q, ?_⟩
    unfold tms_h8_t
    rw [lt_dec hia, getI_nat, List.getElem?_eq_getElem hia]
    exact hq
theorem tms_con (a b : List Int) (h : LimS a ∧ LimS b) : Con Tryz.prog 82 [.d (.sl (.int .u32)) a, .d (.sl (.int .u32)) b] [.new 137 (.int .u32) (dig (a.length + b.length) (val a * val b))] := by
  refine Ctx.Res.con (C := tms_C) (ctx_ok (E := []) trivial) ?_ (fn := Tryz.f82) (by kernel_rfl) (by kernel_rfl)
  obtain ⟨ha, hb⟩ := h
  have hsa := ha.2
  have hsb := hb.2
  obtain ⟨q, hq⟩ := tms_outer a b ha hb a.length 0 (List.replicate (a.length + b.length) 0) (by omega) (Lim.rep _) (by simp) (fun k hk _ => by simp) (by simp [val, val_rep])
  refine tms_s _ _ ⟨q, ?_⟩
  have hw : IntKind.i64.wrap ((a.length : Int) + (b.length : Int)) = ((a.length + b.length : Nat) : Int) := by rw [wrap64 (by omega) (by omega)]; simp
  unfold tms_t
  rw [hw, mk_ok (by omega), toNat_nat]
  exact hq
theorem byw_loop (a : List Int) (b : Int) (ha : LimS a) (hb : 1 ≤ b ∧ b < 1000000000) : ∀ (n : Nat) (c : Int) (r : List Int), n ≤ a.length → 0 ≤ c → c < b → Lim r → r.length = a.length → (∀ k (hk : k < r.length), k < n → r[k] = 0) → b * val r + pw n * c + val (a.take n) = val a →
    byw_C.Runs 10 (byw_h10 a b c ((n : Int) - 1) r) [.d (.sl (.int .u32)) (dig a.length (val a / b)), .d (.sl (.int .u32)) [val a % b]] := by
  have hsa := ha.2
  intro n
  induction n with
  | zero =>
    intro c r hn c0 c1 hr hl hz hv
    simp only [pw_zero, List.take_zero, val, Int.one_mul, Int.add_zero] at hv
    have e1 : val a % b = c := by
      rw [← hv, Int.add_comm, Int.add_mul_emod_self_left]
      exact Int.emod_eq_of_lt c0 c1
    have e2 : val a / b = val r := by
      rw [← hv, Int.add_comm, Int.add_mul_ediv_left _ _ (by omega), Int.ediv_eq_zero_of_lt c0 c1]
      omega
    refine byw_h10_s _ _ _ _ _ ⟨0, ?_⟩
    unfold byw_h10_t
    rw [decide_eq_false (by omega), e1, e2, ← eq_dig hr hl rfl, wr32 (x := c) (by omega) (by omega)]
  | succ n ih =>
    intro c r hn c0 c1 hr hl hz hv
    have hna : n < a.length := by omega
    have hnr : n < r.length := by omega
    have xa := ha.1.get hna
    have hr0 := hz n hnr (by omega)
    have hcb : 0 ≤ c * 1000000000 + a[n] := by omega
    have m0 := Int.emod_nonneg (c * 1000000000 + a[n]) (show b ≠ 0 by omega)
    have m1 := Int.emod_lt_of_pos (c * 1000000000 + a[n]) (show 0 < b by omega)
    have md := Int.mul_ediv_add_emod (c * 1000000000 + a[n]) b
    have d0 : 0 ≤ (c * 1000000000 + a[n]) / b := Int.ediv_nonneg hcb (by omega)
    have d1 : (c * 1000000000 + a[n]) / b < 1000000000 := by
      refine Int.ediv_lt_of_lt_mul (by omega) ?_
      have := Int.mul_le_mul_of_nonneg_right (show c + 1 ≤ b by omega) (show (0 : Int) ≤ 1000000000 by decide)
      rw [Int.mul_comm 1000000000 b]
      omega
    obtain ⟨q, hq⟩ := ih ((c * 1000000000 + a[n]) % b) (r.set n ((c * 1000000000 + a[n]) / b)) (by omega) m0 m1 (hr.set n ⟨d0, d1⟩) (by simpa using hl)
      (fun k hk hkn => by rw [List.getElem_set_ne (by omega)]; exact hz k (by simpa using hk) (by omega)) (by
        rw [val_set hnr, hr0]
        rw [val_take_succ hna, pw_succ] at hv
        grind)
    refine byw_h10_s _ _ _ _ _ ⟨q, ?_⟩
    unfold byw_h10_t
    rw [show ((n + 1 : Nat) : Int) - 1 = (n : Int) by omega, decide_eq_true (by omega), getI_nat a n, List.getElem?_eq_getElem hna, wr64 (x := b) (by omega) (by omega), decide_eq_false (show ¬ b = 0 by omega), getI_nat r n, toNat_nat, List.getElem?_eq_getElem hnr]
    dsimp only
    rw [wr64 (x := c * 1000000000) (by omega) (by omega), wr64 (x := a[n]) (by omega) (by omega), wr64 (x := c * 1000000000 + a[n]) (by omega) (by omega), tdivP hcb, tmodP hcb, wr64 (x := (c * 1000000000 + a[n]) / b) (by omega) (by omega), wr32 (x := (c * 1000000000 + a[n]) / b) (by omega) (by omega), wrap64 (x := (n : Int) - 1) (by omega) (by omega)]
    exact hq
def bywP (a : List Int) (b : Int) : Prop := LimS a ∧ 1 ≤ b ∧ b < 1000000000
instance (a : List Int) (b : Int) : Decidable (bywP a b) := by unfold bywP; infer_instance
theorem byw_con (a : List Int) (b : Int) (h : bywP a b) : Con Tryz.prog 150 [.d (.sl (.int .u32)) a, .d (.int .u32) b] [.d (.sl (.int .u32)) (dig a.length (val a / b)), .d (.sl (.int .u32)) [val a % b]] := by
  refine Ctx.Res.con (C := byw_C) (ctx_ok (E := []) trivial) ?_ (fn := Tryz.f150) (by kernel_rfl) (by kernel_rfl)
  obtain ⟨ha, hb⟩ := h
  have hsa := ha.2
  obtain ⟨q, hq⟩ := byw_loop a b ha hb a.length 0 (List.replicate a.length 0) (Nat.le_refl _) (by omega) (by omega) (Lim.rep _) (by simp) (fun k hk _ => by simp) (by simp [val_rep])
  refine byw_s _ _ ⟨q, ?_⟩
  unfold byw_t
  rw [mk_ok (by omega), toNat_nat, wrap64 (x := (a.length : Int) - 1) (by omega) (by omega)]
  exact hq
end Go.Proofs.YtcaiedfkohigjaaGreat
/- integer: divide, the code. -/
namespace Go.Proofs.YtcaiedfkohigjaaGreat
open Go.RowKit
def pls_sp : Spec := { keep := true, run := fun _ args k => match args with
  | [.d (.sl (.int .u32)) a, .d (.sl (.int .u32)) b] => match decide (LimS a ∧ LimS b) with
    | true => k [RV.new 137 (.int .u32) (dig (max a.length b.length + 1) (val a + val b))]
    | false => none
  | _ => none }
theorem pls_spec : callable Tryz.prog 158 = true ∧ SpecOk Tryz.prog 158 pls_sp ∧ ∀ g, pls_sp.mut_ = some g → MCon Tryz.prog 158 g := by
  refine ⟨by kernel_rfl, fun R args k r h => ?_, fun g h => by simp [pls_sp] at h⟩
  unfold pls_sp at h
  dsimp only at h
  split at h <;> try (cases h; done)
  split at h <;> try (cases h; done)
  rename_i hd
  exact ⟨_, h, pls_con _ _ (of_decide_eq_true hd)⟩

def mns_sp : Spec := { keep := true, run := fun _ args k => match args with
  | [.d (.sl (.int .u32)) a, .d (.sl (.int .u32)) b] => match decide (mnsP a b) with
    | true => k [RV.new 137 (.int .u32) (dig a.length (val a - val b))]
    | false => none
  | _ => none }
theorem mns_spec : callable Tryz.prog 159 = true ∧ SpecOk Tryz.prog 159 mns_sp ∧ ∀ g, mns_sp.mut_ = some g → MCon Tryz.prog 159 g := by
  refine ⟨by kernel_rfl, fun R args k r h => ?_, fun g h => by simp [mns_sp] at h⟩
  unfold mns_sp at h
  dsimp only at h
  split at h <;> try (cases h; done)
  split at h <;> try (cases h; done)
  rename_i hd
  exact ⟨_, h, mns_con _ _ (of_decide_eq_true hd)⟩

def tms_sp : Spec := { keep := true, run := fun _ args k => match args with
  | [.d (.sl (.int .u32)) a, .d (.sl (.int .u32)) b] => match decide (LimS a ∧ LimS b) with
    | true => k [RV.new 137 (.int .u32) (dig (a.length + b.length) (val a * val b))]
    | false => none
  | _ => none }
theorem tms_spec : callable Tryz.prog 82 = true ∧ SpecOk Tryz.prog 82 tms_sp ∧ ∀ g, tms_sp.mut_ = some g → MCon Tryz.prog 82 g := by
  refine ⟨by kernel_rfl, fun R args k r h => ?_, fun g h => by simp [tms_sp] at h⟩
  unfold tms_sp at h
  dsimp only at h
  split at h <;> try (cases h; done)
  split at h <;> try (cases h; done)
  rename_i hd
  exact ⟨_, h, tms_con _ _ (of_decide_eq_true hd)⟩

def byw_sp : Spec := { keep := false, run := fun _ args k => match args with
  | [.d (.sl (.int .u32)) a, .d (.int .u32) b] => match decide (bywP a b) with
    | true => k [RV.d (.sl (.int .u32)) (dig a.length (val a / b)), RV.d (.sl (.int .u32)) ([val a % b])]
    | false => none
  | _ => none }
theorem byw_spec : callable Tryz.prog 150 = true ∧ SpecOk Tryz.prog 150 byw_sp ∧ ∀ g, byw_sp.mut_ = some g → MCon Tryz.prog 150 g := by
  refine ⟨by kernel_rfl, fun R args k r h => ?_, fun g h => by simp [byw_sp] at h⟩
  unfold byw_sp at h
  dsimp only at h
  split at h <;> try (cases h; done)
  split at h <;> try (cases h; done)
  rename_i hd
  exact ⟨_, h, byw_con _ _ (of_decide_eq_true hd)⟩

def cpr_sp : Spec := { keep := true, run := fun _ args k => match args with
  | [.d (.sl (.int .u32)) a, .d (.sl (.int .u32)) b] => match decide (LimS a ∧ LimS b) with
    | true => k [RV.d (.int .i64) (cmpI (val a) (val b))]
    | false => none
  | _ => none }
theorem cpr_spec : callable Tryz.prog 80 = true ∧ SpecOk Tryz.prog 80 cpr_sp ∧ ∀ g, cpr_sp.mut_ = some g → MCon Tryz.prog 80 g := by
  refine ⟨by kernel_rfl, fun R args k r h => ?_, fun g h => by simp [cpr_sp] at h⟩
  unfold cpr_sp at h
  dsimp only at h
  split at h <;> try (cases h; done)
  split at h <;> try (cases h; done)
  rename_i hd
  exact ⟨_, h, cpr_con _ _ (of_decide_eq_true hd)⟩

def envBg2 : Env := [(120, trm_sp), (158, pls_sp), (159, mns_sp), (82, tms_sp), (150, byw_sp), (80, cpr_sp)]
theorem envBg2_ok : EnvAll Tryz.prog envBg2 := ⟨trm_spec, pls_spec, mns_spec, tms_spec, byw_spec, cpr_spec, trivial⟩
def dvd_nt : NT := [((132, 34), { keep := [6, 7, 8, 9, 10, 11], hl := 6 }), ((132, 49), { keep := [6, 7, 8, 9, 10, 11, 13, 14], hl := 6 }), ((151, 8), { keep := [0, 1, 2, 7, 8, 14, 15], hl := 6 }), ((152, 5), { keep := [0, 1, 4, 8, 9], hl := 6 }), ((132, 68), { keep := [6, 7, 8, 9, 10, 11, 13, 151], hl := 0 }), ((132, 72), { keep := [6, 7, 8, 9, 10, 11, 13], hl := 0 })]
noncomputable def dvd_C : Ctx := ⟨Tryz.prog, ft, tys, envBg2, dvd_nt⟩
def dvd_h34 (b : List Int) (x2 : Int) (s11 : Int) (r5 : List Int) (r1 : List Int) : Cfg := ⟨132, [.blk 0, .seq 76], [(6, SI ((limbs (val b).toNat).length : Int)), (7, .d (.int .u32) (IntKind.u32.wrap (IntKind.u64.wrap (Int.tdiv 1000000000 (IntKind.u64.wrap ((IntKind.u64.wrap x2) + 1)))))), (8, .own 1), (9, .d (.sl (.int .u32)) (limbs (val (dig ((limbs (val b).toNat).length + ([IntKind.u32.wrap (IntKind.u64.wrap (Int.tdiv 1000000000 (IntKind.u64.wrap ((IntKind.u64.wrap x2) + 1))))]).length) (val (limbs (val b).toNat) * val ([IntKind.u32.wrap (IntKind.u64.wrap (Int.tdiv 1000000000 (IntKind.u64.wrap ((IntKind.u64.wrap x2) + 1))))])))).toNat)), (10, .own 5), (11, SI s11)], [.row 137 (.int .u32) ([IntKind.u32.wrap (IntKind.u64.wrap (Int.tdiv 1000000000 (IntKind.u64.wrap ((IntKind.u64.wrap x2) + 1))))]), .row 137 (.int .u32) r1, .row 137 (.int .u32) ([0]), .row 137 (.int .u32) ([IntKind.u32.wrap (IntKind.u64.wrap (Int.tdiv 1000000000 (IntKind.u64.wrap ((IntKind.u64.wrap x2) + 1))))]), .gone, .row 137 (.int .u32) r5], 0, []⟩
def dvd_h49 (b : List Int) (x2 : Int) (s11 : Int) (r1 : List Int) (r5 : List Int) (s13 : Int) (s14 : Int) : Cfg := ⟨132, [.blk 2, .seq 66, .blk 1, .seq 75, .lp 34, .blk 0, .seq 76], [(6, SI ((limbs (val b).toNat).length : Int)), (7, .d (.int .u32) (IntKind.u32.wrap (IntKind.u64.wrap (Int.tdiv 1000000000 (IntKind.u64.wrap ((IntKind.u64.wrap x2) + 1)))))), (8, .own 1), (9, .d (.sl (.int .u32)) (limbs (val (dig ((limbs (val b).toNat).length + ([IntKind.u32.wrap (IntKind.u64.wrap (Int.tdiv 1000000000 (IntKind.u64.wrap ((IntKind.u64.wrap x2) + 1))))]).length) (val (limbs (val b).toNat) * val ([IntKind.u32.wrap (IntKind.u64.wrap (Int.tdiv 1000000000 (IntKind.u64.wrap ((IntKind.u64.wrap x2) + 1))))])))).toNat)), (10, .own 5), (11, SI s11), (13, .d (.int .u64) s13), (14, .d (.int .u64) s14)], [.row 137 (.int .u32) ([IntKind.u32.wrap (IntKind.u64.wrap (Int.tdiv 1000000000 (IntKind.u64.wrap ((IntKind.u64.wrap x2) + 1))))]), .row 137 (.int .u32) r1, .row 137 (.int .u32) ([0]), .row 137 (.int .u32) ([IntKind.u32.wrap (IntKind.u64.wrap (Int.tdiv 1000000000 (IntKind.u64.wrap ((IntKind.u64.wrap x2) + 1))))]), .gone, .row 137 (.int .u32) r5], 0, []⟩
def dvd_h151_8u1 (b : List Int) (x2 : Int) (s11 : Int) (r5 : List Int) (s151_2 : Int) (f151_0_13 : Int) (s151_7 : Int) (s151_8 : Int) (s151_15 : Int) (r151_1 : List Int) : Cfg := ⟨151, [.blk 0, .seq 43], [(0, .osl 1 1 ((s11 : Int).toNat) ((IntKind.i64.wrap ((IntKind.i64.wrap (s11 + ((limbs (val b).toNat).length : Int))) + 1) : Int).toNat - (s11 : Int).toNat)), (1, .d (.sl (.int .u32)) (limbs (val (dig ((limbs (val b).toNat).length + ([IntKind.u32.wrap (IntKind.u64.wrap (Int.tdiv 1000000000 (IntKind.u64.wrap ((IntKind.u64.wrap x2) + 1))))]).length) (val (limbs (val b).toNat) * val ([IntKind.u32.wrap (IntKind.u64.wrap (Int.tdiv 1000000000 (IntKind.u64.wrap ((IntKind.u64.wrap x2) + 1))))])))).toNat)), (2, .d (.int .u64) s151_2), (7, .d (.int .u64) s151_7), (8, .d (.int .u64) s151_8), (14, SI (((IntKind.i64.wrap ((IntKind.i64.wrap (s11 + ((limbs (val b).toNat).length : Int))) + 1) : Int).toNat - (s11 : Int).toNat : Nat) : Int)), (15, SI s151_15)], [.row 137 (.int .u32) ([IntKind.u32.wrap (IntKind.u64.wrap (Int.tdiv 1000000000 (IntKind.u64.wrap ((IntKind.u64.wrap x2) + 1))))]), .row 137 (.int .u32) r151_1, .row 137 (.int .u32) ([0]), .row 137 (.int .u32) ([IntKind.u32.wrap (IntKind.u64.wrap (Int.tdiv 1000000000 (IntKind.u64.wrap ((IntKind.u64.wrap x2) + 1))))]), .gone, .row 137 (.int .u32) r5], 6, [⟨132, [.seq 69, .seq 74, .blk 1, .seq 75, .lp 34, .blk 0, .seq 76], 68, 9, [(6, SI ((limbs (val b).toNat).length : Int)), (7, .d (.int .u32) (IntKind.u32.wrap (IntKind.u64.wrap (Int.tdiv 1000000000 (IntKind.u64.wrap ((IntKind.u64.wrap x2) + 1)))))), (8, .own 1), (9, .d (.sl (.int .u32)) (limbs (val (dig ((limbs (val b).toNat).length + ([IntKind.u32.wrap (IntKind.u64.wrap (Int.tdiv 1000000000 (IntKind.u64.wrap ((IntKind.u64.wrap x2) + 1))))]).length) (val (limbs (val b).toNat) * val ([IntKind.u32.wrap (IntKind.u64.wrap (Int.tdiv 1000000000 (IntKind.u64.wrap ((IntKind.u64.wrap x2) + 1))))])))).toNat)), (10, .own 5), (11, SI s11), (13, .d (.int .u64) f151_0_13)], 0, none⟩]⟩
def dvd_h152_5u1 (b : List Int) (x2 : Int) (s11 : Int) (r5 : List Int) (f151_0_13 : Int) (s152_4 : Int) (s152_9 : Int) (r152_1 : List Int) : Cfg := ⟨152, [.blk 0], [(0, .osl 1 1 ((s11 : Int).toNat) ((IntKind.i64.wrap ((IntKind.i64.wrap (s11 + ((limbs (val b).toNat).length : Int))) + 1) : Int).toNat - (s11 : Int).toNat)), (1, .d (.sl (.int .u32)) (limbs (val (dig ((limbs (val b).toNat).length + ([IntKind.u32.wrap (IntKind.u64.wrap (Int.tdiv 1000000000 (IntKind.u64.wrap ((IntKind.u64.wrap x2) + 1))))]).length) (val (limbs (val b).toNat) * val ([IntKind.u32.wrap (IntKind.u64.wrap (Int.tdiv 1000000000 (IntKind.u64.wrap ((IntKind.u64.wrap x2) + 1))))])))).toNat)), (4, .d (.int .u32) s152_4), (8, SI (((IntKind.i64.wrap ((IntKind.i64.wrap (s11 + ((limbs (val b).toNat).length : Int))) + 1) : Int).toNat - (s11 : Int).toNat : Nat) : Int)), (9, SI s152_9)], [.row 137 (.int .u32) ([IntKind.u32.wrap (IntKind.u64.wrap (Int.tdiv 1000000000 (IntKind.u64.wrap ((IntKind.u64.wrap x2) + 1))))]), .row 137 (.int .u32) r152_1, .row 137 (.int .u32) ([0]), .row 137 (.int .u32) ([IntKind.u32.wrap (IntKind.u64.wrap (Int.tdiv 1000000000 (IntKind.u64.wrap ((IntKind.u64.wrap x2) + 1))))]), .gone, .row 137 (.int .u32) r5], 6, [⟨132, [.seq 74, .blk 1, .seq 75, .lp 34, .blk 0, .seq 76], 72, 8, [(6, SI ((limbs (val b).toNat).length : Int)), (7, .d (.int .u32) (IntKind.u32.wrap (IntKind.u64.wrap (Int.tdiv 1000000000 (IntKind.u64.wrap ((IntKind.u64.wrap x2) + 1)))))), (8, .own 1), (9, .d (.sl (.int .u32)) (limbs (val (dig ((limbs (val b).toNat).length + ([IntKind.u32.wrap (IntKind.u64.wrap (Int.tdiv 1000000000 (IntKind.u64.wrap ((IntKind.u64.wrap x2) + 1))))]).length) (val (limbs (val b).toNat) * val ([IntKind.u32.wrap (IntKind.u64.wrap (Int.tdiv 1000000000 (IntKind.u64.wrap ((IntKind.u64.wrap x2) + 1))))])))).toNat)), (10, .own 5), (11, SI s11), (13, .d (.int .u64) (IntKind.u64.wrap (f151_0_13 - 1)))], 0, none⟩]⟩
def dvd_t (k : Nat → Cfg → Option (List RV)) (a : List Int) (b : List Int) : Option (List RV) := match decide (LimS a) with | true => (match decide (LimS b) with | true => (match ((limbs (val b).toNat).length : Int) == 1 with | true => (match getI (limbs (val b).toNat) 0 with | some x1 => (match decide (bywP (limbs (val a).toNat) x1) with | true => some [RV.d (.sl (.int .u32)) (dig (limbs (val a).toNat).length (val (limbs (val a).toNat) / x1)), RV.d (.sl (.int .u32)) ([val (limbs (val a).toNat) % x1])] | false => none) | none => none) | false => (match decide (LimS (limbs (val a).toNat) ∧ LimS (limbs (val b).toNat)) with | true => (match decide ((cmpI (val (limbs (val a).toNat)) (val (limbs (val b).toNat))) < 0) with | true => (match decide ((limbs (val a).toNat).length * 4 ≤ 140737488355328 ∧ (limbs (val a).toNat).length ≤ 140737488355328) with | true => some [RV.d (.sl (.int .u32)) ([]), RV.d (.sl (.int .u32)) (limbs (val a).toNat)] | false => none) | false => (match getI (limbs (val b).toNat) (IntKind.i64.wrap (((limbs (val b).toNat).length : Int) - 1)) with | some x2 => (match decide (IntKind.u64.wrap ((IntKind.u64.wrap x2) + 1) = (0 : Int)) with | true => none | false => (match decide (LimS (limbs (val a).toNat) ∧ LimS ([IntKind.u32.wrap (IntKind.u64.wrap (Int.tdiv 1000000000 (IntKind.u64.wrap ((IntKind.u64.wrap x2) + 1))))])) with | true => (match decide (((dig ((limbs (val a).toNat).length + ([IntKind.u32.wrap (IntKind.u64.wrap (Int.tdiv 1000000000 (IntKind.u64.wrap ((IntKind.u64.wrap x2) + 1))))]).length) (val (limbs (val a).toNat) * val ([IntKind.u32.wrap (IntKind.u64.wrap (Int.tdiv 1000000000 (IntKind.u64.wrap ((IntKind.u64.wrap x2) + 1))))]))).length + ([0]).length) * 4 ≤ 140737488355328 ∧ (dig ((limbs (val a).toNat).length + ([IntKind.u32.wrap (IntKind.u64.wrap (Int.tdiv 1000000000 (IntKind.u64.wrap ((IntKind.u64.wrap x2) + 1))))]).length) (val (limbs (val a).toNat) * val ([IntKind.u32.wrap (IntKind.u64.wrap (Int.tdiv 1000000000 (IntKind.u64.wrap ((IntKind.u64.wrap x2) + 1))))]))).length + ([0]).length ≤ 140737488355328) with | true => (match decide (LimS (limbs (val b).toNat) ∧ LimS ([IntKind.u32.wrap (IntKind.u64.wrap (Int.tdiv 1000000000 (IntKind.u64.wrap ((IntKind.u64.wrap x2) + 1))))])) with | true => (match decide (LimS (dig ((limbs (val b).toNat).length + ([IntKind.u32.wrap (IntKind.u64.wrap (Int.tdiv 1000000000 (IntKind.u64.wrap ((IntKind.u64.wrap x2) + 1))))]).length) (val (limbs (val b).toNat) * val ([IntKind.u32.wrap (IntKind.u64.wrap (Int.tdiv 1000000000 (IntKind.u64.wrap ((IntKind.u64.wrap x2) + 1))))])))) with | true => (match decide ((0 : Int) ≤ IntKind.i64.wrap ((((dig ((limbs (val a).toNat).length + ([IntKind.u32.wrap (IntKind.u64.wrap (Int.tdiv 1000000000 (IntKind.u64.wrap ((IntKind.u64.wrap x2) + 1))))]).length) (val (limbs (val a).toNat) * val ([IntKind.u32.wrap (IntKind.u64.wrap (Int.tdiv 1000000000 (IntKind.u64.wrap ((IntKind.u64.wrap x2) + 1))))]))) ++ ([0])).length : Int) - ((limbs (val b).toNat).length : Int)) ∧ (IntKind.i64.wrap ((((dig ((limbs (val a).toNat).length + ([IntKind.u32.wrap (IntKind.u64.wrap (Int.tdiv 1000000000 (IntKind.u64.wrap ((IntKind.u64.wrap x2) + 1))))]).length) (val (limbs (val a).toNat) * val ([IntKind.u32.wrap (IntKind.u64.wrap (Int.tdiv 1000000000 (IntKind.u64.wrap ((IntKind.u64.wrap x2) + 1))))]))) ++ ([0])).length : Int) - ((limbs (val b).toNat).length : Int))) * ((4 : Nat) : Int) ≤ 140737488355328 ∧ IntKind.i64.wrap ((((dig ((limbs (val a).toNat).length + ([IntKind.u32.wrap (IntKind.u64.wrap (Int.tdiv 1000000000 (IntKind.u64.wrap ((IntKind.u64.wrap x2) + 1))))]).length) (val (limbs (val a).toNat) * val ([IntKind.u32.wrap (IntKind.u64.wrap (Int.tdiv 1000000000 (IntKind.u64.wrap ((IntKind.u64.wrap x2) + 1))))]))) ++ ([0])).length : Int) - ((limbs (val b).toNat).length : Int)) ≤ 140737488355328) with | true => k 34 (dvd_h34 b x2 (IntKind.i64.wrap ((IntKind.i64.wrap ((((dig ((limbs (val a).toNat).length + ([IntKind.u32.wrap (IntKind.u64.wrap (Int.tdiv 1000000000 (IntKind.u64.wrap ((IntKind.u64.wrap x2) + 1))))]).length) (val (limbs (val a).toNat) * val ([IntKind.u32.wrap (IntKind.u64.wrap (Int.tdiv 1000000000 (IntKind.u64.wrap ((IntKind.u64.wrap x2) + 1))))]))) ++ ([0])).length : Int) - ((limbs (val b).toNat).length : Int))) - 1)) (List.replicate (IntKind.i64.wrap ((((dig ((limbs (val a).toNat).length + ([IntKind.u32.wrap (IntKind.u64.wrap (Int.tdiv 1000000000 (IntKind.u64.wrap ((IntKind.u64.wrap x2) + 1))))]).length) (val (limbs (val a).toNat) * val ([IntKind.u32.wrap (IntKind.u64.wrap (Int.tdiv 1000000000 (IntKind.u64.wrap ((IntKind.u64.wrap x2) + 1))))]))) ++ ([0])).length : Int) - ((limbs (val b).toNat).length : Int))).toNat (0 : Int)) ((dig ((limbs (val a).toNat).length + ([IntKind.u32.wrap (IntKind.u64.wrap (Int.tdiv 1000000000 (IntKind.u64.wrap ((IntKind.u64.wrap x2) + 1))))]).length) (val (limbs (val a).toNat) * val ([IntKind.u32.wrap (IntKind.u64.wrap (Int.tdiv 1000000000 (IntKind.u64.wrap ((IntKind.u64.wrap x2) + 1))))]))) ++ ([0]))) | false => none) | false => none) | false => none) | false => none) | false => none)) | none => none)) | false => none)) | false => none) | false => none
theorem dvd_eq (k : Nat → Cfg → Option (List RV)) (a : List Int) (b : List Int) : go Tryz.prog ft tys envBg2 dvd_nt k 4000 (start 132 [.d (.sl (.int .u32)) a, .d (.sl (.int .u32)) b]) (.node 0) = dvd_t k a b := (go2_eq _ _ _ _ _ _ _ _ _).symm.trans (show go2 Tryz.prog ft tys envBg2 dvd_nt k 4000 (start 132 [.d (.sl (.int .u32)) a, .d (.sl (.int .u32)) b]) (.node 0) = dvd_t k a b by kernel_rfl)
theorem dvd_s (a : List Int) (b : List Int) {rX : List RV} (hX : ∃ nX, dvd_t (dvd_C.k nX) a b = some rX) : dvd_C.Res 132 [.d (.sl (.int .u32)) a, .d (.sl (.int .u32)) b] rX := by
  obtain ⟨nX, hX⟩ := hX
  exact ⟨nX, (dvd_eq _ a b).trans hX⟩
def dvd_h34_t (k : Nat → Cfg → Option (List RV)) (b : List Int) (x2 : Int) (s11 : Int) (r5 : List Int) (r1 : List Int) : Option (List RV) := match decide (s11 ≥ 0) with | true => (match getI r1 (IntKind.i64.wrap (s11 + ((limbs (val b).toNat).length : Int))) with | some _ => (match true, r1[(IntKind.i64.wrap (s11 + ((limbs (val b).toNat).length : Int))).toNat]? with | true, some x3 => (match getI r1 (IntKind.i64.wrap ((IntKind.i64.wrap (s11 + ((limbs (val b).toNat).length : Int))) - 1)) with | some _ => (match true, r1[(IntKind.i64.wrap ((IntKind.i64.wrap (s11 + ((limbs (val b).toNat).length : Int))) - 1)).toNat]? with | true, some x4 => (match getI (limbs (val (dig ((limbs (val b).toNat).length + ([IntKind.u32.wrap (IntKind.u64.wrap (Int.tdiv 1000000000 (IntKind.u64.wrap ((IntKind.u64.wrap x2) + 1))))]).length) (val (limbs (val b).toNat) * val ([IntKind.u32.wrap (IntKind.u64.wrap (Int.tdiv 1000000000 (IntKind.u64.wrap ((IntKind.u64.wrap x2) + 1))))])))).toNat) (IntKind.i64.wrap (((limbs (val b).toNat).length : Int) - 1)) with | some x5 => (match decide (IntKind.u64.wrap x5 = (0 : Int)) with | true => none | false => (match getI (limbs (val (dig ((limbs (val b).toNat).length + ([IntKind.u32.wrap (IntKind.u64.wrap (Int.tdiv 1000000000 (IntKind.u64.wrap ((IntKind.u64.wrap x2) + 1))))]).length) (val (limbs (val b).toNat) * val ([IntKind.u32.wrap (IntKind.u64.wrap (Int.tdiv 1000000000 (IntKind.u64.wrap ((IntKind.u64.wrap x2) + 1))))])))).toNat) (IntKind.i64.wrap (((limbs (val b).toNat).length : Int) - 1)) with | some x6 => (match decide (IntKind.u64.wrap x6 = (0 : Int)) with | true => none | false => k 49 (dvd_h49 b x2 s11 r1 r5 (IntKind.u64.wrap (Int.tdiv (IntKind.u64.wrap ((IntKind.u64.wrap ((IntKind.u64.wrap x3) * 1000000000)) + (IntKind.u64.wrap x4))) (IntKind.u64.wrap x5))) (Int.tmod (IntKind.u64.wrap ((IntKind.u64.wrap ((IntKind.u64.wrap x3) * 1000000000)) + (IntKind.u64.wrap x4))) (IntKind.u64.wrap x6)))) | none => none)) | none => none) | _, _ => none) | none => none) | _, _ => none) | none => none) | false => (match decide ((0 : Int) ≤ 0 ∧ 0 ≤ ((limbs (val b).toNat).length : Int) ∧ ((limbs (val b).toNat).length : Int) ≤ (r1.length : Int)) with | true => (match decide (LimS ((r1.drop ((0 : Int).toNat)).take ((((limbs (val b).toNat).length : Int) : Int).toNat - (0 : Int).toNat))) with | true => (match decide (bywP (limbs (val ((r1.drop ((0 : Int).toNat)).take ((((limbs (val b).toNat).length : Int) : Int).toNat - (0 : Int).toNat))).toNat) (IntKind.u32.wrap (IntKind.u64.wrap (Int.tdiv 1000000000 (IntKind.u64.wrap ((IntKind.u64.wrap x2) + 1)))))) with | true => some [RV.d (.sl (.int .u32)) r5, RV.d (.sl (.int .u32)) (dig (limbs (val ((r1.drop ((0 : Int).toNat)).take ((((limbs (val b).toNat).length : Int) : Int).toNat - (0 : Int).toNat))).toNat).length (val (limbs (val ((r1.drop ((0 : Int).toNat)).take ((((limbs (val b).toNat).length : Int) : Int).toNat - (0 : Int).toNat))).toNat) / (IntKind.u32.wrap (IntKind.u64.wrap (Int.tdiv 1000000000 (IntKind.u64.wrap ((IntKind.u64.wrap x2) + 1)))))))] | false => none) | false => none) | false => none)
theorem dvd_h34_eq (k : Nat → Cfg → Option (List RV)) (b : List Int) (x2 : Int) (s11 : Int) (r5 : List Int) (r1 : List Int) : go Tryz.prog ft tys envBg2 dvd_nt k 4000 { dvd_h34 b x2 s11 r5 r1 with K := .lp 34 :: (dvd_h34 b x2 s11 r5 r1).K } (.node 35) = dvd_h34_t k b x2 s11 r5 r1 := (go2_eq _ _ _ _ _ _ _ _ _).symm.trans (show go2 Tryz.prog ft tys envBg2 dvd_nt k 4000 { dvd_h34 b x2 s11 r5 r1 with K := .lp 34 :: (dvd_h34 b x2 s11 r5 r1).K } (.node 35) = dvd_h34_t k b x2 s11 r5 r1 by kernel_rfl)
theorem dvd_h34_s (b : List Int) (x2 : Int) (s11 : Int) (r5 : List Int) (r1 : List Int) {rX : List RV} (hX : ∃ nX, dvd_h34_t (dvd_C.k nX) b x2 s11 r5 r1 = some rX) : dvd_C.Runs 34 (dvd_h34 b x2 s11 r5 r1) rX := by
  obtain ⟨nX, hX⟩ := hX
  exact ⟨nX + 1, (dvd_h34_eq _ b x2 s11 r5 r1).trans hX⟩
def dvd_h49_t (k : Nat → Cfg → Option (List RV)) (b : List Int) (x2 : Int) (s11 : Int) (r1 : List Int) (r5 : List Int) (s13 : Int) (s14 : Int) : Option (List RV) := match decide (s13 ≥ 1000000000) with | true => (match getI (limbs (val (dig ((limbs (val b).toNat).length + ([IntKind.u32.wrap (IntKind.u64.wrap (Int.tdiv 1000000000 (IntKind.u64.wrap ((IntKind.u64.wrap x2) + 1))))]).length) (val (limbs (val b).toNat) * val ([IntKind.u32.wrap (IntKind.u64.wrap (Int.tdiv 1000000000 (IntKind.u64.wrap ((IntKind.u64.wrap x2) + 1))))])))).toNat) (IntKind.i64.wrap (((limbs (val b).toNat).length : Int) - 1)) with | some x7 => (match decide ((IntKind.u64.wrap (s14 + (IntKind.u64.wrap x7))) ≥ 1000000000) with | true => (match decide ((0 : Int) ≤ s11 ∧ s11 ≤ IntKind.i64.wrap ((IntKind.i64.wrap (s11 + ((limbs (val b).toNat).length : Int))) + 1) ∧ IntKind.i64.wrap ((IntKind.i64.wrap (s11 + ((limbs (val b).toNat).length : Int))) + 1) ≤ (r1.length : Int)) with | true => k 8 (dvd_h151_8u1 b x2 s11 r5 (IntKind.u64.wrap (s13 - 1)) (IntKind.u64.wrap (s13 - 1)) 0 0 0 r1) | false => none) | false => k 49 (dvd_h49 b x2 s11 r1 r5 (IntKind.u64.wrap (s13 - 1)) (IntKind.u64.wrap (s14 + (IntKind.u64.wrap x7))))) | none => none) | false => (match getI (limbs (val (dig ((limbs (val b).toNat).length + ([IntKind.u32.wrap (IntKind.u64.wrap (Int.tdiv 1000000000 (IntKind.u64.wrap ((IntKind.u64.wrap x2) + 1))))]).length) (val (limbs (val b).toNat) * val ([IntKind.u32.wrap (IntKind.u64.wrap (Int.tdiv 1000000000 (IntKind.u64.wrap ((IntKind.u64.wrap x2) + 1))))])))).toNat) (IntKind.i64.wrap (((limbs (val b).toNat).length : Int) - 2)) with | some x8 => (match getI r1 (IntKind.i64.wrap ((IntKind.i64.wrap (s11 + ((limbs (val b).toNat).length : Int))) - 2)) with | some _ => (match true, r1[(IntKind.i64.wrap ((IntKind.i64.wrap (s11 + ((limbs (val b).toNat).length : Int))) - 2)).toNat]? with | true, some x9 => (match decide ((IntKind.u64.wrap (s13 * (IntKind.u64.wrap x8))) > (IntKind.u64.wrap ((IntKind.u64.wrap (s14 * 1000000000)) + (IntKind.u64.wrap x9)))) with | true => (match getI (limbs (val (dig ((limbs (val b).toNat).length + ([IntKind.u32.wrap (IntKind.u64.wrap (Int.tdiv 1000000000 (IntKind.u64.wrap ((IntKind.u64.wrap x2) + 1))))]).length) (val (limbs (val b).toNat) * val ([IntKind.u32.wrap (IntKind.u64.wrap (Int.tdiv 1000000000 (IntKind.u64.wrap ((IntKind.u64.wrap x2) + 1))))])))).toNat) (IntKind.i64.wrap (((limbs (val b).toNat).length : Int) - 1)) with | some x10 => (match decide ((IntKind.u64.wrap (s14 + (IntKind.u64.wrap x10))) ≥ 1000000000) with | true => (match decide ((0 : Int) ≤ s11 ∧ s11 ≤ IntKind.i64.wrap ((IntKind.i64.wrap (s11 + ((limbs (val b).toNat).length : Int))) + 1) ∧ IntKind.i64.wrap ((IntKind.i64.wrap (s11 + ((limbs (val b).toNat).length : Int))) + 1) ≤ (r1.length : Int)) with | true => k 8 (dvd_h151_8u1 b x2 s11 r5 (IntKind.u64.wrap (s13 - 1)) (IntKind.u64.wrap (s13 - 1)) 0 0 0 r1) | false => none) | false => k 49 (dvd_h49 b x2 s11 r1 r5 (IntKind.u64.wrap (s13 - 1)) (IntKind.u64.wrap (s14 + (IntKind.u64.wrap x10))))) | none => none) | false => (match decide ((0 : Int) ≤ s11 ∧ s11 ≤ IntKind.i64.wrap ((IntKind.i64.wrap (s11 + ((limbs (val b).toNat).length : Int))) + 1) ∧ IntKind.i64.wrap ((IntKind.i64.wrap (s11 + ((limbs (val b).toNat).length : Int))) + 1) ≤ (r1.length : Int)) with | true => k 8 (dvd_h151_8u1 b x2 s11 r5 s13 s13 0 0 0 r1) | false => none)) | _, _ => none) | none => none) | none => none)
theorem dvd_h49_eq (k : Nat → Cfg → Option (List RV)) (b : List Int) (x2 : Int) (s11 : Int) (r1 : List Int) (r5 : List Int) (s13 : Int) (s14 : Int) : go Tryz.prog ft tys envBg2 dvd_nt k 4000 { dvd_h49 b x2 s11 r1 r5 s13 s14 with K := .lp 49 :: (dvd_h49 b x2 s11 r1 r5 s13 s14).K } (.node 50) = dvd_h49_t k b x2 s11 r1 r5 s13 s14 := (go2_eq _ _ _ _ _ _ _ _ _).symm.trans (show go2 Tryz.prog ft tys envBg2 dvd_nt k 4000 { dvd_h49 b x2 s11 r1 r5 s13 s14 with K := .lp 49 :: (dvd_h49 b x2 s11 r1 r5 s13 s14).K } (.node 50) = dvd_h49_t k b x2 s11 r1 r5 s13 s14 by kernel_rfl)
theorem dvd_h49_s (b : List Int) (x2 : Int) (s11 : Int) (r1 : List Int) (r5 : List Int) (s13 : Int) (s14 : Int) {rX : List RV} (hX : ∃ nX, dvd_h49_t (dvd_C.k nX) b x2 s11 r1 r5 s13 s14 = some rX) : dvd_C.Runs 49 (dvd_h49 b x2 s11 r1 r5 s13 s14) rX := by
  obtain ⟨nX, hX⟩ := hX
  exact ⟨nX + 1, (dvd_h49_eq _ b x2 s11 r1 r5 s13 s14).trans hX⟩
def dvd_h151_8u1_t (k : Nat → Cfg → Option (List RV)) (b : List Int) (x2 : Int) (s11 : Int) (r5 : List Int) (s151_2 : Int) (f151_0_13 : Int) (s151_7 : Int) (s151_8 : Int) (s151_15 : Int) (r151_1 : List Int) : Option (List RV) := match decide (s151_15 < (((IntKind.i64.wrap ((IntKind.i64.wrap (s11 + ((limbs (val b).toNat).length : Int))) + 1) : Int).toNat - (s11 : Int).toNat : Nat) : Int)) with | true => (match decide (s151_15 < ((limbs (val (dig ((limbs (val b).toNat).length + ([IntKind.u32.wrap (IntKind.u64.wrap (Int.tdiv 1000000000 (IntKind.u64.wrap ((IntKind.u64.wrap x2) + 1))))]).length) (val (limbs (val b).toNat) * val ([IntKind.u32.wrap (IntKind.u64.wrap (Int.tdiv 1000000000 (IntKind.u64.wrap ((IntKind.u64.wrap x2) + 1))))])))).toNat).length : Int)) with | true => (match getI (limbs (val (dig ((limbs (val b).toNat).length + ([IntKind.u32.wrap (IntKind.u64.wrap (Int.tdiv 1000000000 (IntKind.u64.wrap ((IntKind.u64.wrap x2) + 1))))]).length) (val (limbs (val b).toNat) * val ([IntKind.u32.wrap (IntKind.u64.wrap (Int.tdiv 1000000000 (IntKind.u64.wrap ((IntKind.u64.wrap x2) + 1))))])))).toNat) s151_15 with | some x11 => (match true, decide ((0 : Int) ≤ s151_15 ∧ s151_15 < (((IntKind.i64.wrap ((IntKind.i64.wrap (s11 + ((limbs (val b).toNat).length : Int))) + 1) : Int).toNat - (s11 : Int).toNat : Nat) : Int)) with | true, true => (match true, r151_1[(s11 : Int).toNat + (s151_15).toNat]? with | true, some x12 => (match decide ((IntKind.u64.wrap x12) < (IntKind.u64.wrap ((Int.tmod (IntKind.u64.wrap (s151_7 + (IntKind.u64.wrap ((IntKind.u64.wrap x11) * s151_2)))) 1000000000) + s151_8))) with | true => (match true, decide ((0 : Int) ≤ s151_15 ∧ s151_15 < (((IntKind.i64.wrap ((IntKind.i64.wrap (s11 + ((limbs (val b).toNat).length : Int))) + 1) : Int).toNat - (s11 : Int).toNat : Nat) : Int)) with | true, true => (match true, r151_1[(s11 : Int).toNat + (s151_15).toNat]? with | true, some _ => k 8 (dvd_h151_8u1 b x2 s11 r5 s151_2 f151_0_13 (IntKind.u64.wrap (Int.tdiv (IntKind.u64.wrap (s151_7 + (IntKind.u64.wrap ((IntKind.u64.wrap x11) * s151_2)))) 1000000000)) 1 (IntKind.i64.wrap (s151_15 + 1)) (r151_1.set ((s11 : Int).toNat + (s151_15).toNat) (IntKind.u32.wrap (IntKind.u64.wrap ((IntKind.u64.wrap ((IntKind.u64.wrap x12) + 1000000000)) - (IntKind.u64.wrap ((Int.tmod (IntKind.u64.wrap (s151_7 + (IntKind.u64.wrap ((IntKind.u64.wrap x11) * s151_2)))) 1000000000) + s151_8))))))) | _, _ => none) | _, _ => none) | false => (match true, decide ((0 : Int) ≤ s151_15 ∧ s151_15 < (((IntKind.i64.wrap ((IntKind.i64.wrap (s11 + ((limbs (val b).toNat).length : Int))) + 1) : Int).toNat - (s11 : Int).toNat : Nat) : Int)) with | true, true => (match true, r151_1[(s11 : Int).toNat + (s151_15).toNat]? with | true, some _ => k 8 (dvd_h151_8u1 b x2 s11 r5 s151_2 f151_0_13 (IntKind.u64.wrap (Int.tdiv (IntKind.u64.wrap (s151_7 + (IntKind.u64.wrap ((IntKind.u64.wrap x11) * s151_2)))) 1000000000)) 0 (IntKind.i64.wrap (s151_15 + 1)) (r151_1.set ((s11 : Int).toNat + (s151_15).toNat) (IntKind.u32.wrap (IntKind.u64.wrap ((IntKind.u64.wrap x12) - (IntKind.u64.wrap ((Int.tmod (IntKind.u64.wrap (s151_7 + (IntKind.u64.wrap ((IntKind.u64.wrap x11) * s151_2)))) 1000000000) + s151_8))))))) | _, _ => none) | _, _ => none)) | _, _ => none) | _, _ => none) | none => none) | false => (match true, decide ((0 : Int) ≤ s151_15 ∧ s151_15 < (((IntKind.i64.wrap ((IntKind.i64.wrap (s11 + ((limbs (val b).toNat).length : Int))) + 1) : Int).toNat - (s11 : Int).toNat : Nat) : Int)) with | true, true => (match true, r151_1[(s11 : Int).toNat + (s151_15).toNat]? with | true, some x15 => (match decide ((IntKind.u64.wrap x15) < (IntKind.u64.wrap ((Int.tmod s151_7 1000000000) + s151_8))) with | true => (match true, decide ((0 : Int) ≤ s151_15 ∧ s151_15 < (((IntKind.i64.wrap ((IntKind.i64.wrap (s11 + ((limbs (val b).toNat).length : Int))) + 1) : Int).toNat - (s11 : Int).toNat : Nat) : Int)) with | true, true => (match true, r151_1[(s11 : Int).toNat + (s151_15).toNat]? with | true, some _ => k 8 (dvd_h151_8u1 b x2 s11 r5 s151_2 f151_0_13 (IntKind.u64.wrap (Int.tdiv s151_7 1000000000)) 1 (IntKind.i64.wrap (s151_15 + 1)) (r151_1.set ((s11 : Int).toNat + (s151_15).toNat) (IntKind.u32.wrap (IntKind.u64.wrap ((IntKind.u64.wrap ((IntKind.u64.wrap x15) + 1000000000)) - (IntKind.u64.wrap ((Int.tmod s151_7 1000000000) + s151_8))))))) | _, _ => none) | _, _ => none) | false => (match true, decide ((0 : Int) ≤ s151_15 ∧ s151_15 < (((IntKind.i64.wrap ((IntKind.i64.wrap (s11 + ((limbs (val b).toNat).length : Int))) + 1) : Int).toNat - (s11 : Int).toNat : Nat) : Int)) with | true, true => (match true, r151_1[(s11 : Int).toNat + (s151_15).toNat]? with | true, some _ => k 8 (dvd_h151_8u1 b x2 s11 r5 s151_2 f151_0_13 (IntKind.u64.wrap (Int.tdiv s151_7 1000000000)) 0 (IntKind.i64.wrap (s151_15 + 1)) (r151_1.set ((s11 : Int).toNat + (s151_15).toNat) (IntKind.u32.wrap (IntKind.u64.wrap ((IntKind.u64.wrap x15) - (IntKind.u64.wrap ((Int.tmod s151_7 1000000000) + s151_8))))))) | _, _ => none) | _, _ => none)) | _, _ => none) | _, _ => none)) | false => (match decide (s151_8 > 0) with | true => (match decide ((0 : Int) ≤ s11 ∧ s11 ≤ IntKind.i64.wrap ((IntKind.i64.wrap (s11 + ((limbs (val b).toNat).length : Int))) + 1) ∧ IntKind.i64.wrap ((IntKind.i64.wrap (s11 + ((limbs (val b).toNat).length : Int))) + 1) ≤ (r151_1.length : Int)) with | true => k 5 (dvd_h152_5u1 b x2 s11 r5 f151_0_13 0 0 r151_1) | false => none) | false => (match decide (s151_7 > 0) with | true => (match decide ((0 : Int) ≤ s11 ∧ s11 ≤ IntKind.i64.wrap ((IntKind.i64.wrap (s11 + ((limbs (val b).toNat).length : Int))) + 1) ∧ IntKind.i64.wrap ((IntKind.i64.wrap (s11 + ((limbs (val b).toNat).length : Int))) + 1) ≤ (r151_1.length : Int)) with | true => k 5 (dvd_h152_5u1 b x2 s11 r5 f151_0_13 0 0 r151_1) | false => none) | false => (match getI r5 s11 with | some _ => (match true, r5[(s11).toNat]? with | true, some _ => k 34 (dvd_h34 b x2 (IntKind.i64.wrap (s11 - 1)) (r5.set ((s11).toNat) (IntKind.u32.wrap f151_0_13)) r151_1) | _, _ => none) | none => none)))
theorem dvd_h151_8u1_eq (k : Nat → Cfg → Option (List RV)) (b : List Int) (x2 : Int) (s11 : Int) (r5 : List Int) (s151_2 : Int) (f151_0_13 : Int) (s151_7 : Int) (s151_8 : Int) (s151_15 : Int) (r151_1 : List Int) : go Tryz.prog ft tys envBg2 dvd_nt k 4000 { dvd_h151_8u1 b x2 s11 r5 s151_2 f151_0_13 s151_7 s151_8 s151_15 r151_1 with K := .lp 8 :: (dvd_h151_8u1 b x2 s11 r5 s151_2 f151_0_13 s151_7 s151_8 s151_15 r151_1).K } (.node 9) = dvd_h151_8u1_t k b x2 s11 r5 s151_2 f151_0_13 s151_7 s151_8 s151_15 r151_1 := (go2_eq _ _ _ _ _ _ _ _ _).symm.trans (show go2 Tryz.prog ft tys envBg2 dvd_nt k 4000 { dvd_h151_8u1 b x2 s11 r5 s151_2 f151_0_13 s151_7 s151_8 s151_15 r151_1 with K := .lp 8 :: (dvd_h151_8u1 b x2 s11 r5 s151_2 f151_0_13 s151_7 s151_8 s151_15 r151_1).K } (.node 9) = dvd_h151_8u1_t k b x2 s11 r5 s151_2 f151_0_13 s151_7 s151_8 s151_15 r151_1 by kernel_rfl)
theorem dvd_h151_8u1_s (b : List Int) (x2 : Int) (s11 : Int) (r5 : List Int) (s151_2 : Int) (f151_0_13 : Int) (s151_7 : Int) (s151_8 : Int) (s151_15 : Int) (r151_1 : List Int) {rX : List RV} (hX : ∃ nX, dvd_h151_8u1_t (dvd_C.k nX) b x2 s11 r5 s151_2 f151_0_13 s151_7 s151_8 s151_15 r151_1 = some rX) : dvd_C.Runs 8 (dvd_h151_8u1 b x2 s11 r5 s151_2 f151_0_13 s151_7 s151_8 s151_15 r151_1) rX := by
  obtain ⟨nX, hX⟩ := hX
  exact ⟨nX + 1, (dvd_h151_8u1_eq _ b x2 s11 r5 s151_2 f151_0_13 s151_7 s151_8 s151_15 r151_1).trans hX⟩
def dvd_h152_5u1_t (k : Nat → Cfg → Option (List RV)) (b : List Int) (x2 : Int) (s11 : Int) (r5 : List Int) (f151_0_13 : Int) (s152_4 : Int) (s152_9 : Int) (r152_1 : List Int) : Option (List RV) := match decide (s152_9 < (((IntKind.i64.wrap ((IntKind.i64.wrap (s11 + ((limbs (val b).toNat).length : Int))) + 1) : Int).toNat - (s11 : Int).toNat : Nat) : Int)) with | true => (match true, decide ((0 : Int) ≤ s152_9 ∧ s152_9 < (((IntKind.i64.wrap ((IntKind.i64.wrap (s11 + ((limbs (val b).toNat).length : Int))) + 1) : Int).toNat - (s11 : Int).toNat : Nat) : Int)) with | true, true => (match true, r152_1[(s11 : Int).toNat + (s152_9).toNat]? with | true, some x19 => (match decide (s152_9 < ((limbs (val (dig ((limbs (val b).toNat).length + ([IntKind.u32.wrap (IntKind.u64.wrap (Int.tdiv 1000000000 (IntKind.u64.wrap ((IntKind.u64.wrap x2) + 1))))]).length) (val (limbs (val b).toNat) * val ([IntKind.u32.wrap (IntKind.u64.wrap (Int.tdiv 1000000000 (IntKind.u64.wrap ((IntKind.u64.wrap x2) + 1))))])))).toNat).length : Int)) with | true => (match getI (limbs (val (dig ((limbs (val b).toNat).length + ([IntKind.u32.wrap (IntKind.u64.wrap (Int.tdiv 1000000000 (IntKind.u64.wrap ((IntKind.u64.wrap x2) + 1))))]).length) (val (limbs (val b).toNat) * val ([IntKind.u32.wrap (IntKind.u64.wrap (Int.tdiv 1000000000 (IntKind.u64.wrap ((IntKind.u64.wrap x2) + 1))))])))).toNat) s152_9 with | some x20 => (match decide ((IntKind.u32.wrap ((IntKind.u32.wrap (x19 + s152_4)) + x20)) ≥ 1000000000) with | true => (match true, decide ((0 : Int) ≤ s152_9 ∧ s152_9 < (((IntKind.i64.wrap ((IntKind.i64.wrap (s11 + ((limbs (val b).toNat).length : Int))) + 1) : Int).toNat - (s11 : Int).toNat : Nat) : Int)) with | true, true => (match true, r152_1[(s11 : Int).toNat + (s152_9).toNat]? with | true, some _ => k 5 (dvd_h152_5u1 b x2 s11 r5 f151_0_13 1 (IntKind.i64.wrap (s152_9 + 1)) (r152_1.set ((s11 : Int).toNat + (s152_9).toNat) (IntKind.u32.wrap ((IntKind.u32.wrap ((IntKind.u32.wrap (x19 + s152_4)) + x20)) - 1000000000)))) | _, _ => none) | _, _ => none) | false => (match true, decide ((0 : Int) ≤ s152_9 ∧ s152_9 < (((IntKind.i64.wrap ((IntKind.i64.wrap (s11 + ((limbs (val b).toNat).length : Int))) + 1) : Int).toNat - (s11 : Int).toNat : Nat) : Int)) with | true, true => (match true, r152_1[(s11 : Int).toNat + (s152_9).toNat]? with | true, some _ => k 5 (dvd_h152_5u1 b x2 s11 r5 f151_0_13 0 (IntKind.i64.wrap (s152_9 + 1)) (r152_1.set ((s11 : Int).toNat + (s152_9).toNat) (IntKind.u32.wrap ((IntKind.u32.wrap (x19 + s152_4)) + x20)))) | _, _ => none) | _, _ => none)) | none => none) | false => (match decide ((IntKind.u32.wrap (x19 + s152_4)) ≥ 1000000000) with | true => (match true, decide ((0 : Int) ≤ s152_9 ∧ s152_9 < (((IntKind.i64.wrap ((IntKind.i64.wrap (s11 + ((limbs (val b).toNat).length : Int))) + 1) : Int).toNat - (s11 : Int).toNat : Nat) : Int)) with | true, true => (match true, r152_1[(s11 : Int).toNat + (s152_9).toNat]? with | true, some _ => k 5 (dvd_h152_5u1 b x2 s11 r5 f151_0_13 1 (IntKind.i64.wrap (s152_9 + 1)) (r152_1.set ((s11 : Int).toNat + (s152_9).toNat) (IntKind.u32.wrap ((IntKind.u32.wrap (x19 + s152_4)) - 1000000000)))) | _, _ => none) | _, _ => none) | false => (match true, decide ((0 : Int) ≤ s152_9 ∧ s152_9 < (((IntKind.i64.wrap ((IntKind.i64.wrap (s11 + ((limbs (val b).toNat).length : Int))) + 1) : Int).toNat - (s11 : Int).toNat : Nat) : Int)) with | true, true => (match true, r152_1[(s11 : Int).toNat + (s152_9).toNat]? with | true, some _ => k 5 (dvd_h152_5u1 b x2 s11 r5 f151_0_13 0 (IntKind.i64.wrap (s152_9 + 1)) (r152_1.set ((s11 : Int).toNat + (s152_9).toNat) (IntKind.u32.wrap (x19 + s152_4)))) | _, _ => none) | _, _ => none))) | _, _ => none) | _, _ => none) | false => (match getI r5 s11 with | some _ => (match true, r5[(s11).toNat]? with | true, some _ => k 34 (dvd_h34 b x2 (IntKind.i64.wrap (s11 - 1)) (r5.set ((s11).toNat) (IntKind.u32.wrap (IntKind.u64.wrap (f151_0_13 - 1)))) r152_1) | _, _ => none) | none => none)
theorem dvd_h152_5u1_eq (k : Nat → Cfg → Option (List RV)) (b : List Int) (x2 : Int) (s11 : Int) (r5 : List Int) (f151_0_13 : Int) (s152_4 : Int) (s152_9 : Int) (r152_1 : List Int) : go Tryz.prog ft tys envBg2 dvd_nt k 4000 { dvd_h152_5u1 b x2 s11 r5 f151_0_13 s152_4 s152_9 r152_1 with K := .lp 5 :: (dvd_h152_5u1 b x2 s11 r5 f151_0_13 s152_4 s152_9 r152_1).K } (.node 6) = dvd_h152_5u1_t k b x2 s11 r5 f151_0_13 s152_4 s152_9 r152_1 := (go2_eq _ _ _ _ _ _ _ _ _).symm.trans (show go2 Tryz.prog ft tys envBg2 dvd_nt k 4000 { dvd_h152_5u1 b x2 s11 r5 f151_0_13 s152_4 s152_9 r152_1 with K := .lp 5 :: (dvd_h152_5u1 b x2 s11 r5 f151_0_13 s152_4 s152_9 r152_1).K } (.node 6) = dvd_h152_5u1_t k b x2 s11 r5 f151_0_13 s152_4 s152_9 r152_1 by kernel_rfl)
theorem dvd_h152_5u1_s (b : List Int) (x2 : Int) (s11 : Int) (r5 : List Int) (f151_0_13 : Int) (s152_4 : Int) (s152_9 : Int) (r152_1 : List Int) {rX : List RV} (hX : ∃ nX, dvd_h152_5u1_t (dvd_C.k nX) b x2 s11 r5 f151_0_13 s152_4 s152_9 r152_1 = some rX) : dvd_C.Runs 5 (dvd_h152_5u1 b x2 s11 r5 f151_0_13 s152_4 s152_9 r152_1) rX := by
  obtain ⟨nX, hX⟩ := hX
  exact ⟨nX + 1, (dvd_h152_5u1_eq _ b x2 s11 r5 f151_0_13 s152_4 s152_9 r152_1).trans hX⟩
end Go.Proofs.YtcaiedfkohigjaaGreat
/- Long division: the plain laws. -/
namespace Go.Proofs.YtcaiedfkohigjaaGreat
open Go.RowKit
theorem scale_ok {x : Int} (h1 : 1 ≤ x) (h2 : x < 1000000000) : 1 ≤ 1000000000 / (x + 1) ∧ 1000000000 / (x + 1) ≤ 500000000 ∧ (x + 1) * (1000000000 / (x + 1)) ≤ 1000000000 ∧ 500000000 ≤ x * (1000000000 / (x + 1)) := by
  have m0 := Int.emod_nonneg 1000000000 (show x + 1 ≠ 0 by omega)
  have m1 := Int.emod_lt_of_pos 1000000000 (show 0 < x + 1 by omega)
  have md := Int.mul_ediv_add_emod 1000000000 (x + 1)
  have d1 : 1 ≤ 1000000000 / (x + 1) := Int.le_ediv_of_mul_le (by omega) (by omega)
  have d2 : 1000000000 / (x + 1) ≤ 500000000 := by
    have : 1000000000 / (x + 1) < 500000001 := Int.ediv_lt_of_lt_mul (by omega) (by omega)
    omega
  generalize 1000000000 / (x + 1) = d at *
  refine ⟨d1, d2, by omega, ?_⟩
  rcases Int.lt_or_le x 500000000 with hx | hx
  · rcases Int.lt_or_le (x * d) 500000000 with hd | hd
    · exfalso
      have e1 : (x + 1) * (x * d) = x * ((x + 1) * d) := by grind
      have e2 : (x + 1) * d ≥ 1000000000 - x := by omega
      have e3 : (x + 1) * (x * d) ≤ (x + 1) * 499999999 := Int.mul_le_mul_of_nonneg_left (by omega) (by omega)
      have e4 : x * (1000000000 - x) ≤ x * ((x + 1) * d) := Int.mul_le_mul_of_nonneg_left e2 (by omega)
      have e5 : 0 ≤ (x - 1) * (500000000 - x) := Int.mul_nonneg (by omega) (by omega)
      have e6 : (x - 1) * (500000000 - x) = x * (1000000000 - x) - (x + 1) * 499999999 - 1 := by grind
      omega
    · exact hd
  · have := Int.mul_le_mul hx d1 (by decide) (by omega)
    omega
/-- What is known of a step of the division: the window w, the divisor V, their first limbs. -/
structure Kn (w V u2 u1 u0 v1 v0 : Int) : Prop where
  P : ∃ P wl vl : Int, 0 < P ∧ 0 ≤ wl ∧ wl < P ∧ 0 ≤ vl ∧ vl < P ∧ w = wl + P * (u0 + 1000000000 * u1 + 1000000000 * 1000000000 * u2) ∧ V = vl + P * (v0 + 1000000000 * v1)
  u2 : 0 ≤ u2 ∧ u2 < 1000000000
  u1 : 0 ≤ u1 ∧ u1 < 1000000000
  u0 : 0 ≤ u0 ∧ u0 < 1000000000
  v1 : 500000000 ≤ v1 ∧ v1 < 1000000000
  v0 : 0 ≤ v0 ∧ v0 < 1000000000
  lt : w < V * 1000000000
section
variable {w V u2 u1 u0 v1 v0 : Int} (h : Kn w V u2 u1 u0 v1 v0)
include h
theorem Kn.top : u2 ≤ v1 := by
  obtain ⟨⟨P, wl, vl, p0, a1, a2, b1, b2, hw, hV⟩, ⟨x1, x2⟩, ⟨x3, x4⟩, ⟨x5, x6⟩, ⟨y1, y2⟩, ⟨y3, y4⟩, hlt⟩ := h
  rcases Int.lt_or_le v1 u2 with hc | hc
  · exfalso
    have e1 : P * (1000000000 * 1000000000 * (v1 + 1)) ≤ P * (u0 + 1000000000 * u1 + 1000000000 * 1000000000 * u2) := Int.mul_le_mul_of_nonneg_left (by omega) (by omega)
    have e2 : P * (v0 + 1000000000 * v1) ≤ P * (999999999 + 1000000000 * v1) := Int.mul_le_mul_of_nonneg_left (by omega) (by omega)
    have e3 : P * (1000000000 * 1000000000 * (v1 + 1)) = 1000000000 * (P * (999999999 + 1000000000 * v1)) + 1000000000 * P := by grind
    omega
  · exact hc
theorem Kn.pos : 0 < V := by
  obtain ⟨⟨P, wl, vl, p0, a1, a2, b1, b2, hw, hV⟩, ⟨x1, x2⟩, ⟨x3, x4⟩, ⟨x5, x6⟩, ⟨y1, y2⟩, ⟨y3, y4⟩, hlt⟩ := h
  have := Int.mul_pos p0 (show 0 < v0 + 1000000000 * v1 by omega)
  omega
theorem Kn.great {g rest : Int} (hg : 0 ≤ g) (he : g * v1 + rest = u2 * 1000000000 + u1) (hc : rest * 1000000000 + u0 < g * v0) : w < g * V := by
  obtain ⟨⟨P, wl, vl, p0, a1, a2, b1, b2, hw, hV⟩, ⟨x1, x2⟩, ⟨x3, x4⟩, ⟨x5, x6⟩, ⟨y1, y2⟩, ⟨y3, y4⟩, hlt⟩ := h
  have e1 : g * V = g * vl + P * (g * v0 + 1000000000 * (g * v1)) := by rw [hV]; grind
  have e2 : 0 ≤ g * vl := Int.mul_nonneg hg b1
  have e3 : P * (u0 + 1000000000 * u1 + 1000000000 * 1000000000 * u2 + 1) ≤ P * (g * v0 + 1000000000 * (g * v1)) := Int.mul_le_mul_of_nonneg_left (by omega) (by omega)
  have e4 : P * (u0 + 1000000000 * u1 + 1000000000 * 1000000000 * u2 + 1) = P * (u0 + 1000000000 * u1 + 1000000000 * 1000000000 * u2) + P := by grind
  omega
theorem Kn.small {g rest : Int} (_hg : 0 ≤ g) (hgB : g ≤ 1000000000) (he : g * v1 + rest = u2 * 1000000000 + u1) (hc : g * v0 ≤ rest * 1000000000 + u0) : g * V < w + V := by
  obtain ⟨⟨P, wl, vl, p0, a1, a2, b1, b2, hw, hV⟩, ⟨x1, x2⟩, ⟨x3, x4⟩, ⟨x5, x6⟩, ⟨y1, y2⟩, ⟨y3, y4⟩, hlt⟩ := h
  have e1 : g * V = g * vl + P * (g * v0 + 1000000000 * (g * v1)) := by rw [hV]; grind
  have e2 : g * vl ≤ 1000000000 * P := Int.mul_le_mul hgB (by omega) b1 (by decide)
  have e3 : P * (g * v0 + 1000000000 * (g * v1)) ≤ P * (u0 + 1000000000 * u1 + 1000000000 * 1000000000 * u2) := Int.mul_le_mul_of_nonneg_left (by omega) (by omega)
  have e4 : P * (1000000000 * 500000000) ≤ P * (v0 + 1000000000 * v1) := Int.mul_le_mul_of_nonneg_left (by omega) (by omega)
  omega
theorem Kn.first {g : Int} (hg : g = (u2 * 1000000000 + u1) / v1) : w < (g + 1) * V := by
  obtain ⟨⟨P, wl, vl, p0, a1, a2, b1, b2, hw, hV⟩, ⟨x1, x2⟩, ⟨x3, x4⟩, ⟨x5, x6⟩, ⟨y1, y2⟩, ⟨y3, y4⟩, hlt⟩ := h
  have m1 := Int.emod_lt_of_pos (u2 * 1000000000 + u1) (show 0 < v1 by omega)
  have md := Int.mul_ediv_add_emod (u2 * 1000000000 + u1) v1
  rw [← hg] at md
  have g0 : 0 ≤ g := by rw [hg]; exact Int.ediv_nonneg (by omega) (by omega)
  have e1 : (g + 1) * V = (g + 1) * vl + P * ((g + 1) * v0 + 1000000000 * ((g + 1) * v1)) := by rw [hV]; grind
  have e2 : 0 ≤ (g + 1) * vl := Int.mul_nonneg (by omega) b1
  have e3 : 0 ≤ (g + 1) * v0 := Int.mul_nonneg (by omega) y3
  have e4 : (g + 1) * v1 = v1 * g + v1 := by grind
  have e5 : P * (1000000000 * (u2 * 1000000000 + u1 + 1)) ≤ P * ((g + 1) * v0 + 1000000000 * ((g + 1) * v1)) := Int.mul_le_mul_of_nonneg_left (by omega) (by omega)
  have e6 : P * (u0 + 1000000000 * u1 + 1000000000 * 1000000000 * u2) + P ≤ P * (1000000000 * (u2 * 1000000000 + u1 + 1)) := by
    have : P * (u0 + 1000000000 * u1 + 1000000000 * 1000000000 * u2 + 1) ≤ P * (1000000000 * (u2 * 1000000000 + u1 + 1)) := Int.mul_le_mul_of_nonneg_left (by omega) (by omega)
    rw [Int.mul_add, Int.mul_one] at this
    exact this
  omega
end
theorem val_top2 {l : List Int} {m : Nat} (h : l.length = m + 2) : val l = val (l.take m) + pw m * (l[m] + 1000000000 * l[m + 1]) := by
  have e := val_take_succ (l := l) (n := m + 1) (by omega)
  rw [List.take_of_length_le (by omega), val_take_succ (by omega), pw_succ] at e
  rw [e]
  grind
theorem val_top3 {l : List Int} {m : Nat} (h : l.length = m + 3) : val l = val (l.take m) + pw m * (l[m] + 1000000000 * l[m + 1] + 1000000000 * 1000000000 * l[m + 2]) := by
  have e := val_take_succ (l := l) (n := m + 2) (by omega)
  rw [List.take_of_length_le (by omega), val_take_succ (by omega), val_take_succ (by omega)] at e
  simp only [pw_succ] at e
  rw [e]
  grind
/-- A window of limbs. -/
def win (k n : Nat) (r : List Int) : Int := val ((r.drop k).take (n + 1))
theorem win_val {k n : Nat} {r : List Int} (h : k + n + 1 ≤ r.length) (hz : val (r.drop (k + n + 1)) = 0) : val r = val (r.take k) + pw k * win k n r := by
  have h1 := val_split r k
  have h2 := val_split (r.drop k) (n + 1)
  rw [List.drop_drop, show k + (n + 1) = k + n + 1 by omega, hz] at h2
  rw [Nat.min_eq_left (by omega)] at h1
  rw [h1, h2]
  unfold win
  simp
theorem win_bd {k n : Nat} {r : List Int} (hl : Lim r) (h : k + n + 1 ≤ r.length) : 0 ≤ win k n r ∧ win k n r < pw (n + 1) := by
  have h1 := (hl.drop k).take (n + 1)
  have h2 := val_lt h1
  rw [List.length_take, List.length_drop, Nat.min_eq_left (by omega)] at h2
  exact ⟨val_nonneg h1, h2⟩
theorem kn_of {v r : List Int} {k m : Nat} (hv : Lim v) (hvl : v.length = m + 2) (hr : Lim r) (hk : k + m + 3 ≤ r.length) (htop : 500000000 ≤ v[m + 1]) (hlt : win k (m + 2) r < val v * 1000000000) :
    Kn (win k (m + 2) r) (val v) r[k + m + 2] r[k + m + 1] r[k + m] v[m + 1] v[m] := by
  have hwl : ((r.drop k).take (m + 2 + 1)).length = m + 3 := by rw [List.length_take, List.length_drop]; omega
  have h3 := val_top3 hwl
  have h2 := val_top2 hvl
  have hl1 := (hr.drop k).take (m + 2 + 1)
  have g : ∀ j (hj : j < m + 3), ((r.drop k).take (m + 2 + 1))[j] = r[k + j] := fun j hj => by simp
  rw [g m (by omega), g (m + 1) (by omega), g (m + 2) (by omega)] at h3
  have t1 := hl1.take m
  have t2 := hv.take m
  have b1 := val_lt t1
  have b2 := val_lt t2
  rw [List.length_take, Nat.min_eq_left (by omega)] at b1 b2
  exact ⟨⟨pw m, _, _, pw_pos m, val_nonneg t1, b1, val_nonneg t2, b2, h3, h2⟩, hr.get (by omega), hr.get (by omega), hr.get (by omega), ⟨htop, (hv.get (by omega)).2⟩, hv.get (by omega), hlt⟩
end Go.Proofs.YtcaiedfkohigjaaGreat
/- integer: divide, subtract and restore. -/
namespace Go.Proofs.YtcaiedfkohigjaaGreat
open Go.RowKit
theorem take_set_lt {r : List Int} {k i : Nat} (y : Int) : (r.set (k + i) y).take k = r.take k := List.take_set_of_le (by omega)
theorem drop_set_lt {r : List Int} {k i n : Nat} (y : Int) (h : i ≤ n) : (r.set (k + i) y).drop (k + n + 1) = r.drop (k + n + 1) := List.drop_set_of_lt (by omega)
section
variable (b : List Int) (x2 : Int) (v : List Int) (m : Nat) (hN : (limbs (val b).toNat).length = m + 2) (hv : limbs (val (dig ((limbs (val b).toNat).length + ([IntKind.u32.wrap (IntKind.u64.wrap (Int.tdiv 1000000000 (IntKind.u64.wrap ((IntKind.u64.wrap x2) + 1))))]).length) (val (limbs (val b).toNat) * val ([IntKind.u32.wrap (IntKind.u64.wrap (Int.tdiv 1000000000 (IntKind.u64.wrap ((IntKind.u64.wrap x2) + 1))))])))).toNat = v) (lv : Lim v) (hvl : v.length = m + 2)
include hN hv lv hvl
theorem sub_loop (k : Nat) (r0 r5 : List Int) (g : Int) (hg : 0 ≤ g ∧ g < 1000000000) (hk : k + (m + 2) + 1 ≤ r0.length) (hsz : r0.length ≤ 4000000000) (R : List RV)
    (hno : ∀ r, Lim r → r.length = r0.length → r.take k = r0.take k → r.drop (k + (m + 2) + 1) = r0.drop (k + (m + 2) + 1) → val r = val r0 - pw k * (g * val v) → ∃ q, dvd_h151_8u1_t (dvd_C.k q) b x2 (k : Int) r5 g g 0 0 ((m + 2 + 1 : Nat) : Int) r = some R)
    (hyes : ∀ r, Lim r → r.length = r0.length → r.take k = r0.take k → r.drop (k + (m + 2) + 1) = r0.drop (k + (m + 2) + 1) → val r = val r0 - pw k * (g * val v) + pw (k + (m + 2) + 1) → ∃ q, dvd_h151_8u1_t (dvd_C.k q) b x2 (k : Int) r5 g g 0 1 ((m + 2 + 1 : Nat) : Int) r = some R) :
    ∀ (j i : Nat) (c bo : Int) (r : List Int), i + j = m + 2 + 1 → 0 ≤ c → c < 1000000000 → (i = m + 2 + 1 → c = 0) → 0 ≤ bo → bo ≤ 1 → Lim r → r.length = r0.length → r.take k = r0.take k → r.drop (k + (m + 2) + 1) = r0.drop (k + (m + 2) + 1) →
      val r = val r0 - pw k * (g * val (v.take i)) + pw (k + i) * (c + bo) → dvd_C.Runs 8 (dvd_h151_8u1 b x2 (k : Int) r5 g g c bo (i : Int) r) R := by
  have e1 : IntKind.i64.wrap ((k : Int) + ((m + 2 : Nat) : Int)) = ((k + (m + 2) : Nat) : Int) := by rw [wrap64 (by omega) (by omega)]; simp
  have e2 : IntKind.i64.wrap (((k + (m + 2) : Nat) : Int) + 1) = ((k + (m + 2) + 1 : Nat) : Int) := wrapS (by omega)
  have e3 : k + (m + 2) + 1 - k = m + 2 + 1 := by omega
  intro j
  induction j with
  | zero =>
    intro i c bo r hi c0 c1 hc b0 b1 lr hl ht hd hval
    obtain rfl : i = m + 2 + 1 := by omega
    obtain rfl := hc rfl
    rw [List.take_of_length_le (by omega)] at hval
    refine dvd_h151_8u1_s _ _ _ _ _ _ _ _ _ _ ?_
    rcases (show bo = 0 ∨ bo = 1 by omega) with rfl | rfl
    · exact hno r lr hl ht hd (by rw [hval]; simp)
    · exact hyes r lr hl ht hd (by rw [hval]; simp; rfl)
  | succ j ih =>
    intro i c bo r hi c0 c1 hc b0 b1 lr hl ht hd hval
    have hir : k + i < r.length := by omega
    have xr := lr.get hir
    have hwi : decide ((0 : Int) ≤ (i : Int) ∧ (i : Int) < ((m + 2 + 1 : Nat) : Int)) = true := decide_eq_true (by omega)
    have hlt : decide ((i : Int) < ((m + 2 + 1 : Nat) : Int)) = true := decide_eq_true (by omega)
    have hw := hv
    have step : ∀ (c' y bo' : Int), 0 ≤ c' → c' < 1000000000 → (i + 1 = m + 2 + 1 → c' = 0) → 0 ≤ y → y < 1000000000 → 0 ≤ bo' → bo' ≤ 1 → y = r[k + i] - (val (v.take (i + 1)) - val (v.take i)) / pw i * g - c + 1000000000 * c' - bo + 1000000000 * bo' → pw i * ((val (v.take (i + 1)) - val (v.take i)) / pw i) = val (v.take (i + 1)) - val (v.take i) →
        dvd_C.Runs 8 (dvd_h151_8u1 b x2 (k : Int) r5 g g c' bo' ((i + 1 : Nat) : Int) (r.set (k + i) y)) R := by
      intro c' y bo' k0 k1 kc y0 y1 k2 k3 hy hp
      refine ih (i + 1) c' bo' (r.set (k + i) y) (by omega) k0 k1 kc k2 k3 (lr.set _ ⟨y0, y1⟩) (by simpa using hl) (by rw [take_set_lt]; exact ht) (by rw [drop_set_lt _ (by omega)]; exact hd) ?_
      rw [val_set hir, hval, hy, show k + (i + 1) = k + i + 1 by omega, pw_succ, pw_add]
      generalize (val (v.take (i + 1)) - val (v.take i)) / pw i = d at *
      have : val (v.take (i + 1)) = val (v.take i) + pw i * d := by omega
      rw [this]
      grind
    by_cases hiv : i < m + 2
    · have hiv' : i < v.length := by omega
      have xv := lv.get hiv'
      have hdv : (val (v.take (i + 1)) - val (v.take i)) / pw i = v[i] := by
        rw [val_take_succ hiv', show val (v.take i) + pw i * v[i] - val (v.take i) = pw i * v[i] by omega, Int.mul_ediv_cancel_left _ (by have := pw_pos i; omega)]
      rw [hdv] at step
      have hbd := tms_bd (r := 0) (by decide) xv hg ⟨c0, c1⟩
      have t0 : 0 ≤ c + v[i] * g := by omega
      have q0 : 0 ≤ (c + v[i] * g) / 1000000000 ∧ (c + v[i] * g) / 1000000000 < 1000000000 := by omega
      have hpv : pw i * v[i] = val (v.take (i + 1)) - val (v.take i) := by rw [val_take_succ hiv']; omega
      by_cases hc2 : r[k + i] < (c + v[i] * g) % 1000000000 + bo
      · obtain ⟨q, hq⟩ := step ((c + v[i] * g) / 1000000000) (r[k + i] + 1000000000 - ((c + v[i] * g) % 1000000000 + bo)) 1 q0.1 q0.2 (by omega) (by omega) (by omega) (by omega) (by omega) (by omega) hpv
        refine dvd_h151_8u1_s _ _ _ _ _ _ _ _ _ _ ⟨q, ?_⟩
        unfold dvd_h151_8u1_t
        rw [hw, hN, e1, e2, toNat_nat, toNat_nat, e3, hlt, hwi, hvl, lt_dec hiv, getI_nat v i, List.getElem?_eq_getElem hiv', toNat_nat, List.getElem?_eq_getElem hir]
        dsimp only
        rw [wr64 (x := v[i]) (by omega) (by omega), wr64 (x := v[i] * g) (by omega) (by omega), wr64 (x := c + v[i] * g) (by omega) (by omega), tmodP t0, tdivP t0, wr64 (x := (c + v[i] * g) / 1000000000) (by omega) (by omega), wr64 (x := (c + v[i] * g) % 1000000000 + bo) (by omega) (by omega), wr64 (x := r[k + i]) (by omega) (by omega), decide_eq_true hc2,
          wr64 (x := r[k + i] + 1000000000) (by omega) (by omega), wr64 (x := r[k + i] + 1000000000 - ((c + v[i] * g) % 1000000000 + bo)) (by omega) (by omega), wr32 (x := r[k + i] + 1000000000 - ((c + v[i] * g) % 1000000000 + bo)) (by omega) (by omega), wrapS (k := i) (by omega)]
        exact hq
      · obtain ⟨q, hq⟩ := step ((c + v[i] * g) / 1000000000) (r[k + i] - ((c + v[i] * g) % 1000000000 + bo)) 0 q0.1 q0.2 (by omega) (by omega) (by omega) (by omega) (by omega) (by omega) hpv
        refine dvd_h151_8u1_s _ _ _ _ _ _ _ _ _ _ ⟨q, ?_⟩
        unfold dvd_h151_8u1_t
        rw [hw, hN, e1, e2, toNat_nat, toNat_nat, e3, hlt, hwi, hvl, lt_dec hiv, getI_nat v i, List.getElem?_eq_getElem hiv', toNat_nat, List.getElem?_eq_getElem hir]
        dsimp only
        rw [wr64 (x := v[i]) (by omega) (by omega), wr64 (x := v[i] * g) (by omega) (by omega), wr64 (x := c + v[i] * g) (by omega) (by omega), tmodP t0, tdivP t0, wr64 (x := (c + v[i] * g) / 1000000000) (by omega) (by omega), wr64 (x := (c + v[i] * g) % 1000000000 + bo) (by omega) (by omega), wr64 (x := r[k + i]) (by omega) (by omega), decide_eq_false hc2,
          wr64 (x := r[k + i] - ((c + v[i] * g) % 1000000000 + bo)) (by omega) (by omega), wr32 (x := r[k + i] - ((c + v[i] * g) % 1000000000 + bo)) (by omega) (by omega), wrapS (k := i) (by omega)]
        exact hq
    · have hpz : val (v.take (i + 1)) - val (v.take i) = 0 := by rw [take_past (by omega)]; omega
      rw [hpz] at step
      simp only [Int.zero_ediv, Int.zero_mul, Int.mul_zero, Int.sub_zero, forall_const] at step
      have m0 : c % 1000000000 = c := by omega
      have d0 : c / 1000000000 = 0 := by omega
      by_cases hc2 : r[k + i] < c + bo
      · obtain ⟨q, hq⟩ := step 0 (r[k + i] + 1000000000 - (c + bo)) 1 (by omega) (by omega) (by omega) (by omega) (by omega) (by omega) (by omega) (by omega)
        refine dvd_h151_8u1_s _ _ _ _ _ _ _ _ _ _ ⟨q, ?_⟩
        unfold dvd_h151_8u1_t
        rw [hw, hN, e1, e2, toNat_nat, toNat_nat, e3, hlt, hwi, hvl, ge_dec (show m + 2 ≤ i by omega), toNat_nat, List.getElem?_eq_getElem hir]
        dsimp only
        rw [tmodP c0, tdivP c0, m0, d0, wr64 (x := 0) (by omega) (by omega), wr64 (x := c + bo) (by omega) (by omega), wr64 (x := r[k + i]) (by omega) (by omega), decide_eq_true hc2,
          wr64 (x := r[k + i] + 1000000000) (by omega) (by omega), wr64 (x := r[k + i] + 1000000000 - (c + bo)) (by omega) (by omega), wr32 (x := r[k + i] + 1000000000 - (c + bo)) (by omega) (by omega), wrapS (k := i) (by omega)]
        exact hq
      · obtain ⟨q, hq⟩ := step 0 (r[k + i] - (c + bo)) 0 (by omega) (by omega) (by omega) (by omega) (by omega) (by omega) (by omega) (by omega)
        refine dvd_h151_8u1_s _ _ _ _ _ _ _ _ _ _ ⟨q, ?_⟩
        unfold dvd_h151_8u1_t
        rw [hw, hN, e1, e2, toNat_nat, toNat_nat, e3, hlt, hwi, hvl, ge_dec (show m + 2 ≤ i by omega), toNat_nat, List.getElem?_eq_getElem hir]
        dsimp only
        rw [tmodP c0, tdivP c0, m0, d0, wr64 (x := 0) (by omega) (by omega), wr64 (x := c + bo) (by omega) (by omega), wr64 (x := r[k + i]) (by omega) (by omega), decide_eq_false hc2,
          wr64 (x := r[k + i] - (c + bo)) (by omega) (by omega), wr32 (x := r[k + i] - (c + bo)) (by omega) (by omega), wrapS (k := i) (by omega)]
        exact hq
end
end Go.Proofs.YtcaiedfkohigjaaGreat
/- integer: divide, restore, the guess, the loop. -/
namespace Go.Proofs.YtcaiedfkohigjaaGreat
open Go.RowKit
section
variable (b : List Int) (x2 : Int) (v : List Int) (m : Nat) (hN : (limbs (val b).toNat).length = m + 2) (hv : limbs (val (dig ((limbs (val b).toNat).length + ([IntKind.u32.wrap (IntKind.u64.wrap (Int.tdiv 1000000000 (IntKind.u64.wrap ((IntKind.u64.wrap x2) + 1))))]).length) (val (limbs (val b).toNat) * val ([IntKind.u32.wrap (IntKind.u64.wrap (Int.tdiv 1000000000 (IntKind.u64.wrap ((IntKind.u64.wrap x2) + 1))))])))).toNat = v) (lv : Lim v) (hvl : v.length = m + 2)
include hN hv lv hvl
theorem res_loop (k : Nat) (r0 r5 : List Int) (f : Int) (hk : k + (m + 2) + 1 ≤ r0.length) (hsz : r0.length ≤ 4000000000) (R : List RV)
    (hend : ∀ r c, Lim r → r.length = r0.length → r.take k = r0.take k → r.drop (k + (m + 2) + 1) = r0.drop (k + (m + 2) + 1) → 0 ≤ c → c ≤ 1 → val r = val r0 + pw k * val v - pw (k + (m + 2) + 1) * c → ∃ q, dvd_h152_5u1_t (dvd_C.k q) b x2 (k : Int) r5 f c ((m + 2 + 1 : Nat) : Int) r = some R) :
    ∀ (j i : Nat) (c : Int) (r : List Int), i + j = m + 2 + 1 → 0 ≤ c → c ≤ 1 → Lim r → r.length = r0.length → r.take k = r0.take k → r.drop (k + (m + 2) + 1) = r0.drop (k + (m + 2) + 1) →
      val r = val r0 + pw k * val (v.take i) - pw (k + i) * c → dvd_C.Runs 5 (dvd_h152_5u1 b x2 (k : Int) r5 f c (i : Int) r) R := by
  have e1 : IntKind.i64.wrap ((k : Int) + ((m + 2 : Nat) : Int)) = ((k + (m + 2) : Nat) : Int) := by rw [wrap64 (by omega) (by omega)]; simp
  have e2 : IntKind.i64.wrap (((k + (m + 2) : Nat) : Int) + 1) = ((k + (m + 2) + 1 : Nat) : Int) := wrapS (by omega)
  have e3 : k + (m + 2) + 1 - k = m + 2 + 1 := by omega
  intro j
  induction j with
  | zero =>
    intro i c r hi c0 c1 lr hl ht hd hval
    obtain rfl : i = m + 2 + 1 := by omega
    rw [List.take_of_length_le (by omega)] at hval
    refine dvd_h152_5u1_s _ _ _ _ _ _ _ _ ?_
    exact hend r c lr hl ht hd c0 c1 hval
  | succ j ih =>
    intro i c r hi c0 c1 lr hl ht hd hval
    have hir : k + i < r.length := by omega
    have xr := lr.get hir
    have hwi : decide ((0 : Int) ≤ (i : Int) ∧ (i : Int) < ((m + 2 + 1 : Nat) : Int)) = true := decide_eq_true (by omega)
    have hlt : decide ((i : Int) < ((m + 2 + 1 : Nat) : Int)) = true := decide_eq_true (by omega)
    have hw := hv
    have step : ∀ (c' y d : Int), 0 ≤ c' → c' ≤ 1 → 0 ≤ y → y < 1000000000 → y = r[k + i] + c + d - 1000000000 * c' → val (v.take (i + 1)) = val (v.take i) + pw i * d →
        dvd_C.Runs 5 (dvd_h152_5u1 b x2 (k : Int) r5 f c' ((i + 1 : Nat) : Int) (r.set (k + i) y)) R := by
      intro c' y d k0 k1 y0 y1 hy hp
      refine ih (i + 1) c' (r.set (k + i) y) (by omega) k0 k1 (lr.set _ ⟨y0, y1⟩) (by simpa using hl) (by rw [take_set_lt]; exact ht) (by rw [drop_set_lt _ (by omega)]; exact hd) ?_
      rw [val_set hir, hval, hy, hp, show k + (i + 1) = k + i + 1 by omega, pw_succ, pw_add]
      grind
    by_cases hiv : i < m + 2
    · have hiv' : i < v.length := by omega
      have xv := lv.get hiv'
      have hpv := val_take_succ hiv'
      by_cases hc2 : r[k + i] + c + v[i] ≥ 1000000000
      · obtain ⟨q, hq⟩ := step 1 (r[k + i] + c + v[i] - 1000000000) v[i] (by omega) (by omega) (by omega) (by omega) (by omega) hpv
        refine dvd_h152_5u1_s _ _ _ _ _ _ _ _ ⟨q, ?_⟩
        unfold dvd_h152_5u1_t
        rw [hw, hN, e1, e2, toNat_nat, toNat_nat, e3, hlt, hwi, hvl, lt_dec hiv, getI_nat v i, List.getElem?_eq_getElem hiv', toNat_nat, List.getElem?_eq_getElem hir]
        dsimp only
        rw [wr32 (x := r[k + i] + c) (by omega) (by omega), wr32 (x := r[k + i] + c + v[i]) (by omega) (by omega), decide_eq_true hc2, wr32 (x := r[k + i] + c + v[i] - 1000000000) (by omega) (by omega), wrapS (k := i) (by omega)]
        exact hq
      · obtain ⟨q, hq⟩ := step 0 (r[k + i] + c + v[i]) v[i] (by omega) (by omega) (by omega) (by omega) (by omega) hpv
        refine dvd_h152_5u1_s _ _ _ _ _ _ _ _ ⟨q, ?_⟩
        unfold dvd_h152_5u1_t
        rw [hw, hN, e1, e2, toNat_nat, toNat_nat, e3, hlt, hwi, hvl, lt_dec hiv, getI_nat v i, List.getElem?_eq_getElem hiv', toNat_nat, List.getElem?_eq_getElem hir]
        dsimp only
        rw [wr32 (x := r[k + i] + c) (by omega) (by omega), wr32 (x := r[k + i] + c + v[i]) (by omega) (by omega), decide_eq_false hc2, wrapS (k := i) (by omega)]
        exact hq
    · have hpz : val (v.take (i + 1)) = val (v.take i) + pw i * 0 := by rw [take_past (by omega)]; simp
      by_cases hc2 : r[k + i] + c ≥ 1000000000
      · obtain ⟨q, hq⟩ := step 1 (r[k + i] + c - 1000000000) 0 (by omega) (by omega) (by omega) (by omega) (by omega) hpz
        refine dvd_h152_5u1_s _ _ _ _ _ _ _ _ ⟨q, ?_⟩
        unfold dvd_h152_5u1_t
        rw [hw, hN, e1, e2, toNat_nat, toNat_nat, e3, hlt, hwi, hvl, ge_dec (show m + 2 ≤ i by omega), toNat_nat, List.getElem?_eq_getElem hir]
        dsimp only
        rw [wr32 (x := r[k + i] + c) (by omega) (by omega), decide_eq_true hc2, wr32 (x := r[k + i] + c - 1000000000) (by omega) (by omega), wrapS (k := i) (by omega)]
        exact hq
      · obtain ⟨q, hq⟩ := step 0 (r[k + i] + c) 0 (by omega) (by omega) (by omega) (by omega) (by omega) hpz
        refine dvd_h152_5u1_s _ _ _ _ _ _ _ _ ⟨q, ?_⟩
        unfold dvd_h152_5u1_t
        rw [hw, hN, e1, e2, toNat_nat, toNat_nat, e3, hlt, hwi, hvl, ge_dec (show m + 2 ≤ i by omega), toNat_nat, List.getElem?_eq_getElem hir]
        dsimp only
        rw [wr32 (x := r[k + i] + c) (by omega) (by omega), decide_eq_false hc2, wrapS (k := i) (by omega)]
        exact hq
/-- The guess of a digit. -/
theorem guess_loop (k : Nat) (r1 r5 : List Int) (hk : k + m + 3 ≤ r1.length) (hsz : r1.length ≤ 4000000000) (R : List RV) (K : Kn (win k (m + 2) r1) (val v) r1[k + m + 2] r1[k + m + 1] r1[k + m] v[m + 1] v[m])
    (hafter : ∀ g, 0 ≤ g → g < 1000000000 → win k (m + 2) r1 < (g + 1) * val v → g * val v < win k (m + 2) r1 + val v → dvd_C.Runs 8 (dvd_h151_8u1 b x2 (k : Int) r5 g g 0 0 0 r1) R) :
    ∀ (fuel : Nat) (g rest : Int), g ≤ (fuel : Int) → 0 ≤ g → g ≤ 2000000000 → 0 ≤ rest → rest < 1000000000 → g * v[m + 1] + rest = r1[k + m + 2] * 1000000000 + r1[k + m + 1] → win k (m + 2) r1 < (g + 1) * val v → dvd_C.Runs 49 (dvd_h49 b x2 (k : Int) r1 r5 g rest) R := by
  have _lv := lv
  have e1 : IntKind.i64.wrap ((k : Int) + ((m + 2 : Nat) : Int)) = ((k + m + 2 : Nat) : Int) := by rw [wrap64 (by omega) (by omega)]; simp; omega
  have e2 : IntKind.i64.wrap (((k + m + 2 : Nat) : Int) + 1) = ((k + m + 3 : Nat) : Int) := by rw [wrap64 (by omega) (by omega)]; simp; omega
  have e3 : IntKind.i64.wrap (((m + 2 : Nat) : Int) - 1) = ((m + 1 : Nat) : Int) := by rw [wrap64 (by omega) (by omega)]; omega
  have e4 : IntKind.i64.wrap (((m + 2 : Nat) : Int) - 2) = ((m : Nat) : Int) := by rw [wrap64 (by omega) (by omega)]; omega
  have e5 : IntKind.i64.wrap (((k + m + 2 : Nat) : Int) - 2) = ((k + m : Nat) : Int) := by rw [wrap64 (by omega) (by omega)]; omega
  have hsl : decide ((0 : Int) ≤ (k : Int) ∧ (k : Int) ≤ ((k + m + 3 : Nat) : Int) ∧ ((k + m + 3 : Nat) : Int) ≤ (r1.length : Int)) = true := decide_eq_true (by omega)
  have hV := K.pos
  have htop := K.top
  have ku2 := K.u2
  have ku1 := K.u1
  have ku0 := K.u0
  have kv1 := K.v1
  have kv0 := K.v0
  intro fuel
  induction fuel with
  | zero =>
    intro g rest hf g0 gB r0 r1' he hlt
    obtain rfl : g = 0 := by omega
    obtain ⟨q, hq⟩ := hafter 0 (by omega) (by omega) hlt (by have := hlt; have := K.small (g := 0) (rest := rest) (by omega) (by omega) he (by omega); omega)
    refine dvd_h49_s _ _ _ _ _ _ _ ⟨q, ?_⟩
    unfold dvd_h49_t
    rw [decide_eq_false (by omega), hv, hN, e1, e2, e4, e5, getI_nat v m, List.getElem?_eq_getElem (by omega), getI_nat r1 (k + m), toNat_nat, List.getElem?_eq_getElem (show k + m < r1.length by omega)]
    dsimp only
    rw [wr64 (x := v[m]) (by omega) (by omega), Int.zero_mul, wr64 (x := 0) (by omega) (by omega), wr64 (x := rest * 1000000000) (by omega) (by omega), wr64 (x := r1[k + m]) (by omega) (by omega), wr64 (x := rest * 1000000000 + r1[k + m]) (by omega) (by omega), decide_eq_false (by omega), hsl]
    exact hq
  | succ fuel ih =>
    intro g rest hf g0 gB rr0 rr1 he hlt
    have down : win k (m + 2) r1 < g * val v → ∃ q, (match decide (IntKind.u64.wrap (rest + IntKind.u64.wrap v[m + 1]) ≥ 1000000000) with | true => dvd_C.k q 8 (dvd_h151_8u1 b x2 (k : Int) r5 (IntKind.u64.wrap (g - 1)) (IntKind.u64.wrap (g - 1)) 0 0 0 r1) | false => dvd_C.k q 49 (dvd_h49 b x2 (k : Int) r1 r5 (IntKind.u64.wrap (g - 1)) (IntKind.u64.wrap (rest + IntKind.u64.wrap v[m + 1])))) = some R := by
      intro hw
      have gp : 1 ≤ g := by
        rcases Int.lt_or_le 0 g with h | h
        · exact h
        · exfalso
          have hg : g = 0 := by omega
          subst hg
          rw [Int.zero_mul] at hw
          obtain ⟨⟨P, wl, vl, p0, a1, a2, b1, b2, hw', hV'⟩, _⟩ := K
          have := Int.mul_nonneg (Int.le_of_lt p0) (show 0 ≤ r1[k + m] + 1000000000 * r1[k + m + 1] + 1000000000 * 1000000000 * r1[k + m + 2] by omega)
          omega
      have he' : (g - 1) * v[m + 1] + (rest + v[m + 1]) = r1[k + m + 2] * 1000000000 + r1[k + m + 1] := by rw [← he]; grind
      have hw' : win k (m + 2) r1 < (g - 1 + 1) * val v := by rw [show g - 1 + 1 = g by omega]; exact hw
      rw [wr64 (x := v[m + 1]) (by omega) (by omega), wr64 (x := rest + v[m + 1]) (by omega) (by omega), wr64 (x := g - 1) (by omega) (by omega)]
      by_cases hb : rest + v[m + 1] ≥ 1000000000
      · have gl : g - 1 < 1000000000 := by
          rcases Int.lt_or_le (g - 1) 1000000000 with h | h
          · exact h
          · exfalso
            have e1 := Int.mul_le_mul_of_nonneg_right h (show 0 ≤ v[m + 1] by omega)
            have e2 := Int.mul_le_mul_of_nonneg_right htop (show (0 : Int) ≤ 1000000000 by decide)
            omega
        have e1 : (g - 1) * v[m] ≤ 1000000000 * 1000000000 := Int.mul_le_mul (by omega) (by omega) (by omega) (by decide)
        obtain ⟨q, hq⟩ := hafter (g - 1) (by omega) gl hw' (K.small (by omega) (by omega) he' (by omega))
        exact ⟨q, by rw [decide_eq_true hb]; exact hq⟩
      · obtain ⟨q, hq⟩ := ih (g - 1) (rest + v[m + 1]) (by omega) (by omega) (by omega) (by omega) (by omega) he' hw'
        exact ⟨q, by rw [decide_eq_false hb]; exact hq⟩
    by_cases hgB : g ≥ 1000000000
    · obtain ⟨q, hq⟩ := down (by
        have h1 := K.lt
        have := Int.mul_le_mul_of_nonneg_right hgB (Int.le_of_lt hV)
        rw [Int.mul_comm] at h1
        omega)
      refine dvd_h49_s _ _ _ _ _ _ _ ⟨q, ?_⟩
      unfold dvd_h49_t
      rw [decide_eq_true hgB, hv, hN, e1, e2, e3, getI_nat v (m + 1), List.getElem?_eq_getElem (show m + 1 < v.length by omega), hsl]
      exact hq
    · have hgv : g * v[m] ≤ 1000000000 * 1000000000 := Int.mul_le_mul (by omega) (by omega) (by omega) (by decide)
      have hgv0 : 0 ≤ g * v[m] := Int.mul_nonneg g0 (by omega)
      by_cases hc : g * v[m] > rest * 1000000000 + r1[k + m]
      · obtain ⟨q, hq⟩ := down (K.great g0 he hc)
        refine dvd_h49_s _ _ _ _ _ _ _ ⟨q, ?_⟩
        unfold dvd_h49_t
        rw [decide_eq_false hgB, hv, hN, e1, e2, e3, e4, e5, getI_nat v m, List.getElem?_eq_getElem (show m < v.length by omega), getI_nat v (m + 1), List.getElem?_eq_getElem (show m + 1 < v.length by omega), getI_nat r1 (k + m), toNat_nat, List.getElem?_eq_getElem (show k + m < r1.length by omega), hsl]
        dsimp only
        rw [wr64 (x := v[m]) (by omega) (by omega), wr64 (x := g * v[m]) (by omega) (by omega), wr64 (x := rest * 1000000000) (by omega) (by omega), wr64 (x := r1[k + m]) (by omega) (by omega), wr64 (x := rest * 1000000000 + r1[k + m]) (by omega) (by omega), decide_eq_true hc]
        exact hq
      · obtain ⟨q, hq⟩ := hafter g g0 (by omega) hlt (K.small g0 (by omega) he (by omega))
        refine dvd_h49_s _ _ _ _ _ _ _ ⟨q, ?_⟩
        unfold dvd_h49_t
        rw [decide_eq_false hgB, hv, hN, e1, e2, e4, e5, getI_nat v m, List.getElem?_eq_getElem (show m < v.length by omega), getI_nat r1 (k + m), toNat_nat, List.getElem?_eq_getElem (show k + m < r1.length by omega), hsl]
        dsimp only
        rw [wr64 (x := v[m]) (by omega) (by omega), wr64 (x := g * v[m]) (by omega) (by omega), wr64 (x := rest * 1000000000) (by omega) (by omega), wr64 (x := r1[k + m]) (by omega) (by omega), wr64 (x := rest * 1000000000 + r1[k + m]) (by omega) (by omega), decide_eq_false hc]
        exact hq
end
end Go.Proofs.YtcaiedfkohigjaaGreat
