/- The small callees of Bore. -/
import Derived.Test.YtpiabmjipgfjjaaDoorToolGood
namespace Go.Proofs.YtpiabmjipgfjjaaDoor
open Go.RowKit
def insB (n : Int) : Bool := decide (-10000000 ≤ n ∧ n ≤ 10000000)
theorem insB_t {n : Int} (h : insB n = true) : -10000000 ≤ n ∧ n ≤ 10000000 := of_decide_eq_true h
theorem inside_any (n : Int) (w : World) : Calls Tryd.prog 27 #[.int .i64 n] w fun e w' => e = .returned (.bool (insB n)) ∧ w = w' := by
  by_cases c0 : -10000000 ≤ n
  rotate_left
  · have hl : insB n = false := decide_eq_false (by omega)
    have HL := Lib.hid hl
    clear hl
    go_enter Tryd.func27, Tryd.ntmps27
    go_wp2
    go_ret
    exact ⟨by rw [HL.out]; first | rfl | simp_all, rfl⟩
  by_cases c1 : n ≤ 10000000
  rotate_left
  · have hl : insB n = false := decide_eq_false (by omega)
    have HL := Lib.hid hl
    clear hl
    go_enter Tryd.func27, Tryd.ntmps27
    go_wp2
    go_ret
    exact ⟨by rw [HL.out]; first | rfl | simp_all, rfl⟩
  have hl : insB n = true := decide_eq_true (by omega)
  have HL := Lib.hid hl
  clear hl
  go_enter Tryd.func27, Tryd.ntmps27
  go_wp2
  go_ret
  exact ⟨by rw [HL.out]; first | rfl | simp_all, rfl⟩
theorem far_any (n : Int) (w : World) : Calls Tryd.prog 30 #[.int .i64 n] w fun e w' => e = .returned (.bool (!insB n)) ∧ w = w' := by
  by_cases c0 : n ≤ 10000000
  rotate_left
  · have hl : insB n = false := decide_eq_false (by omega)
    have HL := Lib.hid hl
    clear hl
    go_enter Tryd.func30, Tryd.ntmps30
    go_wp2
    go_ret
    exact ⟨by rw [HL.out]; first | rfl | simp_all, rfl⟩
  by_cases c1 : -10000000 ≤ n
  rotate_left
  · have hl : insB n = false := decide_eq_false (by omega)
    have HL := Lib.hid hl
    clear hl
    go_enter Tryd.func30, Tryd.ntmps30
    go_wp2
    go_ret
    exact ⟨by rw [HL.out]; first | rfl | simp_all, rfl⟩
  have hl : insB n = true := decide_eq_true (by omega)
  have HL := Lib.hid hl
  clear hl
  go_enter Tryd.func30, Tryd.ntmps30
  go_wp2
  go_ret
  exact ⟨by rw [HL.out]; first | rfl | simp_all, rfl⟩
def Tl.mills (t : Tl) (radius : Int) : Bool := decide (t.kind = 1 ∧ t.rad < radius ∧ radius - t.rad ≤ t.rad)
theorem mills_any (t : Tl) (radius : Int) (w : World) (h0 : 0 ≤ t.rad) (h1 : radius ≤ 9223372036854775807) : Calls Tryd.prog 26 #[t.v, .int .i64 radius] w fun e w' => e = .returned (.bool (t.mills radius)) ∧ Below w.heap.size w w' := by
  obtain ⟨num, kind, rad, flu, hol, stp, fd, plu⟩ := t
  simp only [Tl.v]
  simp only at h0
  by_cases c0 : kind = 1
  rotate_left
  · have hl : (⟨num, kind, rad, flu, hol, stp, fd, plu⟩ : Tl).mills radius = false := decide_eq_false (by dsimp only; omega)
    have HL := Lib.hid hl
    clear hl
    have hk : (kind == 1) = false := by simpa using c0
    clear c0
    go_enter Tryd.func26, Tryd.ntmps26
    go_wp2
    go_ret
    exact ⟨by rw [HL.out]; rfl, by go_grown⟩
  by_cases c1 : rad < radius
  rotate_left
  · have hl : (⟨num, kind, rad, flu, hol, stp, fd, plu⟩ : Tl).mills radius = false := decide_eq_false (by dsimp only; omega)
    have HL := Lib.hid hl
    clear hl
    have hk : (kind == 1) = true := by simpa using c0
    clear c0
    go_enter Tryd.func26, Tryd.ntmps26
    go_wp2
    go_ret
    exact ⟨by rw [HL.out]; rfl, by go_grown⟩
  by_cases c2 : radius - rad ≤ rad
  rotate_left
  · have hl : (⟨num, kind, rad, flu, hol, stp, fd, plu⟩ : Tl).mills radius = false := decide_eq_false (by dsimp only; omega)
    have HL := Lib.hid hl
    clear hl
    have hk : (kind == 1) = true := by simpa using c0
    clear c0
    have hd : decide (radius - rad ≤ rad) = false := by simpa using c2
    go_enter Tryd.func26, Tryd.ntmps26
    go_wp2
    go_ret
    exact ⟨by rw [HL.out]; rfl, by go_grown⟩
  have hl : (⟨num, kind, rad, flu, hol, stp, fd, plu⟩ : Tl).mills radius = true := decide_eq_true (by dsimp only; omega)
  have HL := Lib.hid hl
  clear hl
  have hk : (kind == 1) = true := by simpa using c0
  clear c0
  have hd : decide (radius - rad ≤ rad) = true := by simpa using c2
  go_enter Tryd.func26, Tryd.ntmps26
  go_wp2
  go_ret
  exact ⟨by rw [HL.out]; rfl, by go_grown⟩
theorem rmills_any (t : Tl) (radius : Int) (w : World) (h0 : 0 ≤ t.rad) (h1 : radius ≤ 9223372036854775807) : Calls Tryd.prog 29 #[t.v, .int .i64 radius] w fun e w' => e = .returned (.bool (t.mills radius)) ∧ Below w.heap.size w w' := by
  obtain ⟨num, kind, rad, flu, hol, stp, fd, plu⟩ := t
  simp only [Tl.v]
  simp only at h0
  by_cases c0 : kind = 1
  rotate_left
  · have hl : (⟨num, kind, rad, flu, hol, stp, fd, plu⟩ : Tl).mills radius = false := decide_eq_false (by dsimp only; omega)
    have HL := Lib.hid hl
    clear hl
    have hk : (kind == 1) = false := by simpa using c0
    clear c0
    go_enter Tryd.func29, Tryd.ntmps29
    go_wp2
    go_ret
    exact ⟨by rw [HL.out]; rfl, by go_grown⟩
  by_cases c1 : rad < radius
  rotate_left
  · have hl : (⟨num, kind, rad, flu, hol, stp, fd, plu⟩ : Tl).mills radius = false := decide_eq_false (by dsimp only; omega)
    have HL := Lib.hid hl
    clear hl
    have hk : (kind == 1) = true := by simpa using c0
    clear c0
    go_enter Tryd.func29, Tryd.ntmps29
    go_wp2
    go_ret
    exact ⟨by rw [HL.out]; rfl, by go_grown⟩
  by_cases c2 : radius - rad ≤ rad
  rotate_left
  · have hl : (⟨num, kind, rad, flu, hol, stp, fd, plu⟩ : Tl).mills radius = false := decide_eq_false (by dsimp only; omega)
    have HL := Lib.hid hl
    clear hl
    have hk : (kind == 1) = true := by simpa using c0
    clear c0
    have hd : decide (radius - rad ≤ rad) = false := by simpa using c2
    go_enter Tryd.func29, Tryd.ntmps29
    go_wp2
    go_ret
    exact ⟨by rw [HL.out]; rfl, by go_grown⟩
  have hl : (⟨num, kind, rad, flu, hol, stp, fd, plu⟩ : Tl).mills radius = true := decide_eq_true (by dsimp only; omega)
  have HL := Lib.hid hl
  clear hl
  have hk : (kind == 1) = true := by simpa using c0
  clear c0
  have hd : decide (radius - rad ≤ rad) = true := by simpa using c2
  go_enter Tryd.func29, Tryd.ntmps29
  go_wp2
  go_ret
  exact ⟨by rw [HL.out]; rfl, by go_grown⟩
set_option maxHeartbeats 400000 in
theorem pos_any (x y z : Int) (w : World) : Calls Tryd.prog 28 #[.agg #[.int .i64 x, .int .i64 y], .int .i64 z] w fun e w' => e = .returned (.agg #[.int .i64 x, .int .i64 y, .int .i64 z]) ∧ Below w.heap.size w w' := by
  go_enter Tryd.func28, Tryd.ntmps28
  go_wp2
  exact bodyPost_ret (v := .agg #[.int .i64 x, .int .i64 y, .int .i64 z]) (by simp [results, Tryd.results28, go_sem]) rfl ⟨rfl, by go_grown⟩
set_option maxHeartbeats 400000 in
theorem standard_any (n r : Int) (w : World) (h0 : 0 ≤ r) (h1 : r ≤ 1000000) : Calls Tryd.prog 24 #[.int .i64 n, .int .i64 r] w fun e w' => e = .returned (Tl.v ⟨n, 1, r, 20000, r + 7000, 1500, 20000, 5000⟩) ∧ Below w.heap.size w w' := by
  go_enter Tryd.func24, Tryd.ntmps24
  go_wp2
  exact bodyPost_ret (v := Tl.v ⟨n, 1, r, 20000, r + 7000, 1500, 20000, 5000⟩) (by simp [results, Tryd.results24, go_sem, Tl.v]) rfl ⟨rfl, by go_grown⟩
end Go.Proofs.YtpiabmjipgfjjaaDoor
