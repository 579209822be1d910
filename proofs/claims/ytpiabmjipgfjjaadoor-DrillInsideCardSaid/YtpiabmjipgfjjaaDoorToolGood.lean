/- Tools: tool.Valid and the reference's Good. -/
import Derived.Test.YtpiabmjipgfjjaaDoorBase
import Derived.Maps.Own
import Derived.Maps.StringElems
namespace Go.Proofs.YtpiabmjipgfjjaaDoor
open Go.RowKit Go.Maps

structure Tl where
  (num kind rad flu hol stp fd plu : Int)
def Tl.v (t : Tl) : Value := .agg #[.int .i64 t.num, .int .i64 t.kind, .int .i64 t.rad, .int .i64 t.flu, .int .i64 t.hol, .int .i64 t.stp, .int .i64 t.fd, .int .i64 t.plu]
def i64 (n : Int) : Prop := -9223372036854775808 ≤ n ∧ n ≤ 9223372036854775807
def Tl.ok (t : Tl) : Prop := i64 t.num ∧ i64 t.kind ∧ i64 t.rad ∧ i64 t.flu ∧ i64 t.hol ∧ i64 t.stp ∧ i64 t.fd ∧ i64 t.plu
def lenB (n : Int) : Bool := decide (1 ≤ n ∧ n ≤ 10000000)
def Tl.Good (t : Tl) : Prop := 1 ≤ t.num ∧ t.num ≤ 9999 ∧ 1 ≤ t.kind ∧ t.kind ≤ 4 ∧ (1 ≤ t.rad ∧ t.rad ≤ 10000000) ∧ (1 ≤ t.flu ∧ t.flu ≤ 10000000) ∧ (1 ≤ t.stp ∧ t.stp ≤ 10000000) ∧ (1 ≤ t.fd ∧ t.fd ≤ 10000000) ∧ (1 ≤ t.plu ∧ t.plu ≤ 10000000) ∧ t.rad ≤ t.hol ∧ t.hol ≤ 10000000 ∧ t.stp ≤ t.flu
instance (t : Tl) : Decidable t.Good := by unfold Tl.Good; infer_instance
def Tl.good (t : Tl) : Bool := decide t.Good

theorem rlength_any (n : Int) (w : World) : Calls Tryd.prog 31 #[.int .i64 n] w fun e w' => e = .returned (.bool (lenB n)) ∧ w = w' := by
  by_cases h1 : 1 ≤ n
  · by_cases h2 : n ≤ 10000000
    · have hl : lenB n = true := decide_eq_true ⟨h1, h2⟩
      have HL := Lib.hid hl
      clear hl
      go_enter Tryd.func31, Tryd.ntmps31
      go_wp2
      go_ret
      exact ⟨by rw [HL.out]; rfl, rfl⟩
    · have hl : lenB n = false := decide_eq_false (by omega)
      have HL := Lib.hid hl
      clear hl
      go_enter Tryd.func31, Tryd.ntmps31
      go_wp2
      go_ret
      exact ⟨by rw [HL.out]; rfl, rfl⟩
  · have hl : lenB n = false := decide_eq_false (by omega)
    have HL := Lib.hid hl
    clear hl
    go_enter Tryd.func31, Tryd.ntmps31
    go_wp2
    go_ret
    exact ⟨by rw [HL.out]; rfl, rfl⟩
theorem plength_any (n : Int) (w : World) : Calls Tryd.prog 39 #[.int .i64 n] w fun e w' => e = .returned (.bool (lenB n)) ∧ w = w' := by
  by_cases h1 : 1 ≤ n
  · by_cases h2 : n ≤ 10000000
    · have hl : lenB n = true := decide_eq_true ⟨h1, h2⟩
      have HL := Lib.hid hl
      clear hl
      go_enter Tryd.func39, Tryd.ntmps39
      go_wp2
      go_ret
      exact ⟨by rw [HL.out]; rfl, rfl⟩
    · have hl : lenB n = false := decide_eq_false (by omega)
      have HL := Lib.hid hl
      clear hl
      go_enter Tryd.func39, Tryd.ntmps39
      go_wp2
      go_ret
      exact ⟨by rw [HL.out]; rfl, rfl⟩
  · have hl : lenB n = false := decide_eq_false (by omega)
    have HL := Lib.hid hl
    clear hl
    go_enter Tryd.func39, Tryd.ntmps39
    go_wp2
    go_ret
    exact ⟨by rw [HL.out]; rfl, rfl⟩

def GoodPost (t : Tl) (w : World) (e : Ending) (w' : World) : Prop := e = .returned (.bool t.good) ∧ Below w.heap.size w w'
theorem good_f {t : Tl} (h : ¬ t.Good) : t.good = false := decide_eq_false h
theorem good_t {t : Tl} (h : t.Good) : t.good = true := decide_eq_true h
theorem lenB_t {n : Int} (h : lenB n = true) : 1 ≤ n ∧ n ≤ 10000000 := of_decide_eq_true h
theorem lenB_f {n : Int} (h : ¬ lenB n = true) : ¬ (1 ≤ n ∧ n ≤ 10000000) := fun hh => h (decide_eq_true hh)

set_option maxHeartbeats 2000000 in
theorem good_any (t : Tl) (w : World) : Calls Tryd.prog 18 #[t.v] w (GoodPost t w) := by
  obtain ⟨num, kind, rad, flu, hol, stp, fd, plu⟩ := t
  simp only [Tl.v]
  by_cases c0 : 1 ≤ num
  rotate_left
  · have hg := Lib.hid (good_f (t := ⟨num, kind, rad, flu, hol, stp, fd, plu⟩) (by unfold Tl.Good; dsimp only; omega))
    go_enter Tryd.func18, Tryd.ntmps18
    go_wp2_with (go_at_call 31; refine (rlength_any _ _).mono ?_; rintro e w' ⟨rfl, rfl⟩)
    go_ret
    exact ⟨by rw [hg.out]; rfl, by go_grown⟩
  by_cases c1 : num ≤ 9999
  rotate_left
  · have hg := Lib.hid (good_f (t := ⟨num, kind, rad, flu, hol, stp, fd, plu⟩) (by unfold Tl.Good; dsimp only; omega))
    go_enter Tryd.func18, Tryd.ntmps18
    go_wp2_with (go_at_call 31; refine (rlength_any _ _).mono ?_; rintro e w' ⟨rfl, rfl⟩)
    go_ret
    exact ⟨by rw [hg.out]; rfl, by go_grown⟩
  by_cases c2 : 1 ≤ kind
  rotate_left
  · have hg := Lib.hid (good_f (t := ⟨num, kind, rad, flu, hol, stp, fd, plu⟩) (by unfold Tl.Good; dsimp only; omega))
    go_enter Tryd.func18, Tryd.ntmps18
    go_wp2_with (go_at_call 31; refine (rlength_any _ _).mono ?_; rintro e w' ⟨rfl, rfl⟩)
    go_ret
    exact ⟨by rw [hg.out]; rfl, by go_grown⟩
  by_cases c3 : kind ≤ 4
  rotate_left
  · have hg := Lib.hid (good_f (t := ⟨num, kind, rad, flu, hol, stp, fd, plu⟩) (by unfold Tl.Good; dsimp only; omega))
    go_enter Tryd.func18, Tryd.ntmps18
    go_wp2_with (go_at_call 31; refine (rlength_any _ _).mono ?_; rintro e w' ⟨rfl, rfl⟩)
    go_ret
    exact ⟨by rw [hg.out]; rfl, by go_grown⟩
  by_cases c4 : lenB rad = true
  rotate_left
  · have hf : lenB rad = false := by simpa using c4
    have hg := Lib.hid (good_f (t := ⟨num, kind, rad, flu, hol, stp, fd, plu⟩) (fun hh => lenB_f c4 (by have hh' := hh; unfold Tl.Good at hh'; dsimp only at hh'; omega)))
    clear c4
    go_enter Tryd.func18, Tryd.ntmps18
    go_wp2_with (go_at_call 31; refine (rlength_any _ _).mono ?_; rintro e w' ⟨rfl, rfl⟩)
    go_ret
    exact ⟨by rw [hg.out]; rfl, by go_grown⟩
  by_cases c5 : lenB flu = true
  rotate_left
  · have hf : lenB flu = false := by simpa using c5
    have hg := Lib.hid (good_f (t := ⟨num, kind, rad, flu, hol, stp, fd, plu⟩) (fun hh => lenB_f c5 (by have hh' := hh; unfold Tl.Good at hh'; dsimp only at hh'; omega)))
    clear c5
    go_enter Tryd.func18, Tryd.ntmps18
    go_wp2_with (go_at_call 31; refine (rlength_any _ _).mono ?_; rintro e w' ⟨rfl, rfl⟩)
    go_ret
    exact ⟨by rw [hg.out]; rfl, by go_grown⟩
  by_cases c6 : lenB stp = true
  rotate_left
  · have hf : lenB stp = false := by simpa using c6
    have hg := Lib.hid (good_f (t := ⟨num, kind, rad, flu, hol, stp, fd, plu⟩) (fun hh => lenB_f c6 (by have hh' := hh; unfold Tl.Good at hh'; dsimp only at hh'; omega)))
    clear c6
    go_enter Tryd.func18, Tryd.ntmps18
    go_wp2_with (go_at_call 31; refine (rlength_any _ _).mono ?_; rintro e w' ⟨rfl, rfl⟩)
    go_ret
    exact ⟨by rw [hg.out]; rfl, by go_grown⟩
  by_cases c7 : lenB fd = true
  rotate_left
  · have hf : lenB fd = false := by simpa using c7
    have hg := Lib.hid (good_f (t := ⟨num, kind, rad, flu, hol, stp, fd, plu⟩) (fun hh => lenB_f c7 (by have hh' := hh; unfold Tl.Good at hh'; dsimp only at hh'; omega)))
    clear c7
    go_enter Tryd.func18, Tryd.ntmps18
    go_wp2_with (go_at_call 31; refine (rlength_any _ _).mono ?_; rintro e w' ⟨rfl, rfl⟩)
    go_ret
    exact ⟨by rw [hg.out]; rfl, by go_grown⟩
  by_cases c8 : lenB plu = true
  rotate_left
  · have hf : lenB plu = false := by simpa using c8
    have hg := Lib.hid (good_f (t := ⟨num, kind, rad, flu, hol, stp, fd, plu⟩) (fun hh => lenB_f c8 (by have hh' := hh; unfold Tl.Good at hh'; dsimp only at hh'; omega)))
    clear c8
    go_enter Tryd.func18, Tryd.ntmps18
    go_wp2_with (go_at_call 31; refine (rlength_any _ _).mono ?_; rintro e w' ⟨rfl, rfl⟩)
    go_ret
    exact ⟨by rw [hg.out]; rfl, by go_grown⟩
  by_cases c9 : rad ≤ hol
  rotate_left
  · have hg := Lib.hid (good_f (t := ⟨num, kind, rad, flu, hol, stp, fd, plu⟩) (by unfold Tl.Good; dsimp only; omega))
    go_enter Tryd.func18, Tryd.ntmps18
    go_wp2_with (go_at_call 31; refine (rlength_any _ _).mono ?_; rintro e w' ⟨rfl, rfl⟩)
    go_ret
    exact ⟨by rw [hg.out]; rfl, by go_grown⟩
  by_cases c10 : hol ≤ 10000000
  rotate_left
  · have hg := Lib.hid (good_f (t := ⟨num, kind, rad, flu, hol, stp, fd, plu⟩) (by unfold Tl.Good; dsimp only; omega))
    go_enter Tryd.func18, Tryd.ntmps18
    go_wp2_with (go_at_call 31; refine (rlength_any _ _).mono ?_; rintro e w' ⟨rfl, rfl⟩)
    go_ret
    exact ⟨by rw [hg.out]; rfl, by go_grown⟩
  by_cases c11 : stp ≤ flu
  rotate_left
  · have hg := Lib.hid (good_f (t := ⟨num, kind, rad, flu, hol, stp, fd, plu⟩) (by unfold Tl.Good; dsimp only; omega))
    have hd : decide (stp ≤ flu) = false := decide_eq_false c11
    go_enter Tryd.func18, Tryd.ntmps18
    go_wp2_with (go_at_call 31; refine (rlength_any _ _).mono ?_; rintro e w' ⟨rfl, rfl⟩)
    go_ret
    exact ⟨by rw [hg.out]; rfl, by go_grown⟩
  have hg := Lib.hid (good_t (t := ⟨num, kind, rad, flu, hol, stp, fd, plu⟩) (by have := lenB_t c4; have := lenB_t c5; have := lenB_t c6; have := lenB_t c7; have := lenB_t c8; unfold Tl.Good; dsimp only; omega))
  have hd : decide (stp ≤ flu) = true := decide_eq_true c11
  go_enter Tryd.func18, Tryd.ntmps18
  go_wp2_with (go_at_call 31; refine (rlength_any _ _).mono ?_; rintro e w' ⟨rfl, rfl⟩)
  go_ret
  exact ⟨by rw [hg.out]; rfl, by go_grown⟩

end Go.Proofs.YtpiabmjipgfjjaaDoor
