/- tool.Valid in every case. -/
import Derived.Test.YtpiabmjipgfjjaaDoorTool
namespace Go.Proofs.YtpiabmjipgfjjaaDoor
open Go.RowKit Go.Maps
theorem str_no {s : ByteArray} (h : s.data.toList = []) : s.toList.isEmpty = true := by
  rw [ByteArray.toList_eq] <;> simp_all

set_option maxHeartbeats 4000000 in
theorem valid_any (t : Tl) (w : World) (hn : Nms w) (ho : t.ok) : Calls Tryd.prog 25 #[t.v] w (ValidPost t w) := by
  have hn1 : ∀ o, Nms (w.alloc o) := fun o => hn.below ((Below.refl _ _).alloc (Nat.le_refl _) o)
  obtain ⟨num, kind, rad, flu, hol, stp, fd, plu⟩ := t
  have hk : i64 kind := ho.2.1
  clear ho
  have HN := Lib.hid hn1
  clear hn1 hn
  simp only [Tl.v]
  by_cases c0 : 1 ≤ num
  rotate_left
  · have hg := Lib.hid (v_f (t := ⟨num, kind, rad, flu, hol, stp, fd, plu⟩) (by unfold Tl.Good; dsimp only; omega))
    go_enter Tryd.func25, Tryd.ntmps25
    go_wp2
    go_ret
    exact ⟨by rw [hg.out]; rfl, by go_grown⟩
  by_cases c1 : num ≤ 9999
  rotate_left
  · have hg := Lib.hid (v_f (t := ⟨num, kind, rad, flu, hol, stp, fd, plu⟩) (by unfold Tl.Good; dsimp only; omega))
    go_enter Tryd.func25, Tryd.ntmps25
    go_wp2
    go_ret
    exact ⟨by rw [hg.out]; rfl, by go_grown⟩
  by_cases c2 : 1 ≤ kind ∧ kind ≤ 4
  rotate_left
  · have hg := Lib.hid (v_f (t := ⟨num, kind, rad, flu, hol, stp, fd, plu⟩) (by unfold Tl.Good; dsimp only; omega))
    have ck := Lib.hid c2
    clear c2
    go_enter Tryd.func25, Tryd.ntmps25
    go_wp2_with (go_at_call 38; refine (kind_no _ _ (HN.out _) hk (by have := ck.out; omega)).mono ?_; rintro e w' ⟨s, rfl, hs, rfl⟩; have hs2 := str_no hs; clear hs)
    go_ret
    exact ⟨by rw [hg.out]; rfl, by go_grown⟩
  by_cases c3 : lenB rad = true
  rotate_left
  · have hf : lenB rad = false := by simpa using c3
    have hg := Lib.hid (v_f (t := ⟨num, kind, rad, flu, hol, stp, fd, plu⟩) (fun hh => lenB_f c3 (by have hh' := hh; unfold Tl.Good at hh'; dsimp only at hh'; omega)))
    clear c3
    have ck := Lib.hid c2
    clear c2
    go_enter Tryd.func25, Tryd.ntmps25
    go_wp2_with (go_at_call 38; refine (kind_yes _ _ (HN.out _) ck.out.1 ck.out.2).mono ?_; rintro e w' ⟨s, rfl, hs, rfl⟩; have hs2 := str_ne hs; clear hs)
    refine wp_loop_rounds 7 ?_
    repeat (rw [rounds_succ]; go_wp2_with (go_at_call 39; refine (plength_any _ _).mono ?_; rintro e w' ⟨rfl, rfl⟩))
    go_ret
    exact ⟨by rw [hg.out]; rfl, by go_grown⟩
  by_cases c4 : lenB flu = true
  rotate_left
  · have hf : lenB flu = false := by simpa using c4
    have hg := Lib.hid (v_f (t := ⟨num, kind, rad, flu, hol, stp, fd, plu⟩) (fun hh => lenB_f c4 (by have hh' := hh; unfold Tl.Good at hh'; dsimp only at hh'; omega)))
    clear c4
    have ck := Lib.hid c2
    clear c2
    go_enter Tryd.func25, Tryd.ntmps25
    go_wp2_with (go_at_call 38; refine (kind_yes _ _ (HN.out _) ck.out.1 ck.out.2).mono ?_; rintro e w' ⟨s, rfl, hs, rfl⟩; have hs2 := str_ne hs; clear hs)
    refine wp_loop_rounds 7 ?_
    repeat (rw [rounds_succ]; go_wp2_with (go_at_call 39; refine (plength_any _ _).mono ?_; rintro e w' ⟨rfl, rfl⟩))
    go_ret
    exact ⟨by rw [hg.out]; rfl, by go_grown⟩
  by_cases c5 : lenB hol = true
  rotate_left
  · have hf : lenB hol = false := by simpa using c5
    have hg := Lib.hid (v_f (t := ⟨num, kind, rad, flu, hol, stp, fd, plu⟩) (fun hh => lenB_f c5 (by have hh' := hh; unfold Tl.Good at hh'; dsimp only at hh'; omega)))
    clear c5
    have ck := Lib.hid c2
    clear c2
    go_enter Tryd.func25, Tryd.ntmps25
    go_wp2_with (go_at_call 38; refine (kind_yes _ _ (HN.out _) ck.out.1 ck.out.2).mono ?_; rintro e w' ⟨s, rfl, hs, rfl⟩; have hs2 := str_ne hs; clear hs)
    refine wp_loop_rounds 7 ?_
    repeat (rw [rounds_succ]; go_wp2_with (go_at_call 39; refine (plength_any _ _).mono ?_; rintro e w' ⟨rfl, rfl⟩))
    go_ret
    exact ⟨by rw [hg.out]; rfl, by go_grown⟩
  by_cases c6 : lenB stp = true
  rotate_left
  · have hf : lenB stp = false := by simpa using c6
    have hg := Lib.hid (v_f (t := ⟨num, kind, rad, flu, hol, stp, fd, plu⟩) (fun hh => lenB_f c6 (by have hh' := hh; unfold Tl.Good at hh'; dsimp only at hh'; omega)))
    clear c6
    have ck := Lib.hid c2
    clear c2
    go_enter Tryd.func25, Tryd.ntmps25
    go_wp2_with (go_at_call 38; refine (kind_yes _ _ (HN.out _) ck.out.1 ck.out.2).mono ?_; rintro e w' ⟨s, rfl, hs, rfl⟩; have hs2 := str_ne hs; clear hs)
    refine wp_loop_rounds 7 ?_
    repeat (rw [rounds_succ]; go_wp2_with (go_at_call 39; refine (plength_any _ _).mono ?_; rintro e w' ⟨rfl, rfl⟩))
    go_ret
    exact ⟨by rw [hg.out]; rfl, by go_grown⟩
  by_cases c7 : lenB fd = true
  rotate_left
  · have hf : lenB fd = false := by simpa using c7
    have hg := Lib.hid (v_f (t := ⟨num, kind, rad, flu, hol, stp, fd, plu⟩) (fun hh => lenB_f c7 (by have hh' := hh; unfold Tl.Good at hh'; dsimp only at hh'; omega)))
    clear c7
    have ck := Lib.hid c2
    clear c2
    go_enter Tryd.func25, Tryd.ntmps25
    go_wp2_with (go_at_call 38; refine (kind_yes _ _ (HN.out _) ck.out.1 ck.out.2).mono ?_; rintro e w' ⟨s, rfl, hs, rfl⟩; have hs2 := str_ne hs; clear hs)
    refine wp_loop_rounds 7 ?_
    repeat (rw [rounds_succ]; go_wp2_with (go_at_call 39; refine (plength_any _ _).mono ?_; rintro e w' ⟨rfl, rfl⟩))
    go_ret
    exact ⟨by rw [hg.out]; rfl, by go_grown⟩
  by_cases c8 : lenB plu = true
  rotate_left
  · have hf : lenB plu = false := by simpa using c8
    have hg := Lib.hid (v_f (t := ⟨num, kind, rad, flu, hol, stp, fd, plu⟩) (fun hh => lenB_f c8 (by have hh' := hh; unfold Tl.Good at hh'; dsimp only at hh'; omega)))
    clear c8
    have ck := Lib.hid c2
    clear c2
    go_enter Tryd.func25, Tryd.ntmps25
    go_wp2_with (go_at_call 38; refine (kind_yes _ _ (HN.out _) ck.out.1 ck.out.2).mono ?_; rintro e w' ⟨s, rfl, hs, rfl⟩; have hs2 := str_ne hs; clear hs)
    refine wp_loop_rounds 7 ?_
    repeat (rw [rounds_succ]; go_wp2_with (go_at_call 39; refine (plength_any _ _).mono ?_; rintro e w' ⟨rfl, rfl⟩))
    go_ret
    exact ⟨by rw [hg.out]; rfl, by go_grown⟩
  by_cases c9 : rad ≤ hol
  rotate_left
  · have hg := Lib.hid (v_f (t := ⟨num, kind, rad, flu, hol, stp, fd, plu⟩) (by unfold Tl.Good; dsimp only; omega))
    have ck := Lib.hid c2
    clear c2
    go_enter Tryd.func25, Tryd.ntmps25
    go_wp2_with (go_at_call 38; refine (kind_yes _ _ (HN.out _) ck.out.1 ck.out.2).mono ?_; rintro e w' ⟨s, rfl, hs, rfl⟩; have hs2 := str_ne hs; clear hs)
    refine wp_loop_rounds 7 ?_
    repeat (rw [rounds_succ]; go_wp2_with (go_at_call 39; refine (plength_any _ _).mono ?_; rintro e w' ⟨rfl, rfl⟩))
    go_ret
    exact ⟨by rw [hg.out]; rfl, by go_grown⟩
  by_cases c10 : stp ≤ flu
  rotate_left
  · have hg := Lib.hid (v_f (t := ⟨num, kind, rad, flu, hol, stp, fd, plu⟩) (by unfold Tl.Good; dsimp only; omega))
    have ck := Lib.hid c2
    clear c2
    have hd : decide (stp ≤ flu) = false := decide_eq_false c10
    go_enter Tryd.func25, Tryd.ntmps25
    go_wp2_with (go_at_call 38; refine (kind_yes _ _ (HN.out _) ck.out.1 ck.out.2).mono ?_; rintro e w' ⟨s, rfl, hs, rfl⟩; have hs2 := str_ne hs; clear hs)
    refine wp_loop_rounds 7 ?_
    repeat (rw [rounds_succ]; go_wp2_with (go_at_call 39; refine (plength_any _ _).mono ?_; rintro e w' ⟨rfl, rfl⟩))
    go_ret
    exact ⟨by rw [hg.out]; rfl, by go_grown⟩
  have hg := Lib.hid (v_t (t := ⟨num, kind, rad, flu, hol, stp, fd, plu⟩) (by have := lenB_t c3; have := lenB_t c4; have := lenB_t c5; have := lenB_t c6; have := lenB_t c7; have := lenB_t c8; unfold Tl.Good; dsimp only; omega))
  have ck := Lib.hid c2
  clear c2
  have hd : decide (stp ≤ flu) = true := decide_eq_true c10
  go_enter Tryd.func25, Tryd.ntmps25
  go_wp2_with (go_at_call 38; refine (kind_yes _ _ (HN.out _) ck.out.1 ck.out.2).mono ?_; rintro e w' ⟨s, rfl, hs, rfl⟩; have hs2 := str_ne hs; clear hs)
  refine wp_loop_rounds 7 ?_
  repeat (rw [rounds_succ]; go_wp2_with (go_at_call 39; refine (plength_any _ _).mono ?_; rintro e w' ⟨rfl, rfl⟩))
  go_ret
  exact ⟨by rw [hg.out]; rfl, by go_grown⟩
end Go.Proofs.YtpiabmjipgfjjaaDoor
