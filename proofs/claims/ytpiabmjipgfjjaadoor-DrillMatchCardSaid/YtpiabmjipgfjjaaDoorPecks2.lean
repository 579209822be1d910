/- slices.Equal on []int64; what Pecks returns, the program's and the reference's, in every case. -/
import Derived.Test.YtpiabmjipgfjjaaDoorPecks
import Derived.Deep.QuietTactic
import Derived.BigQuiet
namespace Go.Proofs.YtpiabmjipgfjjaaDoor
open Go.RowKit

theorem Rd.at1 {w : World} {A : Option Addr} {n c : Nat} {xs : List Int} (h : Rd w 1 (.slice A n c) n (xs.map (Value.int .i64))) {k : Nat} (hk : k < n) :
    ∃ b off, A = some ⟨b, off, none⟩ ∧ w.cell? ⟨b, off + k, none⟩ = some (.int .i64 (xs.getD k 0)) := by
  obtain ⟨hl, A', c', hv, h1, h2, h3⟩ := h
  injection hv with hA _ hc
  subst hA
  obtain ⟨b, off, hA, hlt, hc⟩ := h3 (by omega)
  refine ⟨b, off, hA, hc k _ ?_⟩
  have hk' : k < xs.length := by simpa using (by omega : k < (xs.map (Value.int .i64)).length)
  simp [List.getElem?_map, List.getElem?_eq_getElem hk', List.getD]

theorem Rd.form {w : World} {size : Nat} {v : Value} {n : Nat} {xs : List Value} (h : Rd w size v n xs) : ∃ A c, v = .slice A n c ∧ n ≤ 9223372036854775807 := by
  obtain ⟨hl, A', c', hv, h1, h2, h3⟩ := h
  refine ⟨A', c', hv, ?_⟩
  unfold maxLen at h2
  omega

set_option maxHeartbeats 400000 in
theorem equal_same (v1 v2 : Value) (n : Nat) (xs : List Int) (w : World) (h1 : Rd w 1 v1 n (xs.map (Value.int .i64))) (h2 : Rd w 1 v2 n (xs.map (Value.int .i64))) :
    Calls Tryd.prog 11 #[v1, v2] w fun e w' => e = .returned (.bool true) ∧ ∃ m, w' = w.drewN m := by
  obtain ⟨A1, c1, rfl, hn⟩ := h1.form
  obtain ⟨A2, c2, rfl, _⟩ := h2.form
  have hne : ((n : Int) != (n : Int)) = false := by simp
  go_enter Tryd.func11, Tryd.ntmps11
  go_wp2
  go_loopw [13] (fun i wr => ∃ k : Nat, k ≤ n ∧ i = .int .i64 k ∧ ∃ m, wr = w.drewN m) (fun i _ => n - (intOf i).toNat)
  case atStart => exact ⟨0, Nat.zero_le _, rfl, 0, rfl⟩
  case round =>
    obtain ⟨k, hk, rfl, m, rfl⟩ := hrel
    by_cases hlt : k < n
    · obtain ⟨b1, o1, rfl, hc1⟩ := h1.at1 hlt
      obtain ⟨b2, o2, rfl, hc2⟩ := h2.at1 hlt
      go_wp2
      go_quiet (fail)
      go_wp2
      go_roundw
      case rel => exact ⟨k + 1, by omega, by go_num, _, rfl⟩
      case measure => simp [intOf]; omega
    · go_wp2
      go_ret
      exact ⟨rfl, m, rfl⟩

def pkErr (depth peck : Int) : Int := if depth < 1 ∨ peck < 1 then 1 else if 1000 ≤ (depth - 1) / peck then 3 else 0
def pkList (depth peck : Int) : List Int := if pkErr depth peck = 0 then mult peck ((depth - 1) / peck).toNat ++ [depth] else []

def PkPost (depth peck : Int) (w : World) (e : Ending) (w' : World) : Prop :=
  ∃ v, e = .returned (.tuple #[v, .int .i64 (pkErr depth peck)]) ∧ Rd w' 1 v (pkList depth peck).length ((pkList depth peck).map (Value.int .i64)) ∧ Below w.heap.size w w'

theorem pk_ok {depth peck : Int} (h1 : 1 ≤ depth) (h2 : 1 ≤ peck) (h : (depth - 1) / peck < 1000) :
    pkErr depth peck = 0 ∧ pkList depth peck = mult peck ((depth - 1) / peck).toNat ++ [depth] ∧ (pkList depth peck).length = ((depth - 1) / peck).toNat + 1 ∧
    peck * ((((depth - 1) / peck).toNat : Nat) : Int) ≤ depth - 1 ∧ depth - 1 < peck * ((((depth - 1) / peck).toNat : Nat) + 1 : Int) ∧ ((depth - 1) / peck).toNat < 1000 := by
  have e0 : pkErr depth peck = 0 := by unfold pkErr; rw [if_neg (by omega), if_neg (by omega)]
  have e1 : pkList depth peck = mult peck ((depth - 1) / peck).toNat ++ [depth] := by unfold pkList; rw [if_pos e0]
  have hq : 0 ≤ (depth - 1) / peck := Int.ediv_nonneg (by omega) (by omega)
  have e2 : ((((depth - 1) / peck).toNat : Nat) : Int) = (depth - 1) / peck := Int.toNat_of_nonneg hq
  refine ⟨e0, e1, by rw [e1]; simp [mult_len], ?_, ?_, by omega⟩
  · rw [e2]; exact Int.mul_ediv_self_le (by omega)
  · rw [e2, Int.mul_add, Int.mul_one]; exact Int.lt_mul_ediv_self_add (by omega)

theorem pk_err {depth peck : Int} (h : depth < 1 ∨ peck < 1) : pkErr depth peck = 1 ∧ pkList depth peck = [] := by
  have e0 : pkErr depth peck = 1 := by unfold pkErr; rw [if_pos h]
  exact ⟨e0, by unfold pkList; rw [e0]; rfl⟩
theorem pk_large {depth peck : Int} (h1 : 1 ≤ depth) (h2 : 1 ≤ peck) (h : 1000 ≤ (depth - 1) / peck) : pkErr depth peck = 3 ∧ pkList depth peck = [] := by
  have e0 : pkErr depth peck = 3 := by unfold pkErr; rw [if_neg (by omega), if_pos h]
  exact ⟨e0, by unfold pkList; rw [e0]; rfl⟩

set_option maxHeartbeats 400000 in
theorem pecks_any (depth peck : Int) (w : World) (b1 : -9223372036854775808 ≤ depth) (b2 : depth ≤ 9223372036854775807) (b3 : -9223372036854775808 ≤ peck) (b4 : peck ≤ 9223372036854775807) :
    Calls Tryd.prog 9 #[.int .i64 depth, .int .i64 peck] w (PkPost depth peck w) := by
  by_cases h1 : depth < 1
  · obtain ⟨e0, e1⟩ := pk_err (peck := peck) (.inl h1)
    have E0 := Lib.hid e0
    have E1 := Lib.hid e1
    clear e0 e1
    go_enter Tryd.func9, Tryd.ntmps9
    go_wp2
    go_ret2
    exact ⟨.slice none 0 0, by rw [E0.out]; rfl, by rw [E1.out]; exact Rd.nil _ _, Below.refl _ _⟩
  · by_cases h2 : peck < 1
    · obtain ⟨e0, e1⟩ := pk_err (depth := depth) (.inr h2)
      have E0 := Lib.hid e0
      have E1 := Lib.hid e1
      clear e0 e1
      go_enter Tryd.func9, Tryd.ntmps9
      go_wp2
      go_ret2
      exact ⟨.slice none 0 0, by rw [E0.out]; rfl, by rw [E1.out]; exact Rd.nil _ _, Below.refl _ _⟩
    · by_cases h3 : 1000 ≤ (depth - 1) / peck
      · obtain ⟨e0, e1⟩ := pk_large (by omega) (by omega) h3
        have E0 := Lib.hid e0
        have E1 := Lib.hid e1
        clear e0 e1
        go_enter Tryd.func9, Tryd.ntmps9
        go_wp2
        go_ret2
        exact ⟨.slice none 0 0, by rw [E0.out]; rfl, by rw [E1.out]; exact Rd.nil _ _, Below.refl _ _⟩
      · obtain ⟨e0, e1, e2, e3, e4, e5⟩ := pk_ok (depth := depth) (peck := peck) (by omega) (by omega) (by omega)
        refine (pecks_ok depth peck _ w (by omega) (by omega) b2 b4 (by omega) e3 e4 e5).mono ?_
        rintro e w' ⟨v, rfl, hown, hb⟩
        exact ⟨v, by rw [e0], by rw [e2, e1]; exact Rd.of_own (by decide) hown, hb⟩

set_option maxHeartbeats 400000 in
theorem rpecks_any (depth peck : Int) (w : World) (b1 : -9223372036854775808 ≤ depth) (b2 : depth ≤ 9223372036854775807) (b3 : -9223372036854775808 ≤ peck) (b4 : peck ≤ 9223372036854775807) :
    Calls Tryd.prog 10 #[.int .i64 depth, .int .i64 peck] w (PkPost depth peck w) := by
  by_cases h1 : depth < 1
  · obtain ⟨e0, e1⟩ := pk_err (peck := peck) (.inl h1)
    have E0 := Lib.hid e0
    have E1 := Lib.hid e1
    clear e0 e1
    go_enter Tryd.func10, Tryd.ntmps10
    go_wp2
    go_ret2
    exact ⟨.slice none 0 0, by rw [E0.out]; rfl, by rw [E1.out]; exact Rd.nil _ _, Below.refl _ _⟩
  · by_cases h2 : peck < 1
    · obtain ⟨e0, e1⟩ := pk_err (depth := depth) (.inr h2)
      have E0 := Lib.hid e0
      have E1 := Lib.hid e1
      clear e0 e1
      go_enter Tryd.func10, Tryd.ntmps10
      go_wp2
      go_ret2
      exact ⟨.slice none 0 0, by rw [E0.out]; rfl, by rw [E1.out]; exact Rd.nil _ _, Below.refl _ _⟩
    · by_cases h3 : 1000 ≤ (depth - 1) / peck
      · obtain ⟨e0, e1⟩ := pk_large (by omega) (by omega) h3
        have E0 := Lib.hid e0
        have E1 := Lib.hid e1
        clear e0 e1
        go_enter Tryd.func10, Tryd.ntmps10
        go_wp2
        go_ret2
        exact ⟨.slice none 0 0, by rw [E0.out]; rfl, by rw [E1.out]; exact Rd.nil _ _, Below.refl _ _⟩
      · obtain ⟨e0, e1, e2, e3, e4, e5⟩ := pk_ok (depth := depth) (peck := peck) (by omega) (by omega) (by omega)
        refine (rpecks_ok depth peck _ w (by omega) (by omega) b2 b4 (by omega) e3 e4 e5).mono ?_
        rintro e w' ⟨v, rfl, hown, hb⟩
        exact ⟨v, by rw [e0], by rw [e2, e1]; exact Rd.of_own (by decide) hown, hb⟩
end Go.Proofs.YtpiabmjipgfjjaaDoor
