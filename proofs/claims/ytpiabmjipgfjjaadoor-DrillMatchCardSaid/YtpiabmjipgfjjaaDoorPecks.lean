/- The walks of Pecks, the program's and the reference's. -/
import Derived.Test.YtpiabmjipgfjjaaDoorBase
namespace Go.Proofs.YtpiabmjipgfjjaaDoor
open Go.RowKit

theorem elemTI : Elem Tryd.prog 23 2 1 8 := Elem.mk_ (z := .int .i64 0) Tryd.underlying23 (by decide) (by kernel_rfl) rfl

def mult (p : Int) (k : Nat) : List Int := (List.range k).map fun i : Nat => p * ((i : Int) + 1)
theorem mult_succ (p : Int) (k : Nat) : mult p (k + 1) = mult p k ++ [p * ((k : Int) + 1)] := by simp [mult, List.range_succ]
theorem mult_len (p : Int) (k : Nat) : (mult p k).length = k := by simp [mult]

set_option maxHeartbeats 400000 in
theorem pecks_ok (depth peck : Int) (n : Nat) (w : World) (h1 : 1 ≤ depth) (h2 : 1 ≤ peck) (h1' : depth ≤ 9223372036854775807) (h2' : peck ≤ 9223372036854775807)
    (h : (depth - 1) / peck < 1000) (hn1 : peck * n ≤ depth - 1) (hn2 : depth - 1 < peck * (n + 1)) (hn : n < 1000) :
    Calls Tryd.prog 9 #[.int .i64 depth, .int .i64 peck] w fun e w' => ∃ v, e = .returned (.tuple #[v, .int .i64 0]) ∧
      w'.ownsRow w.heap.size 2 1 v (n + 1) ((mult peck n ++ [depth]).map (Value.int .i64)) ∧ Below w.heap.size w w' := by
  go_enter Tryd.func9, Tryd.ntmps9
  go_wp2
  go_loopw [6, 7] (fun v d wr => ∃ k : Nat, k ≤ n ∧ d = .int .i64 (peck * ((k : Int) + 1)) ∧ wr.ownsRow w.heap.size 2 1 v k ((mult peck k).map (Value.int .i64)) ∧ Below w.heap.size w wr) (fun _ d _ => (depth - intOf d).toNat)
  case atStart => exact ⟨0, Nat.zero_le _, by simp, ⟨by simp [mult], .inl ⟨rfl, rfl⟩⟩, Below.refl _ _⟩
  case round =>
    obtain ⟨k, hk, rfl, hown, hb⟩ := hrel
    have hp : 0 ≤ peck * (k : Int) := Int.mul_nonneg (by omega) (by omega)
    have e1 : peck * ((k : Int) + 1) = peck * k + peck := by rw [Int.mul_add, Int.mul_one]
    have e2 : peck * ((k : Int) + 1 + 1) = peck * k + peck + peck := by rw [Int.mul_add, e1, Int.mul_one]
    have hkn : peck * ((k : Int) + 1) < depth → k < n := fun hh => by
      rcases Nat.lt_or_ge k n with h | h
      · exact h
      · exfalso
        have : peck * ((n : Int) + 1) ≤ peck * ((k : Int) + 1) := Int.mul_le_mul_of_nonneg_left (by omega) (by omega)
        omega
    have hms := mult_succ peck k
    have hml := mult_len peck k
    generalize peck * ((k : Int) + 1) = d at *
    have E2 := Lib.hid e2
    have HM := Lib.hid hms
    have HL := Lib.hid hml
    have hd : d = peck * k + peck := e1
    have hd1 : 1 ≤ d := by omega
    have E1 := Lib.hid hd
    clear e1 e2 hms hml hd
    by_cases hlt : d < depth
    · have hkn' := hkn hlt
      clear hkn
      go_wp2_with (at_builtin; refine append_new elemTI hown hb hb.size (cs := [.int .i64 d]) (m := 1) rfl ?c1 ?c2 ?c3 rfl rfl rfl rfl ?_)
      case c1 => simp [Value.oneCell']
      case c2 => unfold maxLen; omega
      case c3 => omega
      intro v1 w1 hown1 hb1
      by_cases hbr : d > depth - peck
      · have hk1 : k + 1 = n := by
          have := E1.out
          rcases Nat.lt_or_ge (k + 1) n with h | h
          · exfalso
            have h3 : peck * ((k : Int) + 1 + 1) ≤ peck * (n : Int) := Int.mul_le_mul_of_nonneg_left (by omega) (by omega)
            have := E2.out
            omega
          · omega
        have K1 := Lib.hid hk1
        clear hk1
        go_wp2_with (at_builtin; refine append_new elemTI hown1 hb1 hb1.size (cs := [.int .i64 depth]) (m := 1) rfl ?c1 ?c2 ?c3 rfl rfl rfl rfl ?_)
        case c1 => simp [Value.oneCell']
        case c2 => unfold maxLen; omega
        case c3 => omega
        intro v2 w2 hown2 hb2
        go_wp2
        go_ret2
        refine ⟨v2, rfl, ?_, hb2⟩
        rw [← K1.out, HM.out]
        simpa using hown2
      · go_wp2
        go_roundw
        case rel => exact ⟨k + 1, by omega, by rw [E1.out]; push_cast; rw [E2.out], by rw [HM.out]; simpa using hown1, hb1⟩
        case measure => simp [intOf]; omega
    · have hk1 : k = n := by
        rcases Nat.lt_or_ge k n with h | h
        · exfalso
          have h3 : peck * ((k : Int) + 1) ≤ peck * (n : Int) := Int.mul_le_mul_of_nonneg_left (by omega) (by omega)
          have := E1.out
          have h4 : peck * ((k : Int) + 1) = peck * k + peck := by rw [Int.mul_add, Int.mul_one]
          omega
        · omega
      have K1 := Lib.hid hk1
      clear hk1 hkn
      go_wp2_with (at_builtin; refine append_new elemTI hown hb hb.size (cs := [.int .i64 depth]) (m := 1) rfl ?c1 ?c2 ?c3 rfl rfl rfl rfl ?_)
      case c1 => simp [Value.oneCell']
      case c2 => unfold maxLen; omega
      case c3 => omega
      intro v2 w2 hown2 hb2
      go_wp2
      go_ret2
      refine ⟨v2, rfl, ?_, hb2⟩
      rw [← K1.out]
      simpa using hown2


def lenOf : Value → Nat | .slice _ n _ => n | _ => 0
theorem own_len {w : World} {base : Nat} {e : TypeId} {size : Nat} {v : Value} {n : Nat} {xs : List Value} (h : w.ownsRow base e size v n xs) : lenOf v = n := by
  rcases h.2 with ⟨rfl, rfl⟩ | ⟨g, cap, cur, rfl, _⟩ <;> rfl

theorem wrap_far (d p m : Int) (h1 : 1 ≤ d) (h2 : 1 ≤ p) (h3 : p ≤ 9223372036854775807) (h4 : d < m) (h5 : m ≤ 9223372036854775807) (h6 : m - 1 < d + p) : m ≤ wrap64 (d + p) ∨ wrap64 (d + p) ≤ 0 := by
  unfold wrap64; omega

set_option maxHeartbeats 400000 in
theorem rpecks_ok (depth peck : Int) (n : Nat) (w : World) (h1 : 1 ≤ depth) (h2 : 1 ≤ peck) (h1' : depth ≤ 9223372036854775807) (h2' : peck ≤ 9223372036854775807)
    (h : (depth - 1) / peck < 1000) (hn1 : peck * n ≤ depth - 1) (hn2 : depth - 1 < peck * (n + 1)) (hn : n < 1000) :
    Calls Tryd.prog 10 #[.int .i64 depth, .int .i64 peck] w fun e w' => ∃ v, e = .returned (.tuple #[v, .int .i64 0]) ∧
      w'.ownsRow w.heap.size 2 1 v (n + 1) ((mult peck n ++ [depth]).map (Value.int .i64)) ∧ Below w.heap.size w w' := by
  go_enter Tryd.func10, Tryd.ntmps10
  go_wp2
  go_loopw [6, 7] (fun v d wr => ∃ (k : Nat) (dd : Int), k ≤ n ∧ d = .int .i64 dd ∧ (k < n → dd = peck * ((k : Int) + 1)) ∧ (k = n → depth ≤ dd ∨ dd ≤ 0) ∧ wr.ownsRow w.heap.size 2 1 v k ((mult peck k).map (Value.int .i64)) ∧ Below w.heap.size w wr) (fun v _ _ => n - lenOf v)
  case atStart =>
    refine ⟨0, peck, Nat.zero_le _, rfl, fun _ => by simp, fun h0 => ?_, ⟨by simp [mult], .inl ⟨rfl, rfl⟩⟩, Below.refl _ _⟩
    subst h0
    simp at hn2
    omega
  case round =>
    obtain ⟨k, dd, hk, rfl, hd1, hd2, hown, hb⟩ := hrel
    have HOL := Lib.hid (own_len hown)
    by_cases hkn : k < n
    · have e1 := hd1 hkn
      have hp : 0 ≤ peck * (k : Int) := Int.mul_nonneg (by omega) (by omega)
      have e2 : peck * ((k : Int) + 1) = peck * k + peck := by rw [Int.mul_add, Int.mul_one]
      have e3 : peck * ((k : Int) + 1 + 1) = peck * k + peck + peck := by rw [Int.mul_add, e2, Int.mul_one]
      have h3 : peck * ((k : Int) + 1) ≤ peck * (n : Int) := Int.mul_le_mul_of_nonneg_left (by omega) (by omega)
      have hlt : dd < depth := by omega
      have hpos : 0 < dd := by omega
      have HM := Lib.hid (mult_succ peck k)
      have E1 := Lib.hid e1
      have h7 : k + 1 < n → dd + peck < depth := fun hh => by
        have : peck * ((k : Int) + 1 + 1) ≤ peck * (n : Int) := Int.mul_le_mul_of_nonneg_left (by omega) (by omega)
        omega
      have h8 : k + 1 = n → depth - 1 < dd + peck := fun hh => by
        have : peck * ((n : Int) + 1) = peck * ((k : Int) + 1 + 1) := by congr 1; omega
        omega
      have E3 : Hid (dd + peck = peck * ((k : Int) + 1 + 1)) := by show _ = _; omega
      clear hd1 hd2 e1 e2 e3 h3 hp
      by_cases h9 : k + 1 < n
      · have h7' := h7 h9
        clear h7 h8
        go_wp2_with (at_builtin; refine append_new elemTI hown hb hb.size (cs := [.int .i64 dd]) (m := 1) rfl ?c1 ?c2 ?c3 rfl rfl rfl rfl ?_)
        case c1 => simp [Value.oneCell']
        case c2 => unfold maxLen; omega
        case c3 => omega
        intro v1 w1 hown1 hb1
        have hl1 := own_len hown1
        have HL1 := Lib.hid hl1
        clear hl1
        go_wp2
        go_roundw
        case rel => exact ⟨k + 1, _, by omega, rfl, fun _ => by rw [E3.out]; push_cast; rfl, fun _ => by omega, by rw [HM.out, ← E1.out]; simpa using hown1, hb1⟩
        case measure => simp [HL1.out, HOL.out]; omega
      · have h8' := h8 (by omega)
        clear h7 h8
        have hw := wrap_far dd peck depth (by omega) h2 h2' hlt h1' h8'
        have HW := Lib.hid hw
        clear hw
        go_wp2_with (at_builtin; refine append_new elemTI hown hb hb.size (cs := [.int .i64 dd]) (m := 1) rfl ?c1 ?c2 ?c3 rfl rfl rfl rfl ?_)
        case c1 => simp [Value.oneCell']
        case c2 => unfold maxLen; omega
        case c3 => omega
        intro v1 w1 hown1 hb1
        have hl1 := own_len hown1
        have HL1 := Lib.hid hl1
        clear hl1
        go_wp2
        go_roundw
        case rel => exact ⟨k + 1, _, by omega, rfl, fun _ => by omega, fun _ => HW.out, by rw [HM.out, ← E1.out]; simpa using hown1, hb1⟩
        case measure => simp [HL1.out, HOL.out]; omega
    · have hd3 := hd2 (by omega)
      have K1 : Hid (k = n) := by show k = n; omega
      clear hd1 hd2
      by_cases hlt : dd < depth
      · have hneg : ¬ 0 < dd := by omega
        clear hd3
        go_wp2_with (at_builtin; refine append_new elemTI hown hb hb.size (cs := [.int .i64 depth]) (m := 1) rfl ?c1 ?c2 ?c3 rfl rfl rfl rfl ?_)
        case c1 => simp [Value.oneCell']
        case c2 => unfold maxLen; omega
        case c3 => omega
        intro v2 w2 hown2 hb2
        go_wp2
        go_ret2
        refine ⟨v2, rfl, ?_, hb2⟩
        rw [← K1.out]
        simpa using hown2
      · clear hd3
        go_wp2_with (at_builtin; refine append_new elemTI hown hb hb.size (cs := [.int .i64 depth]) (m := 1) rfl ?c1 ?c2 ?c3 rfl rfl rfl rfl ?_)
        case c1 => simp [Value.oneCell']
        case c2 => unfold maxLen; omega
        case c3 => omega
        intro v2 w2 hown2 hb2
        go_wp2
        go_ret2
        refine ⟨v2, rfl, ?_, hb2⟩
        rw [← K1.out]
        simpa using hown2

end Go.Proofs.YtpiabmjipgfjjaaDoor
