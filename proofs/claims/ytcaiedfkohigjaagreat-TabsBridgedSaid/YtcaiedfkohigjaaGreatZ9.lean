/- integer: divide. -/
import Derived.Test.YtcaiedfkohigjaaGreatZ8
namespace Go.Proofs.YtcaiedfkohigjaaGreat
open Go.RowKit
section
variable (b : List Int) (x2 : Int) (v : List Int) (m : Nat) (hN : (limbs (val b).toNat).length = m + 2) (hv : limbs (val (dig ((limbs (val b).toNat).length + ([IntKind.u32.wrap (IntKind.u64.wrap (Int.tdiv 1000000000 (IntKind.u64.wrap ((IntKind.u64.wrap x2) + 1))))]).length) (val (limbs (val b).toNat) * val ([IntKind.u32.wrap (IntKind.u64.wrap (Int.tdiv 1000000000 (IntKind.u64.wrap ((IntKind.u64.wrap x2) + 1))))])))).toNat = v) (lv : Lim v) (hvl : v.length = m + 2)
include hN hv lv hvl
set_option maxHeartbeats 2000000 in
theorem dvd_main (sc : Int) (hsc : IntKind.u32.wrap (IntKind.u64.wrap (Int.tdiv 1000000000 (IntKind.u64.wrap ((IntKind.u64.wrap x2) + 1)))) = sc) (hs1 : 1 ≤ sc) (hs2 : sc ≤ 500000000) (htop : 500000000 ≤ v[m + 1]) (A : Int) :
    ∀ (M : Nat) (r5 r1 : List Int), Lim r5 → Lim r1 → r1.length = r5.length + (m + 2) → r1.length ≤ 1000000000 → M ≤ r5.length → val v * val r5 + val r1 = A → (∀ j (hj : j < r5.length), j < M → r5[j] = 0) → val r1 < val v * pw M →
      ∃ qL rL, (Lim qL ∧ Lim rL ∧ qL.length = r5.length ∧ rL.length ≤ m + 2 ∧ val qL = A / val v ∧ val rL = A % val v / sc) ∧ dvd_C.Runs 34 (dvd_h34 b x2 ((M : Int) - 1) r5 r1) [.d (.sl (.int .u32)) qL, .d (.sl (.int .u32)) rL] := by
  have hVlt := val_lt lv
  rw [hvl] at hVlt
  have hV0 : 0 < val v := by
    rw [val_top2 hvl]
    have h1 := val_nonneg (lv.take m)
    have h2 := lv.get (show m < v.length by omega)
    have h3 := Int.mul_pos (pw_pos m) (show 0 < v[m] + 1000000000 * v[m + 1] by omega)
    omega
  intro M
  induction M with
  | zero =>
    intro r5 r1 l5 l1 hlen hsz hM hA hz hlt
    rw [pw_zero, Int.mul_one] at hlt
    have h0 := val_nonneg l1
    have eQ : A / val v = val r5 := by rw [← hA, Int.add_comm, Int.add_mul_ediv_left _ _ (by omega), Int.ediv_eq_zero_of_lt h0 hlt]; omega
    have eR : A % val v = val r1 := by rw [← hA, Int.add_comm, Int.add_mul_emod_self_left]; exact Int.emod_eq_of_lt h0 hlt
    have ht : val (r1.take (m + 2)) = val r1 := by
      have hs := val_split r1 (m + 2)
      rw [Nat.min_eq_left (by omega)] at hs
      have h2 := val_nonneg (l1.drop (m + 2))
      have h3 := val_nonneg (l1.take (m + 2))
      rcases Int.lt_or_le 0 (val (r1.drop (m + 2))) with hc | hc
      · have := Int.mul_le_mul_of_nonneg_left (show 1 ≤ val (r1.drop (m + 2)) by omega) (Int.le_of_lt (pw_pos (m + 2)))
        omega
      · have e : val (r1.drop (m + 2)) = 0 := by omega
        rw [e] at hs
        omega
    have hlX : (limbs (val r1).toNat).length ≤ m + 2 := limbs_len_le (by omega)
    have hX := limbs_val (val r1).toNat
    have hXv : val (limbs (val r1).toNat) = val r1 := by omega
    have hd0 : 0 ≤ val r1 / sc := Int.ediv_nonneg h0 (by omega)
    have hd1 : val r1 / sc ≤ val r1 := Int.ediv_le_self _ h0
    have hXl := val_lt (limbs_lim (val r1).toNat)
    refine ⟨r5, dig (limbs (val r1).toNat).length (val r1 / sc), ⟨l5, dig_lim _ _, rfl, by rw [dig_len]; exact hlX, eQ.symm, by rw [eR, dig_val _ _ hd0 (by omega)]⟩, dvd_h34_s _ _ _ _ _ ⟨0, ?_⟩⟩
    unfold dvd_h34_t
    rw [decide_eq_false (by omega), hN, hsc, toNat_nat, show (0 : Int).toNat = 0 from rfl, Nat.sub_zero, List.drop_zero, decide_eq_true (show (0 : Int) ≤ 0 ∧ (0 : Int) ≤ ((m + 2 : Nat) : Int) ∧ ((m + 2 : Nat) : Int) ≤ (r1.length : Int) by omega), ht, hXv,
      decide_eq_true (show LimS (r1.take (m + 2)) from ⟨l1.take _, by rw [List.length_take]; omega⟩), decide_eq_true (show bywP (limbs (val r1).toNat) sc from ⟨⟨limbs_lim _, by omega⟩, hs1, by omega⟩)]
  | succ k ih =>
    intro r5 r1 l5 l1 hlen hsz hM hA hz hlt
    have hk3 : k + (m + 2) + 1 ≤ r1.length := by omega
    have hP := pw_pos k
    have hr0 := val_nonneg l1
    have hz1 : val (r1.drop (k + (m + 2) + 1)) = 0 := by
      have hs := val_split r1 (k + (m + 2) + 1)
      rw [Nat.min_eq_left hk3] at hs
      have h2 := val_nonneg (l1.drop (k + (m + 2) + 1))
      have h3 := val_nonneg (l1.take (k + (m + 2) + 1))
      rcases Int.lt_or_le 0 (val (r1.drop (k + (m + 2) + 1))) with hc | hc
      · exfalso
        have e1 := Int.mul_le_mul_of_nonneg_left (show 1 ≤ val (r1.drop (k + (m + 2) + 1)) by omega) (Int.le_of_lt (pw_pos (k + (m + 2) + 1)))
        have e2 := Int.mul_le_mul_of_nonneg_right (Int.le_of_lt hVlt) (Int.le_of_lt (pw_pos (k + 1)))
        rw [← pw_add, show m + 2 + (k + 1) = k + (m + 2) + 1 by omega] at e2
        omega
      · omega
    have hw1 := win_val hk3 hz1
    have hwb := win_bd l1 hk3
    have hwlt : win k (m + 2) r1 < val v * 1000000000 := by
      rcases Int.lt_or_le (win k (m + 2) r1) (val v * 1000000000) with hc | hc
      · exact hc
      · exfalso
        have e1 := Int.mul_le_mul_of_nonneg_left hc (Int.le_of_lt hP)
        have e2 := val_nonneg (l1.take k)
        have e3 : val v * pw (k + 1) = pw k * (val v * 1000000000) := by rw [pw_succ]; grind
        omega
    have K := kn_of lv hvl l1 (show k + m + 3 ≤ r1.length by omega) htop hwlt
    have htk := val_lt (l1.take k)
    rw [List.length_take, Nat.min_eq_left (by omega)] at htk
    have htk0 := val_nonneg (l1.take k)
    have hk5 : k < r5.length := by omega
    have hr5 := hz k hk5 (by omega)
    have e1 : IntKind.i64.wrap ((k : Int) + ((m + 2 : Nat) : Int)) = ((k + (m + 2) : Nat) : Int) := by rw [wrap64 (by omega) (by omega)]; simp
    have e2 : IntKind.i64.wrap (((k + (m + 2) : Nat) : Int) + 1) = ((k + (m + 2) + 1 : Nat) : Int) := wrapS (by omega)
    have e3 : k + (m + 2) + 1 - k = m + 2 + 1 := by omega
    -- a digit d that leaves w - d V
    have fin : ∀ (d : Int) (r : List Int), 0 ≤ d → d < 1000000000 → Lim r → r.length = r1.length → r.take k = r1.take k → r.drop (k + (m + 2) + 1) = r1.drop (k + (m + 2) + 1) → val r = val r1 - pw k * (d * val v) → win k (m + 2) r1 - d * val v < val v →
        ∃ qL rL, (Lim qL ∧ Lim rL ∧ qL.length = r5.length ∧ rL.length ≤ m + 2 ∧ val qL = A / val v ∧ val rL = A % val v / sc) ∧ dvd_C.Runs 34 (dvd_h34 b x2 ((k : Int) - 1) (r5.set k d) r) [.d (.sl (.int .u32)) qL, .d (.sl (.int .u32)) rL] := by
      intro d r d0 d1 lr hl ht hd hval hwd
      obtain ⟨qL, rL, ⟨a1, a2, a3, a4, a5, a6⟩, a7⟩ := ih (r5.set k d) r (l5.set k ⟨d0, d1⟩) lr (by simp; omega) (by omega) (by simp; omega) (by
          rw [val_set hk5, hr5, hval, ← hA]; grind) (fun j hj hjk => by rw [List.getElem_set_ne (by omega)]; exact hz j (by simpa using hj) (by omega)) (by
          rw [hval, hw1]
          have e4 := Int.mul_le_mul_of_nonneg_left (show win k (m + 2) r1 - d * val v ≤ val v - 1 by omega) (Int.le_of_lt hP)
          rw [Int.mul_sub, Int.mul_sub, Int.mul_one] at e4
          rw [Int.mul_comm (val v)]
          omega)
      exact ⟨qL, rL, ⟨a1, a2, by simpa using a3, a4, a5, a6⟩, a7⟩
    -- what a window of a changed row is
    have wof : ∀ (r : List Int) (x : Int), Lim r → r.length = r1.length → r.take k = r1.take k → r.drop (k + (m + 2) + 1) = r1.drop (k + (m + 2) + 1) → val r = val r1 + pw k * x → win k (m + 2) r = win k (m + 2) r1 + x ∧ 0 ≤ win k (m + 2) r ∧ win k (m + 2) r < pw (m + 2 + 1) := by
      intro r x lr hl ht hd hval
      have h1 := win_val (k := k) (n := m + 2) (r := r) (by omega) (by rw [hd]; exact hz1)
      rw [ht] at h1
      have h2 := win_bd (k := k) (n := m + 2) lr (by omega)
      refine ⟨?_, h2⟩
      have : pw k * win k (m + 2) r = pw k * (win k (m + 2) r1 + x) := by rw [Int.mul_add]; omega
      exact Int.eq_of_mul_eq_mul_left (by omega) this
    have hpw : pw (k + (m + 2) + 1) = pw k * pw (m + 2 + 1) := by rw [← pw_add]; congr 1
    have xt := K.u2
    have xt1 := K.u1
    have xv := K.v1
    have hg0 : 0 ≤ (r1[k + m + 2] * 1000000000 + r1[k + m + 1]) / v[m + 1] := Int.ediv_nonneg (by omega) (by omega)
    have hg1 : (r1[k + m + 2] * 1000000000 + r1[k + m + 1]) / v[m + 1] < 2000000000 := Int.ediv_lt_of_lt_mul (by omega) (by
      have := Int.mul_le_mul_of_nonneg_left xv.1 (show (0 : Int) ≤ 2000000000 by decide)
      omega)
    have md := Int.mul_ediv_add_emod (r1[k + m + 2] * 1000000000 + r1[k + m + 1]) v[m + 1]
    have m0 := Int.emod_nonneg (r1[k + m + 2] * 1000000000 + r1[k + m + 1]) (show v[m + 1] ≠ 0 by omega)
    have m1 := Int.emod_lt_of_pos (r1[k + m + 2] * 1000000000 + r1[k + m + 1]) (show 0 < v[m + 1] by omega)
    -- the run's result does not matter for the guess
    have key : ∃ qL rL, (Lim qL ∧ Lim rL ∧ qL.length = r5.length ∧ rL.length ≤ m + 2 ∧ val qL = A / val v ∧ val rL = A % val v / sc) ∧ dvd_C.Runs 49 (dvd_h49 b x2 (k : Int) r1 r5 ((r1[k + m + 2] * 1000000000 + r1[k + m + 1]) / v[m + 1]) ((r1[k + m + 2] * 1000000000 + r1[k + m + 1]) % v[m + 1])) [.d (.sl (.int .u32)) qL, .d (.sl (.int .u32)) rL] := by
      have hex : ∃ g, 0 ≤ g ∧ g < 1000000000 ∧ g * val v ≤ win k (m + 2) r1 ∧ win k (m + 2) r1 < (g + 1) * val v := by
        have h1 := Int.mul_ediv_add_emod (win k (m + 2) r1) (val v)
        have h2 := Int.emod_nonneg (win k (m + 2) r1) (show val v ≠ 0 by omega)
        have h3 := Int.emod_lt_of_pos (win k (m + 2) r1) hV0
        refine ⟨win k (m + 2) r1 / val v, Int.ediv_nonneg hwb.1 (by omega), Int.ediv_lt_of_lt_mul hV0 (by rw [Int.mul_comm]; exact hwlt), ?_, ?_⟩
        · rw [Int.mul_comm]; omega
        · rw [Int.add_mul, Int.one_mul, Int.mul_comm]; omega
      obtain ⟨d, d0, d1, d2, d3⟩ := hex
      have dv0 : 0 ≤ d * val v := Int.mul_nonneg d0 (by omega)
      -- the row that the digit leaves
      have hrow : ∃ r, Lim r ∧ r.length = r1.length ∧ r.take k = r1.take k ∧ r.drop (k + (m + 2) + 1) = r1.drop (k + (m + 2) + 1) ∧ val r = val r1 - pw k * (d * val v) := by
        refine ⟨r1.take k ++ (dig (m + 2 + 1) (win k (m + 2) r1 - d * val v) ++ r1.drop (k + (m + 2) + 1)), (l1.take k).append ((dig_lim _ _).append (l1.drop _)), by simp [dig_len]; omega, ?_, ?_, ?_⟩
        · rw [List.take_append_of_le_length (by simp; omega), List.take_take, Nat.min_self]
        · rw [← List.append_assoc, List.drop_append_of_le_length (by simp [dig_len]; omega), List.drop_eq_nil_of_le (by simp [dig_len]; omega), List.nil_append]
        · rw [val_append, val_append, hz1, dig_val _ _ (by omega) (by omega), List.length_take, Nat.min_eq_left (by omega), hw1]
          grind
      obtain ⟨rr, q1, q2, q3, q4, q5⟩ := hrow
      obtain ⟨qL, rL, hf, hrun⟩ := fin d rr d0 d1 q1 q2 q3 q4 q5 (by rw [Int.add_mul, Int.one_mul] at d3; omega)
      refine ⟨qL, rL, hf, guess_loop b x2 v m hN hv lv hvl k r1 r5 (by omega) (by omega) _ K ?_ 2000000000 _ _ (by omega) hg0 (by omega) m0 (by omega) (by rw [Int.mul_comm]; omega) (K.first rfl)⟩
      intro g g0 g1 hg2 hg3
      have same : ∀ r, Lim r → r.length = r1.length → r.take k = r1.take k → r.drop (k + (m + 2) + 1) = r1.drop (k + (m + 2) + 1) → val r = val r1 - pw k * (d * val v) → r = rr := fun r a1 a2 a3 a4 a5 => val_inj a1 q1 (by omega) (by omega)
      refine sub_loop b x2 v m hN hv lv hvl k r1 r5 g ⟨g0, g1⟩ hk3 (by omega) _ ?_ ?_ (m + 2 + 1) 0 0 0 r1 (by omega) (by omega) (by omega) (fun _ => rfl) (by omega) (by omega) l1 rfl rfl rfl (by simp [val])
      · intro r a1 a2 a3 a4 a5
        obtain ⟨w1, w2, w3⟩ := wof r (-(g * val v)) a1 a2 a3 a4 (by rw [a5, Int.mul_neg]; omega)
        have hgd : g = d := by
          have h1 : ¬ g < d := fun hc => by
            have := Int.mul_le_mul_of_nonneg_right (show g + 1 ≤ d by omega) (Int.le_of_lt hV0)
            omega
          have h2 : ¬ d < g := fun hc => by
            have := Int.mul_le_mul_of_nonneg_right (show d + 1 ≤ g by omega) (Int.le_of_lt hV0)
            omega
          omega
        subst hgd
        rw [same r a1 a2 a3 a4 a5]
        obtain ⟨q, hq⟩ := hrun
        refine ⟨q, ?_⟩
        unfold dvd_h151_8u1_t
        rw [hv, hN, e1, e2, toNat_nat, toNat_nat, e3, ge_dec (Nat.le_refl _), decide_eq_false (show ¬ (0 : Int) > 0 by decide), getI_nat r5 k, List.getElem?_eq_getElem hk5, wr32 (x := g) (by omega) (by omega), wrap64 (x := (k : Int) - 1) (by omega) (by omega)]
        exact hq
      · intro r a1 a2 a3 a4 a5
        obtain ⟨w1, w2, w3⟩ := wof r (-(g * val v) + pw (m + 2 + 1)) a1 a2 a3 a4 (by rw [a5, hpw, Int.mul_add, Int.mul_neg]; omega)
        have hwg : win k (m + 2) r1 < g * val v := by omega
        have hgd : g = d + 1 := by
          have h1 : ¬ g < d + 1 := fun hc => by
            have := Int.mul_le_mul_of_nonneg_right (show g ≤ d by omega) (Int.le_of_lt hV0)
            omega
          have h2 : ¬ d + 1 < g := fun hc => by
            have := Int.mul_le_mul_of_nonneg_right (show d + 2 ≤ g by omega) (Int.le_of_lt hV0)
            rw [Int.add_mul] at this d3
            omega
          omega
        subst hgd
        have hres : dvd_C.Runs 5 (dvd_h152_5u1 b x2 (k : Int) r5 (d + 1) 0 0 r) [.d (.sl (.int .u32)) qL, .d (.sl (.int .u32)) rL] := by
          refine res_loop b x2 v m hN hv lv hvl k r r5 (d + 1) (by omega) (by omega) _ ?_ (m + 2 + 1) 0 0 r (by omega) (by omega) (by omega) a1 rfl rfl rfl (by simp [val])
          intro r' c b1 b2 b3 b4 c0 c1 b5
          obtain ⟨u1, u2, u3⟩ := wof r' (-((d + 1) * val v) + pw (m + 2 + 1) + val v - pw (m + 2 + 1) * c) b1 (by omega) (b3.trans a3) (b4.trans a4) (by rw [b5, a5, hpw, Int.mul_sub, Int.mul_add, Int.mul_add, Int.mul_neg]; grind)
          have hc : c = 1 := by
            rcases (show c = 0 ∨ c = 1 by omega) with hc | hc
            · exfalso
              subst hc
              rw [Int.mul_zero, Int.sub_zero] at u1
              rw [Int.add_mul, Int.one_mul] at u1
              omega
            · exact hc
          subst hc
          rw [same r' b1 (by omega) (b3.trans a3) (b4.trans a4) (by rw [b5, a5]; grind)]
          obtain ⟨q, hq⟩ := hrun
          refine ⟨q, ?_⟩
          unfold dvd_h152_5u1_t
          rw [hN, e1, e2, toNat_nat, toNat_nat, e3, ge_dec (Nat.le_refl _), getI_nat r5 k, List.getElem?_eq_getElem hk5, show d + 1 - 1 = d by omega, wr64 (x := d) (by omega) (by omega), wr32 (x := d) (by omega) (by omega), wrap64 (x := (k : Int) - 1) (by omega) (by omega)]
          exact hq
        obtain ⟨q, hq⟩ := hres
        refine ⟨q, ?_⟩
        unfold dvd_h151_8u1_t
        rw [hv, hN, e1, e2, toNat_nat, toNat_nat, e3, ge_dec (Nat.le_refl _), decide_eq_true (show (1 : Int) > 0 by decide), decide_eq_true (show (0 : Int) ≤ (k : Int) ∧ (k : Int) ≤ ((k + (m + 2) + 1 : Nat) : Int) ∧ ((k + (m + 2) + 1 : Nat) : Int) ≤ (r.length : Int) by omega)]
        exact hq
    obtain ⟨qL, rL, hf, q, hq⟩ := key
    refine ⟨qL, rL, hf, dvd_h34_s _ _ _ _ _ ⟨q, ?_⟩⟩
    have e4 : IntKind.i64.wrap (((k + (m + 2) : Nat) : Int) - 1) = ((k + m + 1 : Nat) : Int) := by rw [wrap64 (by omega) (by omega)]; omega
    have e5 : IntKind.i64.wrap (((m + 2 : Nat) : Int) - 1) = ((m + 1 : Nat) : Int) := by rw [wrap64 (by omega) (by omega)]; omega
    unfold dvd_h34_t
    rw [show ((k + 1 : Nat) : Int) - 1 = (k : Int) by omega, decide_eq_true (by omega), hv, hN, e1, e4, e5, getI_nat r1 (k + (m + 2)), toNat_nat, List.getElem?_eq_getElem (show k + (m + 2) < r1.length by omega), getI_nat r1 (k + m + 1), toNat_nat, List.getElem?_eq_getElem (show k + m + 1 < r1.length by omega), getI_nat v (m + 1), List.getElem?_eq_getElem (show m + 1 < v.length by omega)]
    dsimp only
    rw [wr64 (x := v[m + 1]) (by omega) (by omega), decide_eq_false (show ¬ v[m + 1] = 0 by omega)]
    dsimp only
    have e6 : r1[k + (m + 2)] = r1[k + m + 2] := rfl
    rw [e6, wr64 (x := r1[k + m + 2]) (by omega) (by omega), wr64 (x := r1[k + m + 1]) (by omega) (by omega), wr64 (x := r1[k + m + 2] * 1000000000) (by omega) (by omega), wr64 (x := r1[k + m + 2] * 1000000000 + r1[k + m + 1]) (by omega) (by omega), tdivP (by omega), tmodP (by omega), wr64 (x := (r1[k + m + 2] * 1000000000 + r1[k + m + 1]) / v[m + 1]) (by omega) (by omega)]
    exact hq
end
end Go.Proofs.YtcaiedfkohigjaaGreat
/- integer: divide, its contract. -/
namespace Go.Proofs.YtcaiedfkohigjaaGreat
open Go.RowKit
def dvdP (a b : List Int) : Prop := (Lim a ∧ a.length ≤ 100000000) ∧ (Lim b ∧ b.length ≤ 100000000) ∧ 0 < val b
instance (a b : List Int) : Decidable (dvdP a b) := by unfold dvdP; infer_instance
structure DvdR (a b q r : List Int) : Prop where
  lq : Lim q
  lr : Lim r
  sq : q.length ≤ 200000000
  sr : r.length ≤ 200000000
  q : val q = val a / val b
  r : val r = val a % val b
theorem val_one (x : Int) : val [x] = x := by simp [val]
theorem limbs_top {l : List Int} (h : can l) {m : Nat} (hl : l.length = m + 1) : 1 ≤ l[m] := by
  have h2 := h.2
  rw [List.getLast?_eq_getElem?, hl, Nat.add_sub_cancel, List.getElem?_eq_getElem (by omega)] at h2
  have h1 := h.1.get (show m < l.length by omega)
  have : l[m] ≠ 0 := fun e => h2 (by rw [e])
  omega
set_option maxHeartbeats 1000000 in
theorem dvd_ex (a b : List Int) (h : dvdP a b) : ∃ q r, DvdR a b q r ∧ Con Tryz.prog 132 [.d (.sl (.int .u32)) a, .d (.sl (.int .u32)) b] [.d (.sl (.int .u32)) q, .d (.sl (.int .u32)) r] := by
  obtain ⟨⟨la, sa⟩, ⟨lb, sb⟩, hb⟩ := h
  have ha : LimS a := ⟨la, by omega⟩
  have hb' : LimS b := ⟨lb, by omega⟩
  have va := limbs_val (val a).toNat
  have vb := limbs_val (val b).toNat
  have na := val_nonneg la
  have va' : val (limbs (val a).toNat) = val a := by omega
  have vb' : val (limbs (val b).toNat) = val b := by omega
  have lna := limbs_len_of la
  have lnb := limbs_len_of lb
  have ca := limbs_can (val a).toNat
  have cb := limbs_can (val b).toNat
  have hla : LimS (limbs (val a).toNat) := ⟨ca.1, by omega⟩
  have hlb : LimS (limbs (val b).toNat) := ⟨cb.1, by omega⟩
  have go : ∀ {q r}, dvd_C.Res 132 [.d (.sl (.int .u32)) a, .d (.sl (.int .u32)) b] [.d (.sl (.int .u32)) q, .d (.sl (.int .u32)) r] → Con Tryz.prog 132 [.d (.sl (.int .u32)) a, .d (.sl (.int .u32)) b] [.d (.sl (.int .u32)) q, .d (.sl (.int .u32)) r] := fun hr => Ctx.Res.con (C := dvd_C) (ctx_ok envBg2_ok) hr (fn := Tryz.f132) (by kernel_rfl) (by kernel_rfl)
  have hb0 : limbs (val b).toNat ≠ [] := fun e => by rw [limbs_nil] at e; omega
  by_cases h1 : (limbs (val b).toNat).length = 1
  · have t1 := limbs_top cb (m := 0) h1
    have t2 := cb.1.get (show 0 < (limbs (val b).toNat).length by omega)
    have e0 : (limbs (val b).toNat)[0] = val b := by
      obtain ⟨x, hx⟩ := List.length_eq_one_iff.1 h1
      have := vb'
      rw [hx, val_one] at this
      simp [hx, this]
    have hq0 : 0 ≤ val a / val b := Int.ediv_nonneg na (by omega)
    have hq1 : val a / val b ≤ val a := Int.ediv_le_self _ na
    have hr0 := Int.emod_nonneg (val a) (show val b ≠ 0 by omega)
    have hr1 := Int.emod_lt_of_pos (val a) hb
    have hal := val_lt ca.1
    refine ⟨dig (limbs (val a).toNat).length (val a / val b), [val a % val b], ⟨dig_lim _ _, Lim.cons ⟨hr0, by omega⟩ Lim.nil, by rw [dig_len]; omega, by simp, dig_val _ _ hq0 (by omega), val_one _⟩, go (dvd_s _ _ ⟨0, ?_⟩)⟩
    unfold dvd_t
    rw [decide_eq_true ha, decide_eq_true hb', h1, getI_zero, List.getElem?_eq_getElem (show 0 < (limbs (val b).toNat).length by omega), e0]
    dsimp only
    rw [decide_eq_true (show bywP (limbs (val a).toNat) (val b) from ⟨hla, by omega, by omega⟩), va']
    rfl
  have hlen : 2 ≤ (limbs (val b).toNat).length := by
    rcases Nat.lt_or_ge (limbs (val b).toNat).length 2 with h | h
    · exfalso
      have : (limbs (val b).toNat).length ≠ 0 := fun e => hb0 (List.eq_nil_of_length_eq_zero e)
      omega
    · exact h
  by_cases hlt : val a < val b
  · refine ⟨[], limbs (val a).toNat, ⟨Lim.nil, ca.1, by simp, by omega, ?_, ?_⟩, go (dvd_s _ _ ⟨0, ?_⟩)⟩
    · rw [Int.ediv_eq_zero_of_lt na hlt]; rfl
    · rw [Int.emod_eq_of_lt na hlt]; exact va'
    · unfold dvd_t
      rw [decide_eq_true ha, decide_eq_true hb', show (((limbs (val b).toNat).length : Int) == 1) = false by simp; omega, decide_eq_true (show LimS (limbs (val a).toNat) ∧ LimS (limbs (val b).toNat) from ⟨hla, hlb⟩), va', vb', cmpI_lt hlt, decide_eq_true (show (limbs (val a).toNat).length * 4 ≤ 140737488355328 ∧ (limbs (val a).toNat).length ≤ 140737488355328 by omega)]
      rfl
  · obtain ⟨m, hm⟩ : ∃ m, (limbs (val b).toNat).length = m + 2 := ⟨(limbs (val b).toNat).length - 2, by omega⟩
    have hxm : m + 1 < (limbs (val b).toNat).length := by omega
    have t1 := limbs_top cb (m := m + 1) hm
    have t2 := cb.1.get hxm
    generalize hx2 : (limbs (val b).toNat)[m + 1] = x2 at t1 t2
    obtain ⟨s1, s2, s3, s4⟩ := scale_ok t1 t2.2
    have esc : IntKind.u32.wrap (IntKind.u64.wrap (Int.tdiv 1000000000 (IntKind.u64.wrap ((IntKind.u64.wrap x2) + 1)))) = 1000000000 / (x2 + 1) := by
      rw [wr64 (x := x2) (by omega) (by omega), wr64 (x := x2 + 1) (by omega) (by omega), tdivP (by omega), wr64 (x := 1000000000 / (x2 + 1)) (by omega) (by omega), wr32 (x := 1000000000 / (x2 + 1)) (by omega) (by omega)]
    generalize hsc : 1000000000 / (x2 + 1) = sc at s1 s2 s3 s4 esc
    have hsl : LimS [sc] := ⟨Lim.cons ⟨by omega, by omega⟩ Lim.nil, by simp⟩
    have hbl := val_lt cb.1
    rw [vb', hm] at hbl
    have hP := pw_pos (m + 1)
    have hbtop := val_take_succ hxm
    rw [List.take_of_length_le (by omega), vb', hx2] at hbtop
    have hbt0 := val_nonneg (cb.1.take (m + 1))
    have hbt1 := val_lt (cb.1.take (m + 1))
    rw [List.length_take, Nat.min_eq_left (by omega)] at hbt1
    -- the divisor, scaled
    have hVhi : val b * sc < pw (m + 2) := by
      have e1 : val b * sc < (pw (m + 1) * (x2 + 1)) * sc := Int.mul_lt_mul_of_pos_right (by rw [Int.mul_add, Int.mul_one]; omega) (by omega)
      have e2 : (pw (m + 1) * (x2 + 1)) * sc = pw (m + 1) * ((x2 + 1) * sc) := Int.mul_assoc _ _ _
      have e3 : pw (m + 1) * ((x2 + 1) * sc) ≤ pw (m + 1) * 1000000000 := Int.mul_le_mul_of_nonneg_left s3 (Int.le_of_lt hP)
      rw [pw_succ]
      omega
    have hVlo : pw (m + 1) * 500000000 ≤ val b * sc := by
      have e1 : pw (m + 1) * x2 * sc ≤ val b * sc := Int.mul_le_mul_of_nonneg_right (by omega) (by omega)
      have e2 : pw (m + 1) * x2 * sc = pw (m + 1) * (x2 * sc) := Int.mul_assoc _ _ _
      have e3 : pw (m + 1) * 500000000 ≤ pw (m + 1) * (x2 * sc) := Int.mul_le_mul_of_nonneg_left s4 (Int.le_of_lt hP)
      omega
    have hV0 : 0 < val b * sc := Int.mul_pos hb (by omega)
    have edv : val (dig (m + 2 + 1) (val b * sc)) = val b * sc := dig_val _ _ (by omega) (by rw [pw_succ]; omega)
    obtain ⟨v, hv⟩ : ∃ v, limbs (val b * sc).toNat = v := ⟨_, rfl⟩
    have cv := limbs_can (val b * sc).toNat
    have vv := limbs_val (val b * sc).toNat
    rw [hv] at cv vv
    have hvv : val v = val b * sc := by omega
    have hvl : v.length = m + 2 := by
      have h1 : v.length ≤ m + 2 := by rw [← hv]; exact limbs_len_le (by omega)
      have h2 : m + 1 < v.length := by rw [← hv]; exact limbs_len_ge (by omega)
      omega
    have htop : 500000000 ≤ v[m + 1] := by
      rcases Int.lt_or_le v[m + 1] 500000000 with hc | hc
      · exfalso
        have e1 := val_take_succ (l := v) (n := m + 1) (by omega)
        rw [List.take_of_length_le (by omega), hvv] at e1
        have e2 := val_lt (cv.1.take (m + 1))
        rw [List.length_take, Nat.min_eq_left (by omega)] at e2
        have e3 := Int.mul_le_mul_of_nonneg_left (show v[m + 1] ≤ 499999999 by omega) (Int.le_of_lt hP)
        omega
      · exact hc
    -- the dividend, scaled
    have hal := val_lt ca.1
    rw [va'] at hal
    have hA0 : 0 ≤ val a * sc := Int.mul_nonneg na (by omega)
    have hA1 : val a * sc < pw ((limbs (val a).toNat).length + 1) := by
      have e1 : val a * sc ≤ pw (limbs (val a).toNat).length * sc := Int.mul_le_mul_of_nonneg_right (by omega) (by omega)
      have e2 : pw (limbs (val a).toNat).length * sc < pw (limbs (val a).toNat).length * 1000000000 := Int.mul_lt_mul_of_pos_left (by omega) (pw_pos _)
      rw [pw_succ]
      omega
    have lab : m + 2 ≤ (limbs (val a).toNat).length := by
      rw [← hm]
      rcases Nat.lt_or_ge (limbs (val a).toNat).length (limbs (val b).toNat).length with hc | hc
      · have := len_cmp hc; omega
      · exact hc
    generalize hlA : (limbs (val a).toNat).length = L at *
    have hdl : (dig (L + 1) (val a * sc) ++ [0]).length = L + 2 := by simp [dig_len]
    have hdv : val (dig (L + 1) (val a * sc) ++ [0]) = val a * sc := by rw [val_append, dig_val _ _ hA0 hA1]; simp [val]
    have hmul := hvv
    obtain ⟨q, r, ⟨f1, f2, f3, f4, f5, f6⟩, n, hrun⟩ := dvd_main b x2 v m hm (by rw [esc, hm, vb', val_one]; simp only [List.length_singleton]; rw [edv]; exact hv) cv.1 hvl sc esc s1 s2 htop (val a * sc) (L - m) (List.replicate (L - m) 0) (dig (L + 1) (val a * sc) ++ [0])
      (Lim.rep _) ((dig_lim _ _).append (Lim.cons (by decide) Lim.nil)) (by rw [hdl]; simp; omega) (by rw [hdl]; omega) (by simp) (by rw [val_rep, hdv]; omega) (fun j hj _ => by simp) (by
        rw [hdv, hvv]
        have e1 : pw (m + 1) * 500000000 * pw (L - m) ≤ val b * sc * pw (L - m) := Int.mul_le_mul_of_nonneg_right hVlo (Int.le_of_lt (pw_pos _))
        have e2 : pw (m + 1) * 500000000 * pw (L - m) = pw (L + 1) * 500000000 := by
          rw [show L + 1 = m + 1 + (L - m) by omega, pw_add (m + 1) (L - m), Int.mul_right_comm]
        have := pw_pos (L + 1)
        omega)
    have hq : val a * sc / (val b * sc) = val a / val b := Int.mul_ediv_mul_of_pos_left _ _ (by omega)
    have hr : val a * sc % (val b * sc) / sc = val a % val b := by
      rw [Int.mul_comm (val a), Int.mul_comm (val b), Int.mul_emod_mul_of_pos _ _ (by omega), Int.mul_comm]
      exact Int.mul_ediv_cancel _ (by omega)
    rw [hvv] at f5 f6
    rw [hq] at f5
    rw [hr] at f6
    refine ⟨q, r, ⟨f1, f2, by rw [f3]; simp; omega, by omega, f5, f6⟩, go (dvd_s _ _ ⟨n, ?_⟩)⟩
    unfold dvd_t
    have e1 : IntKind.i64.wrap (((m + 2 : Nat) : Int) - 1) = ((m + 1 : Nat) : Int) := by rw [wrap64 (by omega) (by omega)]; omega
    have e2 : IntKind.i64.wrap (((L + 2 : Nat) : Int) - ((m + 2 : Nat) : Int)) = ((L - m : Nat) : Int) := by rw [wrap64 (by omega) (by omega)]; omega
    have e3 : IntKind.i64.wrap (((L - m : Nat) : Int) - 1) = ((L - m : Nat) : Int) - 1 := wrap64 (by omega) (by omega)
    rw [decide_eq_true ha, decide_eq_true hb', hm, show (((m + 2 : Nat) : Int) == 1) = false by simp; omega, decide_eq_true (show LimS (limbs (val a).toNat) ∧ LimS (limbs (val b).toNat) from ⟨hla, hlb⟩), va', vb', show decide (cmpI (val a) (val b) < 0) = false by
      rcases Int.lt_or_le (val b) (val a) with hc | hc
      · rw [cmpI_gt hc]; rfl
      · rw [show val a = val b by omega, cmpI_eq]; rfl, e1, getI_nat (limbs (val b).toNat) (m + 1), List.getElem?_eq_getElem hxm, hx2]
    dsimp only
    rw [esc, wr64 (x := x2) (by omega) (by omega), wr64 (x := x2 + 1) (by omega) (by omega), decide_eq_false (show ¬ x2 + 1 = 0 by omega), decide_eq_true (show LimS (limbs (val a).toNat) ∧ LimS [sc] from ⟨hla, hsl⟩), decide_eq_true (show LimS (limbs (val b).toNat) ∧ LimS [sc] from ⟨hlb, hsl⟩), val_one, hlA]
    rw [List.length_singleton, List.length_singleton, hdl, dig_len (L + 1)]
    rw [decide_eq_true (show (L + 1 + 1) * 4 ≤ 140737488355328 ∧ L + 1 + 1 ≤ 140737488355328 by omega), decide_eq_true (show LimS (dig (m + 2 + 1) (val b * sc)) from dig_limS (by omega) _), e2, mk_ok (by omega), toNat_nat, e3]
    exact hrun
end Go.Proofs.YtcaiedfkohigjaaGreat
/- integer: Sign, Cmp, Add, Sub, Neg, Mul, DivMod. -/
namespace Go.Proofs.YtcaiedfkohigjaaGreat
open Go.RowKit
abbrev BI := Bool × List Int
def okI (x : BI) : Prop := can x.2 ∧ (x.1 = true → x.2 ≠ []) ∧ x.2.length ≤ 1000000
instance (x : BI) : Decidable (okI x) := by unfold okI; infer_instance
theorem decI_sgn (x : BI) : decI x = sgnI x.1 (val x.2) := rfl
theorem okI_eq {x : BI} (h : okI x) : x = encI (decI x) := by
  obtain ⟨h1, h2, h3⟩ := h
  have h0 := val_nonneg h1.1
  rw [decI_sgn, encI_sgn _ h0, ← can_eq h1]
  refine Prod.ext ?_ rfl
  show x.1 = (x.1 && decide (0 < val x.2))
  cases hx : x.1
  · rfl
  · rw [decide_eq_true (can_val_pos h1 (h2 hx))]; rfl
/-- The number of limbs. -/
def szI (z : Int) : Nat := (limbs z.natAbs).length
theorem okI_enc {z : Int} (h : szI z ≤ 1000000) : okI (encI z) := by
  refine ⟨limbs_can _, fun e => ?_, h⟩
  unfold encI at e ⊢
  simp only [decide_eq_true_eq] at e
  intro e'
  rw [limbs_nil] at e'
  omega
theorem szI_le {z : Int} {k : Nat} (h1 : -pw k < z) (h2 : z < pw k) : szI z ≤ k := limbs_len_le (by omega)
theorem szI_lt (z : Int) : -pw (szI z) < z ∧ z < pw (szI z) := by
  have h := val_lt (limbs_lim z.natAbs)
  rw [limbs_val] at h
  unfold szI
  omega
theorem szI_bd {z : Int} {k : Nat} (h : szI z ≤ k) : -pw k < z ∧ z < pw k := by
  have h1 := szI_lt z
  have h2 := pw_mono h
  omega
theorem szI_neg (z : Int) : szI (-z) = szI z := by unfold szI; rw [Int.natAbs_neg]
theorem szI_add {a b : Int} {k : Nat} (h1 : szI a ≤ k) (h2 : szI b ≤ k) : szI (a + b) ≤ k + 1 := by
  have e1 := szI_bd h1
  have e2 := szI_bd h2
  have hp := pw_pos k
  exact szI_le (by rw [pw_succ]; omega) (by rw [pw_succ]; omega)
theorem szI_sub {a b : Int} {k : Nat} (h1 : szI a ≤ k) (h2 : szI b ≤ k) : szI (a - b) ≤ k + 1 := by
  rw [Int.sub_eq_add_neg]; exact szI_add h1 (by rw [szI_neg]; exact h2)
theorem szI_mul {a b : Int} {j k : Nat} (h1 : szI a ≤ j) (h2 : szI b ≤ k) : szI (a * b) ≤ j + k := by
  have e1 := szI_bd h1
  have e2 := szI_bd h2
  have h : (a * b).natAbs < (pw (j + k)).toNat := by
    rw [Int.natAbs_mul, pw_add]
    have p1 := pw_pos j
    have p2 := pw_pos k
    have : (pw j * pw k).toNat = (pw j).toNat * (pw k).toNat := Int.toNat_mul (by omega) (by omega)
    rw [this]
    exact Nat.mul_lt_mul'' (by omega) (by omega)
  have hp := pw_pos (j + k)
  exact szI_le (by omega) (by omega)
theorem szI_of_le {a b : Int} (h : a.natAbs ≤ b.natAbs) : szI a ≤ szI b := by
  have := szI_lt b
  exact szI_le (by omega) (by omega)
theorem okI_sz {x : BI} (h : okI x) : szI (decI x) ≤ 1000000 := by
  have := okI_eq h
  have h3 := h.2.2
  unfold szI
  rw [this] at h3
  exact h3
theorem okI_lim {x : BI} (h : okI x) : LimS x.2 := ⟨h.1.1, by have := h.2.2; omega⟩
theorem okI_val {x : BI} (h : okI x) : 0 ≤ val x.2 ∧ (x.1 = true → 0 < val x.2) ∧ (x.2 = [] ↔ val x.2 = 0) := by
  refine ⟨val_nonneg h.1.1, fun e => can_val_pos h.1 (h.2.1 e), ⟨fun e => by rw [e]; rfl, fun e => ?_⟩⟩
  rcases List.eq_nil_or_concat x.2 with h' | ⟨l, y, h'⟩
  · exact h'
  · have := can_val_pos h.1 (by rw [h']; simp)
    omega
def fri_sp : Spec := { keep := false, run := fun _ args k => match args with
  | [.d (.int .i64) n] => match decide (i64P n) with
    | true => k [RV.d (.st (.pair .bool (.sl (.int .u32)))) (encI n)]
    | false => none
  | _ => none }
theorem fri_spec : callable Tryz.prog 60 = true ∧ SpecOk Tryz.prog 60 fri_sp ∧ ∀ g, fri_sp.mut_ = some g → MCon Tryz.prog 60 g := by
  refine ⟨by kernel_rfl, fun R args k r h => ?_, fun g h => by simp [fri_sp] at h⟩
  unfold fri_sp at h
  dsimp only at h
  split at h <;> try (cases h; done)
  split at h <;> try (cases h; done)
  rename_i hd
  exact ⟨_, h, fri_con _ (of_decide_eq_true hd)⟩

noncomputable def dvQ (a b : List Int) : List Int := if h : dvdP a b then Classical.choose (dvd_ex a b h) else []
noncomputable def dvR (a b : List Int) : List Int := if h : dvdP a b then Classical.choose (Classical.choose_spec (dvd_ex a b h)) else []
theorem dv_ok {a b : List Int} (h : dvdP a b) : DvdR a b (dvQ a b) (dvR a b) := by
  unfold dvQ dvR
  rw [dif_pos h, dif_pos h]
  exact (Classical.choose_spec (Classical.choose_spec (dvd_ex a b h))).1
theorem dvd_con (a b : List Int) (h : dvdP a b) : Con Tryz.prog 132 [.d (.sl (.int .u32)) a, .d (.sl (.int .u32)) b] [.d (.sl (.int .u32)) (dvQ a b), .d (.sl (.int .u32)) (dvR a b)] := by
  unfold dvQ dvR
  rw [dif_pos h, dif_pos h]
  exact (Classical.choose_spec (Classical.choose_spec (dvd_ex a b h))).2
noncomputable def dvd_sp : Spec := { keep := false, run := fun _ args k => match args with
  | [.d (.sl (.int .u32)) a, .d (.sl (.int .u32)) b] => match decide (dvdP a b) with
    | true => k [RV.d (.sl (.int .u32)) (dvQ a b), RV.d (.sl (.int .u32)) (dvR a b)]
    | false => none
  | _ => none }
theorem dvd_spec : callable Tryz.prog 132 = true ∧ SpecOk Tryz.prog 132 dvd_sp ∧ ∀ g, dvd_sp.mut_ = some g → MCon Tryz.prog 132 g := by
  refine ⟨by kernel_rfl, fun R args k r h => ?_, fun g h => by simp [dvd_sp] at h⟩
  unfold dvd_sp at h
  dsimp only at h
  split at h <;> try (cases h; done)
  split at h <;> try (cases h; done)
  rename_i hd
  exact ⟨_, h, dvd_con _ _ (of_decide_eq_true hd)⟩

noncomputable def envBg3 : Env := [(81, sgd_sp), (89, spl_sp), (158, pls_sp), (159, mns_sp), (82, tms_sp), (80, cpr_sp), (60, fri_sp), (132, dvd_sp)]
theorem envBg3_ok : EnvAll Tryz.prog envBg3 := ⟨sgd_spec, spl_spec, pls_spec, mns_spec, tms_spec, cpr_spec, fri_spec, dvd_spec, trivial⟩
def icm_nt : NT := []
noncomputable def icm_C : Ctx := ⟨Tryz.prog, ft, tys, envBg3, icm_nt⟩
def icm_t (_k : Nat → Cfg → Option (List RV)) (x : Bool × List Int) (y : Bool × List Int) : Option (List RV) := match !(x.1 == y.1) with | true => (match x.1 with | true => some [RV.d (.int .i64) (-1)] | false => some [RV.d (.int .i64) 1]) | false => (match x.1 with | true => (match decide (LimS y.2 ∧ LimS x.2) with | true => some [RV.d (.int .i64) (cmpI (val y.2) (val x.2))] | false => none) | false => (match decide (LimS x.2 ∧ LimS y.2) with | true => some [RV.d (.int .i64) (cmpI (val x.2) (val y.2))] | false => none))
theorem icm_eq (k : Nat → Cfg → Option (List RV)) (x : Bool × List Int) (y : Bool × List Int) : go Tryz.prog ft tys envBg3 icm_nt k 4000 (start 55 [.d (.st (.pair .bool (.sl (.int .u32)))) x, .d (.st (.pair .bool (.sl (.int .u32)))) y]) (.node 0) = icm_t k x y := (go2_eq _ _ _ _ _ _ _ _ _).symm.trans (show go2 Tryz.prog ft tys envBg3 icm_nt k 4000 (start 55 [.d (.st (.pair .bool (.sl (.int .u32)))) x, .d (.st (.pair .bool (.sl (.int .u32)))) y]) (.node 0) = icm_t k x y by kernel_rfl)
theorem icm_s (x : Bool × List Int) (y : Bool × List Int) {rX : List RV} (hX : ∃ nX, icm_t (icm_C.k nX) x y = some rX) : icm_C.Res 55 [.d (.st (.pair .bool (.sl (.int .u32)))) x, .d (.st (.pair .bool (.sl (.int .u32)))) y] rX := by
  obtain ⟨nX, hX⟩ := hX
  exact ⟨nX, (icm_eq _ x y).trans hX⟩
def iad_nt : NT := []
noncomputable def iad_C : Ctx := ⟨Tryz.prog, ft, tys, envBg3, iad_nt⟩
def iad_t (_k : Nat → Cfg → Option (List RV)) (x : Bool × List Int) (y : Bool × List Int) : Option (List RV) := match x.1 == y.1 with | true => (match decide (LimS x.2 ∧ LimS y.2) with | true => (match decide (LimS (dig (max x.2.length y.2.length + 1) (val x.2 + val y.2))) with | true => some [RV.d (.st (.pair .bool (.sl (.int .u32)))) (encI (sgnI x.1 (val (dig (max x.2.length y.2.length + 1) (val x.2 + val y.2)))))] | false => none) | false => none) | false => (match decide (LimS x.2 ∧ LimS y.2) with | true => (match decide ((cmpI (val x.2) (val y.2)) < 0) with | true => (match decide (mnsP y.2 x.2) with | true => (match decide (LimS (dig y.2.length (val y.2 - val x.2))) with | true => some [RV.d (.st (.pair .bool (.sl (.int .u32)))) (encI (sgnI y.1 (val (dig y.2.length (val y.2 - val x.2)))))] | false => none) | false => none) | false => (match decide (mnsP x.2 y.2) with | true => (match decide (LimS (dig x.2.length (val x.2 - val y.2))) with | true => some [RV.d (.st (.pair .bool (.sl (.int .u32)))) (encI (sgnI x.1 (val (dig x.2.length (val x.2 - val y.2)))))] | false => none) | false => none)) | false => none)
theorem iad_eq (k : Nat → Cfg → Option (List RV)) (x : Bool × List Int) (y : Bool × List Int) : go Tryz.prog ft tys envBg3 iad_nt k 4000 (start 144 [.d (.st (.pair .bool (.sl (.int .u32)))) x, .d (.st (.pair .bool (.sl (.int .u32)))) y]) (.node 0) = iad_t k x y := (go2_eq _ _ _ _ _ _ _ _ _).symm.trans (show go2 Tryz.prog ft tys envBg3 iad_nt k 4000 (start 144 [.d (.st (.pair .bool (.sl (.int .u32)))) x, .d (.st (.pair .bool (.sl (.int .u32)))) y]) (.node 0) = iad_t k x y by kernel_rfl)
theorem iad_s (x : Bool × List Int) (y : Bool × List Int) {rX : List RV} (hX : ∃ nX, iad_t (iad_C.k nX) x y = some rX) : iad_C.Res 144 [.d (.st (.pair .bool (.sl (.int .u32)))) x, .d (.st (.pair .bool (.sl (.int .u32)))) y] rX := by
  obtain ⟨nX, hX⟩ := hX
  exact ⟨nX, (iad_eq _ x y).trans hX⟩
def imu_nt : NT := []
noncomputable def imu_C : Ctx := ⟨Tryz.prog, ft, tys, envBg3, imu_nt⟩
def imu_t (_k : Nat → Cfg → Option (List RV)) (x : Bool × List Int) (y : Bool × List Int) : Option (List RV) := match decide (LimS x.2 ∧ LimS y.2) with | true => (match decide (LimS (dig (x.2.length + y.2.length) (val x.2 * val y.2))) with | true => some [RV.d (.st (.pair .bool (.sl (.int .u32)))) (encI (sgnI (!(x.1 == y.1)) (val (dig (x.2.length + y.2.length) (val x.2 * val y.2)))))] | false => none) | false => none
theorem imu_eq (k : Nat → Cfg → Option (List RV)) (x : Bool × List Int) (y : Bool × List Int) : go Tryz.prog ft tys envBg3 imu_nt k 4000 (start 56 [.d (.st (.pair .bool (.sl (.int .u32)))) x, .d (.st (.pair .bool (.sl (.int .u32)))) y]) (.node 0) = imu_t k x y := (go2_eq _ _ _ _ _ _ _ _ _).symm.trans (show go2 Tryz.prog ft tys envBg3 imu_nt k 4000 (start 56 [.d (.st (.pair .bool (.sl (.int .u32)))) x, .d (.st (.pair .bool (.sl (.int .u32)))) y]) (.node 0) = imu_t k x y by kernel_rfl)
theorem imu_s (x : Bool × List Int) (y : Bool × List Int) {rX : List RV} (hX : ∃ nX, imu_t (imu_C.k nX) x y = some rX) : imu_C.Res 56 [.d (.st (.pair .bool (.sl (.int .u32)))) x, .d (.st (.pair .bool (.sl (.int .u32)))) y] rX := by
  obtain ⟨nX, hX⟩ := hX
  exact ⟨nX, (imu_eq _ x y).trans hX⟩
def ing_nt : NT := []
noncomputable def ing_C : Ctx := ⟨Tryz.prog, ft, tys, envBg3, ing_nt⟩
def ing_t (_k : Nat → Cfg → Option (List RV)) (x : Bool × List Int) : Option (List RV) := match decide (x.2.length * 4 ≤ 140737488355328 ∧ x.2.length ≤ 140737488355328) with | true => (match decide (LimS x.2) with | true => some [RV.d (.st (.pair .bool (.sl (.int .u32)))) (encI (sgnI (!x.1) (val x.2)))] | false => none) | false => none
theorem ing_eq (k : Nat → Cfg → Option (List RV)) (x : Bool × List Int) : go Tryz.prog ft tys envBg3 ing_nt k 4000 (start 97 [.d (.st (.pair .bool (.sl (.int .u32)))) x]) (.node 0) = ing_t k x := (go2_eq _ _ _ _ _ _ _ _ _).symm.trans (show go2 Tryz.prog ft tys envBg3 ing_nt k 4000 (start 97 [.d (.st (.pair .bool (.sl (.int .u32)))) x]) (.node 0) = ing_t k x by kernel_rfl)
theorem ing_s (x : Bool × List Int) {rX : List RV} (hX : ∃ nX, ing_t (ing_C.k nX) x = some rX) : ing_C.Res 97 [.d (.st (.pair .bool (.sl (.int .u32)))) x] rX := by
  obtain ⟨nX, hX⟩ := hX
  exact ⟨nX, (ing_eq _ x).trans hX⟩
def isg_nt : NT := []
noncomputable def isg_C : Ctx := ⟨Tryz.prog, ft, tys, envBg3, isg_nt⟩
def isg_t (_k : Nat → Cfg → Option (List RV)) (x : Bool × List Int) : Option (List RV) := match x.1 with | true => some [RV.d (.int .i64) (-1)] | false => (match decide ((x.2.length : Int) > 0) with | true => some [RV.d (.int .i64) 1] | false => some [RV.d (.int .i64) 0])
theorem isg_eq (k : Nat → Cfg → Option (List RV)) (x : Bool × List Int) : go Tryz.prog ft tys envBg3 isg_nt k 4000 (start 79 [.d (.st (.pair .bool (.sl (.int .u32)))) x]) (.node 0) = isg_t k x := (go2_eq _ _ _ _ _ _ _ _ _).symm.trans (show go2 Tryz.prog ft tys envBg3 isg_nt k 4000 (start 79 [.d (.st (.pair .bool (.sl (.int .u32)))) x]) (.node 0) = isg_t k x by kernel_rfl)
theorem isg_s (x : Bool × List Int) {rX : List RV} (hX : ∃ nX, isg_t (isg_C.k nX) x = some rX) : isg_C.Res 79 [.d (.st (.pair .bool (.sl (.int .u32)))) x] rX := by
  obtain ⟨nX, hX⟩ := hX
  exact ⟨nX, (isg_eq _ x).trans hX⟩
theorem isg_con (x : BI) (h : okI x) : Con Tryz.prog 79 [.d (.st (.pair .bool (.sl (.int .u32)))) x] [.d (.int .i64) (cmpI (decI x) 0)] := by
  refine Ctx.Res.con (C := isg_C) (ctx_ok envBg3_ok) (isg_s _ ⟨0, ?_⟩) (fn := Tryz.f79) (by kernel_rfl) (by kernel_rfl)
  obtain ⟨h0, h1, h2⟩ := okI_val h
  unfold isg_t
  rw [decI_sgn]
  unfold sgnI
  cases hx : x.1
  · simp only [cond_false]
    rcases Int.lt_or_le 0 (val x.2) with hc | hc
    · have : x.2 ≠ [] := fun e => by rw [h2] at e; omega
      have := List.length_pos_iff.2 this
      rw [decide_eq_true (by omega), cmpI_gt hc]
    · have e : x.2 = [] := h2.2 (by omega)
      rw [e]
      rfl
  · simp only [cond_true]
    rw [cmpI_lt (by have := h1 hx; omega)]
theorem sgn_cmp {a b : Int} (_ha : 0 ≤ a) (_hb : 0 ≤ b) : cmpI (-a) (-b) = cmpI b a := by
  rcases Int.lt_trichotomy a b with h | h | h
  · rw [cmpI_gt (by omega), cmpI_gt h]
  · rw [h, cmpI_eq, cmpI_eq]
  · rw [cmpI_lt (by omega), cmpI_lt h]
theorem icm_con (x y : BI) (h : okI x ∧ okI y) : Con Tryz.prog 55 [.d (.st (.pair .bool (.sl (.int .u32)))) x, .d (.st (.pair .bool (.sl (.int .u32)))) y] [.d (.int .i64) (cmpI (decI x) (decI y))] := by
  refine Ctx.Res.con (C := icm_C) (ctx_ok envBg3_ok) (icm_s _ _ ⟨0, ?_⟩) (fn := Tryz.f55) (by kernel_rfl) (by kernel_rfl)
  obtain ⟨hx, hy⟩ := h
  obtain ⟨x0, x1, x2⟩ := okI_val hx
  obtain ⟨y0, y1, y2⟩ := okI_val hy
  have lx := okI_lim hx
  have ly := okI_lim hy
  unfold icm_t
  rw [decI_sgn, decI_sgn, decide_eq_true (show LimS x.2 ∧ LimS y.2 from ⟨lx, ly⟩), decide_eq_true (show LimS y.2 ∧ LimS x.2 from ⟨ly, lx⟩)]
  unfold sgnI
  cases ex : x.1 <;> cases ey : y.1 <;> simp only [cond_true, cond_false]
  · rfl
  · have := y1 ey
    rw [cmpI_gt (a := val x.2) (b := -val y.2) (by omega)]
    rfl
  · have := x1 ex
    rw [cmpI_lt (a := -val x.2) (b := val y.2) (by omega)]
    rfl
  · rw [sgn_cmp x0 y0]
    rfl
theorem dig_val_of {n : Nat} {v : Int} (h0 : 0 ≤ v) (h1 : v < pw n) : val (dig n v) = v := dig_val n v h0 h1
theorem plus_val {a b : List Int} (ha : Lim a) (hb : Lim b) : val (dig (max a.length b.length + 1) (val a + val b)) = val a + val b := by
  have h1 := val_lt ha
  have h2 := val_lt hb
  have h3 := val_nonneg ha
  have h4 := val_nonneg hb
  have h5 := pw_mono (Nat.le_max_left a.length b.length)
  have h6 := pw_mono (Nat.le_max_right a.length b.length)
  have := pw_pos (max a.length b.length)
  exact dig_val _ _ (by omega) (by rw [pw_succ]; omega)
theorem minus_val {a b : List Int} (ha : Lim a) (hb : Lim b) (hle : val b ≤ val a) : val (dig a.length (val a - val b)) = val a - val b := by
  have h1 := val_lt ha
  have h4 := val_nonneg hb
  exact dig_val _ _ (by omega) (by omega)
theorem times_val {a b : List Int} (ha : Lim a) (hb : Lim b) : val (dig (a.length + b.length) (val a * val b)) = val a * val b := by
  have h1 := val_lt ha
  have h2 := val_lt hb
  have h3 := val_nonneg ha
  have h4 := val_nonneg hb
  refine dig_val _ _ (Int.mul_nonneg h3 h4) ?_
  rw [pw_add]
  have e1 := Int.mul_le_mul_of_nonneg_right (Int.le_of_lt h1) h4
  have e2 := Int.mul_lt_mul_of_pos_left h2 (pw_pos a.length)
  omega
theorem iad_con (x y : BI) (h : okI x ∧ okI y) : Con Tryz.prog 144 [.d (.st (.pair .bool (.sl (.int .u32)))) x, .d (.st (.pair .bool (.sl (.int .u32)))) y] [.d (.st (.pair .bool (.sl (.int .u32)))) (encI (decI x + decI y))] := by
  refine Ctx.Res.con (C := iad_C) (ctx_ok envBg3_ok) (iad_s _ _ ⟨0, ?_⟩) (fn := Tryz.f144) (by kernel_rfl) (by kernel_rfl)
  obtain ⟨hx, hy⟩ := h
  obtain ⟨x0, x1, x2⟩ := okI_val hx
  obtain ⟨y0, y1, y2⟩ := okI_val hy
  have lx := okI_lim hx
  have ly := okI_lim hy
  have sx := hx.2.2
  have sy := hy.2.2
  unfold iad_t
  rw [decI_sgn, decI_sgn, decide_eq_true (show LimS x.2 ∧ LimS y.2 from ⟨lx, ly⟩), decide_eq_true (show LimS (dig (max x.2.length y.2.length + 1) (val x.2 + val y.2)) from dig_limS (by omega) _), plus_val lx.1 ly.1, decide_eq_true (show LimS (dig x.2.length (val x.2 - val y.2)) from dig_limS (by omega) _), decide_eq_true (show LimS (dig y.2.length (val y.2 - val x.2)) from dig_limS (by omega) _)]
  cases hs : x.1 == y.1
  · dsimp only
    rcases Int.lt_or_le (val x.2) (val y.2) with hc | hc
    · rw [cmpI_lt hc, decide_eq_true (show (-1 : Int) < 0 by decide), decide_eq_true (show mnsP y.2 x.2 from ⟨ly, lx, by omega⟩), minus_val ly.1 lx.1 (by omega)]
      dsimp only
      unfold sgnI
      cases ex : x.1 <;> cases ey : y.1 <;> simp_all <;> congr 2 <;> omega
    · have hcm : decide (cmpI (val x.2) (val y.2) < 0) = false := by
        rcases Int.lt_or_le (val y.2) (val x.2) with h | h
        · rw [cmpI_gt h]; rfl
        · rw [show val x.2 = val y.2 by omega, cmpI_eq]; rfl
      rw [hcm, decide_eq_true (show mnsP x.2 y.2 from ⟨lx, ly, hc⟩), minus_val lx.1 ly.1 hc]
      dsimp only
      unfold sgnI
      cases ex : x.1 <;> cases ey : y.1 <;> simp_all <;> congr 2 <;> omega
  · dsimp only
    have e := beq_iff_eq.1 hs
    rw [← e]
    unfold sgnI
    cases x.1
    · rfl
    · simp only [cond_true]
      rw [show -(val x.2 + val y.2) = -val x.2 + -val y.2 by omega]
theorem ing_con (x : BI) (h : okI x) : Con Tryz.prog 97 [.d (.st (.pair .bool (.sl (.int .u32)))) x] [.d (.st (.pair .bool (.sl (.int .u32)))) (encI (-decI x))] := by
  refine Ctx.Res.con (C := ing_C) (ctx_ok envBg3_ok) (ing_s _ ⟨0, ?_⟩) (fn := Tryz.f97) (by kernel_rfl) (by kernel_rfl)
  have sx := h.2.2
  unfold ing_t
  rw [decI_sgn, decide_eq_true (show x.2.length * 4 ≤ 140737488355328 ∧ x.2.length ≤ 140737488355328 by omega), decide_eq_true (okI_lim h)]
  unfold sgnI
  cases x.1 <;> simp
theorem imu_con (x y : BI) (h : okI x ∧ okI y) : Con Tryz.prog 56 [.d (.st (.pair .bool (.sl (.int .u32)))) x, .d (.st (.pair .bool (.sl (.int .u32)))) y] [.d (.st (.pair .bool (.sl (.int .u32)))) (encI (decI x * decI y))] := by
  refine Ctx.Res.con (C := imu_C) (ctx_ok envBg3_ok) (imu_s _ _ ⟨0, ?_⟩) (fn := Tryz.f56) (by kernel_rfl) (by kernel_rfl)
  obtain ⟨hx, hy⟩ := h
  have lx := okI_lim hx
  have ly := okI_lim hy
  have sx := hx.2.2
  have sy := hy.2.2
  unfold imu_t
  rw [decI_sgn, decI_sgn, decide_eq_true (show LimS x.2 ∧ LimS y.2 from ⟨lx, ly⟩), decide_eq_true (show LimS (dig (x.2.length + y.2.length) (val x.2 * val y.2)) from dig_limS (by omega) _), times_val lx.1 ly.1]
  unfold sgnI
  cases x.1 <;> cases y.1 <;> simp [Int.neg_mul, Int.mul_neg]
def iad_sp : Spec := { keep := false, run := fun _ args k => match args with
  | [.d (.st (.pair .bool (.sl (.int .u32)))) x, .d (.st (.pair .bool (.sl (.int .u32)))) y] => match decide (okI x ∧ okI y) with
    | true => k [RV.d (.st (.pair .bool (.sl (.int .u32)))) (encI (decI x + decI y))]
    | false => none
  | _ => none }
theorem iad_spec : callable Tryz.prog 144 = true ∧ SpecOk Tryz.prog 144 iad_sp ∧ ∀ g, iad_sp.mut_ = some g → MCon Tryz.prog 144 g := by
  refine ⟨by kernel_rfl, fun R args k r h => ?_, fun g h => by simp [iad_sp] at h⟩
  unfold iad_sp at h
  dsimp only at h
  split at h <;> try (cases h; done)
  split at h <;> try (cases h; done)
  rename_i hd
  exact ⟨_, h, iad_con _ _ (of_decide_eq_true hd)⟩

noncomputable def envBg4 : Env := (144, iad_sp) :: envBg3
theorem envBg4_ok : EnvAll Tryz.prog envBg4 := ⟨iad_spec, envBg3_ok⟩
def isu_nt : NT := []
noncomputable def isu_C : Ctx := ⟨Tryz.prog, ft, tys, envBg4, isu_nt⟩
def isu_t (_k : Nat → Cfg → Option (List RV)) (x : Bool × List Int) (y : Bool × List Int) : Option (List RV) := match !y.1 with | true => (match decide (okI x ∧ okI (decide ((y.2.length : Int) > 0), y.2)) with | true => some [RV.d (.st (.pair .bool (.sl (.int .u32)))) (encI (decI x + decI (decide ((y.2.length : Int) > 0), y.2)))] | false => none) | false => (match decide (okI x ∧ okI (false, y.2)) with | true => some [RV.d (.st (.pair .bool (.sl (.int .u32)))) (encI (decI x + decI (false, y.2)))] | false => none)
theorem isu_eq (k : Nat → Cfg → Option (List RV)) (x : Bool × List Int) (y : Bool × List Int) : go Tryz.prog ft tys envBg4 isu_nt k 4000 (start 143 [.d (.st (.pair .bool (.sl (.int .u32)))) x, .d (.st (.pair .bool (.sl (.int .u32)))) y]) (.node 0) = isu_t k x y := (go2_eq _ _ _ _ _ _ _ _ _).symm.trans (show go2 Tryz.prog ft tys envBg4 isu_nt k 4000 (start 143 [.d (.st (.pair .bool (.sl (.int .u32)))) x, .d (.st (.pair .bool (.sl (.int .u32)))) y]) (.node 0) = isu_t k x y by kernel_rfl)
theorem isu_s (x : Bool × List Int) (y : Bool × List Int) {rX : List RV} (hX : ∃ nX, isu_t (isu_C.k nX) x y = some rX) : isu_C.Res 143 [.d (.st (.pair .bool (.sl (.int .u32)))) x, .d (.st (.pair .bool (.sl (.int .u32)))) y] rX := by
  obtain ⟨nX, hX⟩ := hX
  exact ⟨nX, (isu_eq _ x y).trans hX⟩
theorem okI_flip {y : BI} (h : okI y) : okI (!y.1 && decide ((y.2.length : Int) > 0), y.2) ∧ decI (!y.1 && decide ((y.2.length : Int) > 0), y.2) = -decI y := by
  obtain ⟨y0, y1, y2⟩ := okI_val h
  refine ⟨⟨h.1, fun e => ?_, h.2.2⟩, ?_⟩
  · simp only [Bool.and_eq_true, decide_eq_true_eq] at e
    intro e'
    have e2 := e.2
    have e'' : y.2 = [] := e'
    rw [e''] at e2
    simp at e2
  · rw [decI_sgn, decI_sgn]
    unfold sgnI
    dsimp only
    cases ey : y.1
    · simp only [Bool.not_false, Bool.true_and, cond_false]
      rcases Int.lt_or_le 0 (val y.2) with hc | hc
      · have : y.2 ≠ [] := fun e => by rw [y2] at e; omega
        have := List.length_pos_iff.2 this
        rw [decide_eq_true (by omega)]
        rfl
      · have e : y.2 = [] := y2.2 (by omega)
        rw [e]
        rfl
    · simp
theorem isu_con (x y : BI) (h : okI x ∧ okI y) : Con Tryz.prog 143 [.d (.st (.pair .bool (.sl (.int .u32)))) x, .d (.st (.pair .bool (.sl (.int .u32)))) y] [.d (.st (.pair .bool (.sl (.int .u32)))) (encI (decI x - decI y))] := by
  refine Ctx.Res.con (C := isu_C) (ctx_ok envBg4_ok) (isu_s _ _ ⟨0, ?_⟩) (fn := Tryz.f143) (by kernel_rfl) (by kernel_rfl)
  obtain ⟨hx, hy⟩ := h
  obtain ⟨f1, f2⟩ := okI_flip hy
  rw [Int.sub_eq_add_neg, ← f2]
  unfold isu_t
  cases ey : y.1
  · rw [ey] at f1
    simp only [Bool.not_false, Bool.true_and] at f1 ⊢
    rw [decide_eq_true ⟨hx, f1⟩]
  · rw [ey] at f1
    simp only [Bool.not_true, Bool.false_and] at f1 ⊢
    rw [decide_eq_true ⟨hx, f1⟩]
def isu_sp : Spec := { keep := false, run := fun _ args k => match args with
  | [.d (.st (.pair .bool (.sl (.int .u32)))) x, .d (.st (.pair .bool (.sl (.int .u32)))) y] => match decide (okI x ∧ okI y) with
    | true => k [RV.d (.st (.pair .bool (.sl (.int .u32)))) (encI (decI x - decI y))]
    | false => none
  | _ => none }
theorem isu_spec : callable Tryz.prog 143 = true ∧ SpecOk Tryz.prog 143 isu_sp ∧ ∀ g, isu_sp.mut_ = some g → MCon Tryz.prog 143 g := by
  refine ⟨by kernel_rfl, fun R args k r h => ?_, fun g h => by simp [isu_sp] at h⟩
  unfold isu_sp at h
  dsimp only at h
  split at h <;> try (cases h; done)
  split at h <;> try (cases h; done)
  rename_i hd
  exact ⟨_, h, isu_con _ _ (of_decide_eq_true hd)⟩

noncomputable def envBg5 : Env := (143, isu_sp) :: envBg4
theorem envBg5_ok : EnvAll Tryz.prog envBg5 := ⟨isu_spec, envBg4_ok⟩
def idm_nt : NT := []
noncomputable def idm_C : Ctx := ⟨Tryz.prog, ft, tys, envBg5, idm_nt⟩
noncomputable def idm_t (_k : Nat → Cfg → Option (List RV)) (x : Bool × List Int) (y : Bool × List Int) : Option (List RV) := match (y.2.length : Int) == 0 with | true => some [RV.d (.st (.pair .bool (.sl (.int .u32)))) (false, []), RV.d (.st (.pair .bool (.sl (.int .u32)))) (false, []), RV.d (.int .i64) 6] | false => (match decide (dvdP x.2 y.2) with | true => bothV (match decide (LimS (dvQ x.2 y.2)) with | true => bothV (match decide (LimS (dvR x.2 y.2)) with | true => dup (.b .l .l) (match decide ((((encI (sgnI x.1 (val (dvR x.2 y.2)))).2).length : Int) > 0) with | true => (match !(((encI (sgnI x.1 (val (dvR x.2 y.2)))).1) == y.1) with | true => (match decide (i64P (1 : Int)) with | true => (match decide (okI (encI (sgnI (!(x.1 == y.1)) (val (dvQ x.2 y.2)))) ∧ okI (encI (1 : Int))) with | true => (match decide (okI (encI (sgnI x.1 (val (dvR x.2 y.2)))) ∧ okI y) with | true => dup (.b .l .l) (some [RV.d (.st (.pair .bool (.sl (.int .u32)))) (encI (decI (encI (sgnI (!(x.1 == y.1)) (val (dvQ x.2 y.2)))) - decI (encI (1 : Int)))), RV.d (.st (.pair .bool (.sl (.int .u32)))) (encI (decI (encI (sgnI x.1 (val (dvR x.2 y.2)))) + decI y)), RV.d (.int .i64) 0]) | false => none) | false => none) | false => none) | false => dup (.b .l .l) (some [RV.d (.st (.pair .bool (.sl (.int .u32)))) (encI (sgnI (!(x.1 == y.1)) (val (dvQ x.2 y.2)))), RV.d (.st (.pair .bool (.sl (.int .u32)))) (encI (sgnI x.1 (val (dvR x.2 y.2)))), RV.d (.int .i64) 0])) | false => dup (.b .l .l) (some [RV.d (.st (.pair .bool (.sl (.int .u32)))) (encI (sgnI (!(x.1 == y.1)) (val (dvQ x.2 y.2)))), RV.d (.st (.pair .bool (.sl (.int .u32)))) (encI (sgnI x.1 (val (dvR x.2 y.2)))), RV.d (.int .i64) 0])) | false => none) (dup (.b (.b .l .l) (.b .l .l)) (match decide (LimS (dvR x.2 y.2)) with | true => (match decide ((((encI (sgnI x.1 (val (dvR x.2 y.2)))).2).length : Int) > 0) with | true => (match !(((encI (sgnI x.1 (val (dvR x.2 y.2)))).1) == y.1) with | true => (match decide (i64P (1 : Int)) with | true => (match decide (okI (encI (sgnI (!(x.1 == y.1)) (val (dvQ x.2 y.2)))) ∧ okI (encI (1 : Int))) with | true => (match decide (okI (encI (sgnI x.1 (val (dvR x.2 y.2)))) ∧ okI y) with | true => dup (.b .l .l) (some [RV.d (.st (.pair .bool (.sl (.int .u32)))) (encI (decI (encI (sgnI (!(x.1 == y.1)) (val (dvQ x.2 y.2)))) - decI (encI (1 : Int)))), RV.d (.st (.pair .bool (.sl (.int .u32)))) (encI (decI (encI (sgnI x.1 (val (dvR x.2 y.2)))) + decI y)), RV.d (.int .i64) 0]) | false => none) | false => none) | false => none) | false => dup (.b .l .l) (some [RV.d (.st (.pair .bool (.sl (.int .u32)))) (encI (sgnI (!(x.1 == y.1)) (val (dvQ x.2 y.2)))), RV.d (.st (.pair .bool (.sl (.int .u32)))) (encI (sgnI x.1 (val (dvR x.2 y.2)))), RV.d (.int .i64) 0])) | false => dup (.b .l .l) (some [RV.d (.st (.pair .bool (.sl (.int .u32)))) (encI (sgnI (!(x.1 == y.1)) (val (dvQ x.2 y.2)))), RV.d (.st (.pair .bool (.sl (.int .u32)))) (encI (sgnI x.1 (val (dvR x.2 y.2)))), RV.d (.int .i64) 0])) | false => none)) | false => none) (dup (.b .l .l) (bothV (match decide (LimS (dvQ x.2 y.2)) with | true => dup (.b .l .l) (match decide (LimS (dvR x.2 y.2)) with | true => (match decide ((((encI (sgnI x.1 (val (dvR x.2 y.2)))).2).length : Int) > 0) with | true => (match !(((encI (sgnI x.1 (val (dvR x.2 y.2)))).1) == y.1) with | true => (match decide (i64P (1 : Int)) with | true => (match decide (okI (encI (sgnI (!(x.1 == y.1)) (val (dvQ x.2 y.2)))) ∧ okI (encI (1 : Int))) with | true => (match decide (okI (encI (sgnI x.1 (val (dvR x.2 y.2)))) ∧ okI y) with | true => dup (.b .l .l) (some [RV.d (.st (.pair .bool (.sl (.int .u32)))) (encI (decI (encI (sgnI (!(x.1 == y.1)) (val (dvQ x.2 y.2)))) - decI (encI (1 : Int)))), RV.d (.st (.pair .bool (.sl (.int .u32)))) (encI (decI (encI (sgnI x.1 (val (dvR x.2 y.2)))) + decI y)), RV.d (.int .i64) 0]) | false => none) | false => none) | false => none) | false => dup (.b .l .l) (some [RV.d (.st (.pair .bool (.sl (.int .u32)))) (encI (sgnI (!(x.1 == y.1)) (val (dvQ x.2 y.2)))), RV.d (.st (.pair .bool (.sl (.int .u32)))) (encI (sgnI x.1 (val (dvR x.2 y.2)))), RV.d (.int .i64) 0])) | false => dup (.b .l .l) (some [RV.d (.st (.pair .bool (.sl (.int .u32)))) (encI (sgnI (!(x.1 == y.1)) (val (dvQ x.2 y.2)))), RV.d (.st (.pair .bool (.sl (.int .u32)))) (encI (sgnI x.1 (val (dvR x.2 y.2)))), RV.d (.int .i64) 0])) | false => none) | false => none) (match decide (LimS (dvQ x.2 y.2)) with | true => (match decide (LimS (dvR x.2 y.2)) with | true => (match decide ((((encI (sgnI x.1 (val (dvR x.2 y.2)))).2).length : Int) > 0) with | true => (match !(((encI (sgnI x.1 (val (dvR x.2 y.2)))).1) == y.1) with | true => (match decide (i64P (1 : Int)) with | true => (match decide (okI (encI (sgnI (!(x.1 == y.1)) (val (dvQ x.2 y.2)))) ∧ okI (encI (1 : Int))) with | true => (match decide (okI (encI (sgnI x.1 (val (dvR x.2 y.2)))) ∧ okI y) with | true => dup (.b .l .l) (some [RV.d (.st (.pair .bool (.sl (.int .u32)))) (encI (decI (encI (sgnI (!(x.1 == y.1)) (val (dvQ x.2 y.2)))) - decI (encI (1 : Int)))), RV.d (.st (.pair .bool (.sl (.int .u32)))) (encI (decI (encI (sgnI x.1 (val (dvR x.2 y.2)))) + decI y)), RV.d (.int .i64) 0]) | false => none) | false => none) | false => none) | false => dup (.b .l .l) (some [RV.d (.st (.pair .bool (.sl (.int .u32)))) (encI (sgnI (!(x.1 == y.1)) (val (dvQ x.2 y.2)))), RV.d (.st (.pair .bool (.sl (.int .u32)))) (encI (sgnI x.1 (val (dvR x.2 y.2)))), RV.d (.int .i64) 0])) | false => dup (.b .l .l) (some [RV.d (.st (.pair .bool (.sl (.int .u32)))) (encI (sgnI (!(x.1 == y.1)) (val (dvQ x.2 y.2)))), RV.d (.st (.pair .bool (.sl (.int .u32)))) (encI (sgnI x.1 (val (dvR x.2 y.2)))), RV.d (.int .i64) 0])) | false => none) | false => none))) | false => none)
theorem idm_eq (k : Nat → Cfg → Option (List RV)) (x : Bool × List Int) (y : Bool × List Int) : go Tryz.prog ft tys envBg5 idm_nt k 4000 (start 117 [.d (.st (.pair .bool (.sl (.int .u32)))) x, .d (.st (.pair .bool (.sl (.int .u32)))) y]) (.node 0) = idm_t k x y := (go2_eq _ _ _ _ _ _ _ _ _).symm.trans (show go2 Tryz.prog ft tys envBg5 idm_nt k 4000 (start 117 [.d (.st (.pair .bool (.sl (.int .u32)))) x, .d (.st (.pair .bool (.sl (.int .u32)))) y]) (.node 0) = idm_t k x y by kernel_rfl)
theorem idm_s (x : Bool × List Int) (y : Bool × List Int) {rX : List RV} (hX : ∃ nX, idm_t (idm_C.k nX) x y = some rX) : idm_C.Res 117 [.d (.st (.pair .bool (.sl (.int .u32)))) x, .d (.st (.pair .bool (.sl (.int .u32)))) y] rX := by
  obtain ⟨nX, hX⟩ := hX
  exact ⟨nX, (idm_eq _ x y).trans hX⟩
end Go.Proofs.YtcaiedfkohigjaaGreat
/- integer: DivMod, word. -/
namespace Go.Proofs.YtcaiedfkohigjaaGreat
open Go.RowKit
def idmP (x y : BI) : Prop := okI x ∧ okI y ∧ 0 < decI y
instance (x y : BI) : Decidable (idmP x y) := by unfold idmP; infer_instance
theorem neg_div {a b : Int} (_ha : 0 ≤ a) (hb : 0 < b) : (a % b = 0 → -a / b = -(a / b) ∧ -a % b = 0) ∧ (0 < a % b → -a / b = -(a / b) - 1 ∧ -a % b = -(a % b) + b) := by
  have h1 := Int.emod_nonneg a (show b ≠ 0 by omega)
  have h2 := Int.emod_lt_of_pos a hb
  have h3 := Int.mul_ediv_add_emod a b
  constructor
  · intro h
    have e : -a = b * -(a / b) := by rw [Int.mul_neg]; omega
    constructor
    · rw [e, Int.mul_ediv_cancel_left _ (by omega)]
    · rw [e, Int.mul_emod_right]
  · intro h
    have e : -a = (b - a % b) + b * (-(a / b) - 1) := by rw [Int.mul_sub, Int.mul_neg, Int.mul_one]; omega
    constructor
    · rw [e, Int.add_mul_ediv_left _ _ (by omega), Int.ediv_eq_zero_of_lt (by omega) (by omega)]; omega
    · rw [e, Int.add_mul_emod_self_left, Int.emod_eq_of_lt (by omega) (by omega)]; omega
theorem okI_one : okI (encI 1) := by decide
theorem val_sz {l : List Int} {k : Nat} (h : Lim l) (hv : val l < pw k) : szI (val l) ≤ k := szI_le (by have := val_nonneg h; have := pw_pos k; omega) hv
theorem sgn_sz (n : Bool) {v : Int} : szI (sgnI n v) = szI v := by unfold sgnI; cases n <;> simp [szI_neg]
theorem idm_con (x y : BI) (h : idmP x y) : Con Tryz.prog 117 [.d (.st (.pair .bool (.sl (.int .u32)))) x, .d (.st (.pair .bool (.sl (.int .u32)))) y] [.d (.st (.pair .bool (.sl (.int .u32)))) (encI (decI x / decI y)), .d (.st (.pair .bool (.sl (.int .u32)))) (encI (decI x % decI y)), .d (.int .i64) 0] := by
  refine Ctx.Res.con (C := idm_C) (ctx_ok envBg5_ok) (idm_s _ _ ⟨0, ?_⟩) (fn := Tryz.f117) (by kernel_rfl) (by kernel_rfl)
  obtain ⟨hx, hy, hp⟩ := h
  obtain ⟨x0, x1, x2⟩ := okI_val hx
  obtain ⟨y0, y1, y2⟩ := okI_val hy
  have sx := hx.2.2
  have sy := hy.2.2
  have ey : y.1 = false := by
    cases e : y.1
    · rfl
    · rw [decI_sgn, e] at hp
      simp only [sgnI, cond_true] at hp
      omega
  have dy : decI y = val y.2 := by rw [decI_sgn, ey]; rfl
  rw [dy] at hp
  have hdv : dvdP x.2 y.2 := ⟨⟨hx.1.1, by omega⟩, ⟨hy.1.1, by omega⟩, hp⟩
  obtain ⟨lq, lr, sq, sr, vq, vr⟩ := dv_ok hdv
  have hne : y.2 ≠ [] := fun e => by rw [y2] at e; omega
  have hylen := List.length_pos_iff.2 hne
  have r0 := Int.emod_nonneg (val x.2) (show val y.2 ≠ 0 by omega)
  have r1 := Int.emod_lt_of_pos (val x.2) hp
  have q0 : 0 ≤ val x.2 / val y.2 := Int.ediv_nonneg x0 y0
  have q1 : val x.2 / val y.2 ≤ val x.2 := Int.ediv_le_self _ x0
  have vx := val_lt hx.1.1
  have vy := val_lt hy.1.1
  have szq : szI (val x.2 / val y.2) ≤ 1000000 := szI_le (by have := pw_pos 1000000; omega) (by have := pw_mono sx; omega)
  have szr : szI (val x.2 % val y.2) ≤ 1000000 := szI_le (by have := pw_pos 1000000; omega) (by have := pw_mono sy; omega)
  unfold idm_t
  simp only [dup_eq]
  rw [show ((y.2.length : Int) == 0) = false by simp; omega, decide_eq_true hdv, decide_eq_true (show LimS (dvQ x.2 y.2) from ⟨lq, by omega⟩), decide_eq_true (show LimS (dvR x.2 y.2) from ⟨lr, by omega⟩), decide_eq_true (show i64P 1 by decide), vq, vr,
    decide_eq_true (show okI (encI (sgnI (!(x.1 == y.1)) (val x.2 / val y.2))) ∧ okI (encI (1 : Int)) from ⟨okI_enc (by rw [sgn_sz]; exact szq), okI_one⟩), decide_eq_true (show okI (encI (sgnI x.1 (val x.2 % val y.2))) ∧ okI y from ⟨okI_enc (by rw [sgn_sz]; exact szr), hy⟩)]
  simp only [dec_enc, dy, bothV_self]
  have hE1 : (encI (sgnI x.1 (val x.2 % val y.2))).1 = (x.1 && decide (0 < val x.2 % val y.2)) := by rw [encI_sgn x.1 r0]
  have hE2 : (encI (sgnI x.1 (val x.2 % val y.2))).2 = limbs (val x.2 % val y.2).toNat := by rw [encI_sgn x.1 r0]
  rw [hE1, hE2, decI_sgn x, ey]
  have hlen : (((limbs (val x.2 % val y.2).toNat).length : Int) > 0) ↔ 0 < val x.2 % val y.2 := by
    constructor
    · intro hl
      rcases Int.lt_or_le 0 (val x.2 % val y.2) with h | h
      · exact h
      · rw [show (val x.2 % val y.2).toNat = 0 by omega, limbs_zero] at hl
        simp at hl
    · intro hl
      have : limbs (val x.2 % val y.2).toNat ≠ [] := fun e => by rw [limbs_nil] at e; omega
      have := List.length_pos_iff.2 this
      omega
  obtain ⟨n1, n2⟩ := neg_div (a := val x.2) (b := val y.2) x0 hp
  rcases Int.lt_or_le 0 (val x.2 % val y.2) with hr | hr
  · rw [decide_eq_true (hlen.2 hr), decide_eq_true hr]
    cases x.1
    · rfl
    · obtain ⟨e1, e2⟩ := n2 hr
      simp only [sgnI, cond_true, Bool.not_false, Bool.true_and, show ((true == false) : Bool) = false from rfl]
      rw [e1, e2]
  · rw [decide_eq_false (fun h' => by have := hlen.1 h'; omega)]
    dsimp only
    have e0 : val x.2 % val y.2 = 0 := by omega
    cases x.1
    · simp only [sgnI, cond_false, show ((false == false) : Bool) = true from rfl, Bool.not_true]
    · obtain ⟨e1, e2⟩ := n1 e0
      simp only [sgnI, cond_true, show ((true == false) : Bool) = false from rfl, Bool.not_false]
      rw [e1, e2, e0]
      rfl
end Go.Proofs.YtcaiedfkohigjaaGreat
/- integer: GCD. -/
namespace Go.Proofs.YtcaiedfkohigjaaGreat
open Go.RowKit
def wrdB (x : BI) : Bool := decide (x.2.length ≤ 2)
def wrdF (x : BI) : Int := bif wrdB x then val x.2 else 0
def wrd_nt : NT := []
noncomputable def wrd_C : Ctx := ⟨Tryz.prog, ft, tys, [], wrd_nt⟩
def wrd_t (_k : Nat → Cfg → Option (List RV)) (x : Bool × List Int) : Option (List RV) := match (x.2.length : Int) == 0 with | true => some [RV.d (.int .u64) 0, RV.d .bool true] | false => (match (x.2.length : Int) == 1 with | true => (match getI x.2 0 with | some x1 => some [RV.d (.int .u64) (IntKind.u64.wrap x1), RV.d .bool true] | none => none) | false => (match (x.2.length : Int) == 2 with | true => (match getI x.2 1 with | some x2 => (match getI x.2 0 with | some x3 => some [RV.d (.int .u64) (IntKind.u64.wrap ((IntKind.u64.wrap ((IntKind.u64.wrap x2) * 1000000000)) + (IntKind.u64.wrap x3))), RV.d .bool true] | none => none) | none => none) | false => some [RV.d (.int .u64) 0, RV.d .bool false]))
theorem wrd_eq (k : Nat → Cfg → Option (List RV)) (x : Bool × List Int) : go Tryz.prog ft tys [] wrd_nt k 4000 (start 131 [.d (.st (.pair .bool (.sl (.int .u32)))) x]) (.node 0) = wrd_t k x := (go2_eq _ _ _ _ _ _ _ _ _).symm.trans (show go2 Tryz.prog ft tys [] wrd_nt k 4000 (start 131 [.d (.st (.pair .bool (.sl (.int .u32)))) x]) (.node 0) = wrd_t k x by kernel_rfl)
theorem wrd_s (x : Bool × List Int) {rX : List RV} (hX : ∃ nX, wrd_t (wrd_C.k nX) x = some rX) : wrd_C.Res 131 [.d (.st (.pair .bool (.sl (.int .u32)))) x] rX := by
  obtain ⟨nX, hX⟩ := hX
  exact ⟨nX, (wrd_eq _ x).trans hX⟩
theorem wrd_con (x : BI) (h : okI x) : Con Tryz.prog 131 [.d (.st (.pair .bool (.sl (.int .u32)))) x] [.d (.int .u64) (wrdF x), .d .bool (wrdB x)] := by
  refine Ctx.Res.con (C := wrd_C) (ctx_ok (E := []) trivial) (wrd_s _ ⟨0, ?_⟩) (fn := Tryz.f131) (by kernel_rfl) (by kernel_rfl)
  obtain ⟨neg, l⟩ := x
  have hl := h.1.1
  unfold wrd_t wrdF wrdB
  match l, hl with
  | [], _ => rfl
  | [a], hl =>
    have := hl.head
    simp only [List.length_singleton, getI_zero, List.getElem?_cons_zero]
    rw [wr64 (x := a) (by omega) (by omega)]
    simp [val]
  | [a, b], hl =>
    have h1 := hl.head
    have h2 := hl.tail.head
    have e1 : getI [a, b] 1 = some b := rfl
    have e0 : getI [a, b] 0 = some a := rfl
    simp only [e1, e0, List.length_cons, List.length_nil]
    rw [wr64 (x := a) (by omega) (by omega), wr64 (x := b) (by omega) (by omega), wr64 (x := b * 1000000000) (by omega) (by omega), wr64 (x := b * 1000000000 + a) (by omega) (by omega)]
    rw [show val [a, b] = b * 1000000000 + a by simp only [val]; omega]
    rfl
  | a :: b :: c :: l, hl =>
    have e : decide ((a :: b :: c :: l).length ≤ 2) = false := decide_eq_false (by simp)
    rw [e, show (((a :: b :: c :: l).length : Int) == 0) = false by simp; omega, show (((a :: b :: c :: l).length : Int) == 1) = false by simp; omega, show (((a :: b :: c :: l).length : Int) == 2) = false by simp; omega]
    rfl
def wrd_sp : Spec := { keep := false, run := fun _ args k => match args with
  | [.d (.st (.pair .bool (.sl (.int .u32)))) x] => match decide (okI x) with
    | true => k [RV.d (.int .u64) (wrdF x), RV.d .bool (wrdB x)]
    | false => none
  | _ => none }
theorem wrd_spec : callable Tryz.prog 131 = true ∧ SpecOk Tryz.prog 131 wrd_sp ∧ ∀ g, wrd_sp.mut_ = some g → MCon Tryz.prog 131 g := by
  refine ⟨by kernel_rfl, fun R args k r h => ?_, fun g h => by simp [wrd_sp] at h⟩
  unfold wrd_sp at h
  dsimp only at h
  split at h <;> try (cases h; done)
  split at h <;> try (cases h; done)
  rename_i hd
  exact ⟨_, h, wrd_con _ (of_decide_eq_true hd)⟩

noncomputable def envBg6 : Env := [(81, sgd_sp), (89, spl_sp), (132, dvd_sp), (131, wrd_sp)]
theorem envBg6_ok : EnvAll Tryz.prog envBg6 := ⟨sgd_spec, spl_spec, dvd_spec, wrd_spec, trivial⟩
def gcd_nt : NT := [((98, 6), { keep := [4, 5, 6], hl := 5 }), ((98, 24), { keep := [4, 7, 9], hl := 3 })]
noncomputable def gcd_C : Ctx := ⟨Tryz.prog, ft, tys, envBg6, gcd_nt⟩
def gcd_h6 (x : Bool × List Int) (y : Bool × List Int) (b3_0 : Bool) (b3_1 : List Int) (b4_0 : Bool) (b4_1 : List Int) : Cfg := ⟨98, [.blk 0, .seq 40], [(4, .box 2 0), (5, .box 3 0), (6, .box 4 0)], [.box 39 [SB x.1, .d (.sl (.int .u32)) x.2], .box 39 [SB y.1, .d (.sl (.int .u32)) y.2], .box 39 [SB false, .nil], .box 39 [SB b3_0, .d (.sl (.int .u32)) b3_1], .box 39 [SB b4_0, .d (.sl (.int .u32)) b4_1]], 0, []⟩
def gcd_h6u1 (x : Bool × List Int) (y : Bool × List Int) (b3_0 : Bool) (b3_1 : List Int) (b4_0 : Bool) (b4_1 : List Int) : Cfg := ⟨98, [.blk 0, .seq 40], [(4, .box 2 0), (5, .box 4 0), (6, .box 3 0)], [.box 39 [SB x.1, .d (.sl (.int .u32)) x.2], .box 39 [SB y.1, .d (.sl (.int .u32)) y.2], .box 39 [SB false, .nil], .box 39 [SB b3_0, .d (.sl (.int .u32)) b3_1], .box 39 [SB b4_0, .d (.sl (.int .u32)) b4_1]], 0, []⟩
def gcd_h24 (x : Bool × List Int) (y : Bool × List Int) (s7 : Int) (s9 : Int) : Cfg := ⟨98, [.blk 2, .seq 33, .seq 37, .blk 1, .lp 6, .blk 0, .seq 40], [(4, .box 2 0), (7, .d (.int .u64) s7), (9, .d (.int .u64) s9)], [.box 39 [SB x.1, .d (.sl (.int .u32)) x.2], .box 39 [SB y.1, .d (.sl (.int .u32)) y.2], .box 39 [SB false, .nil]], 0, []⟩
noncomputable def gcd_t (k : Nat → Cfg → Option (List RV)) (x : Bool × List Int) (y : Bool × List Int) : Option (List RV) := bothV (match decide (LimS x.2) with | true => bothV (match decide (LimS y.2) with | true => bothV (k 6 (gcd_h6 x y ((encI (sgnI false (val x.2))).1) ((encI (sgnI false (val x.2))).2) ((encI (sgnI false (val y.2))).1) ((encI (sgnI false (val y.2))).2))) (k 6 (gcd_h6u1 x y ((encI (sgnI false (val y.2))).1) ((encI (sgnI false (val y.2))).2) ((encI (sgnI false (val x.2))).1) ((encI (sgnI false (val x.2))).2))) | false => none) (bothV (dup (.b .l .l) (match decide (LimS y.2) with | true => k 6 (gcd_h6 x y ((encI (sgnI false (val x.2))).1) ((encI (sgnI false (val x.2))).2) ((encI (sgnI false (val y.2))).1) ((encI (sgnI false (val y.2))).2)) | false => none)) (dup (.b .l .l) (match decide (LimS y.2) with | true => k 6 (gcd_h6u1 x y ((encI (sgnI false (val y.2))).1) ((encI (sgnI false (val y.2))).2) ((encI (sgnI false (val x.2))).1) ((encI (sgnI false (val x.2))).2)) | false => none))) | false => none) (bothV (bothV (match decide (LimS x.2) with | true => dup (.b .l .l) (match decide (LimS y.2) with | true => k 6 (gcd_h6 x y ((encI (sgnI false (val x.2))).1) ((encI (sgnI false (val x.2))).2) ((encI (sgnI false (val y.2))).1) ((encI (sgnI false (val y.2))).2)) | false => none) | false => none) (match decide (LimS x.2) with | true => (match decide (LimS y.2) with | true => k 6 (gcd_h6 x y ((encI (sgnI false (val x.2))).1) ((encI (sgnI false (val x.2))).2) ((encI (sgnI false (val y.2))).1) ((encI (sgnI false (val y.2))).2)) | false => none) | false => none)) (bothV (match decide (LimS x.2) with | true => dup (.b .l .l) (match decide (LimS y.2) with | true => k 6 (gcd_h6u1 x y ((encI (sgnI false (val y.2))).1) ((encI (sgnI false (val y.2))).2) ((encI (sgnI false (val x.2))).1) ((encI (sgnI false (val x.2))).2)) | false => none) | false => none) (match decide (LimS x.2) with | true => (match decide (LimS y.2) with | true => k 6 (gcd_h6u1 x y ((encI (sgnI false (val y.2))).1) ((encI (sgnI false (val y.2))).2) ((encI (sgnI false (val x.2))).1) ((encI (sgnI false (val x.2))).2)) | false => none) | false => none)))
theorem gcd_eq (k : Nat → Cfg → Option (List RV)) (x : Bool × List Int) (y : Bool × List Int) : go Tryz.prog ft tys envBg6 gcd_nt k 4000 (start 98 [.d (.st (.pair .bool (.sl (.int .u32)))) x, .d (.st (.pair .bool (.sl (.int .u32)))) y]) (.node 0) = gcd_t k x y := (go2_eq _ _ _ _ _ _ _ _ _).symm.trans (show go2 Tryz.prog ft tys envBg6 gcd_nt k 4000 (start 98 [.d (.st (.pair .bool (.sl (.int .u32)))) x, .d (.st (.pair .bool (.sl (.int .u32)))) y]) (.node 0) = gcd_t k x y by kernel_rfl)
theorem gcd_s (x : Bool × List Int) (y : Bool × List Int) {rX : List RV} (hX : ∃ nX, gcd_t (gcd_C.k nX) x y = some rX) : gcd_C.Res 98 [.d (.st (.pair .bool (.sl (.int .u32)))) x, .d (.st (.pair .bool (.sl (.int .u32)))) y] rX := by
  obtain ⟨nX, hX⟩ := hX
  exact ⟨nX, (gcd_eq _ x y).trans hX⟩
noncomputable def gcd_h6_t (k : Nat → Cfg → Option (List RV)) (x : Bool × List Int) (y : Bool × List Int) (b3_0 : Bool) (b3_1 : List Int) (b4_0 : Bool) (b4_1 : List Int) : Option (List RV) := match decide ((b4_1.length : Int) > 0) with | true => (match decide (okI (b3_0, b3_1)) with | true => (match decide (okI (b4_0, b4_1)) with | true => (match wrdB (b3_0, b3_1) with | true => (match wrdB (b4_0, b4_1) with | true => k 24 (gcd_h24 x y (wrdF (b3_0, b3_1)) (wrdF (b4_0, b4_1))) | false => (match decide (dvdP b3_1 b4_1) with | true => (match decide (LimS (dvR b3_1 b4_1)) with | true => k 6 (gcd_h6 x y b4_0 b4_1 ((encI (sgnI false (val (dvR b3_1 b4_1)))).1) ((encI (sgnI false (val (dvR b3_1 b4_1)))).2)) | false => none) | false => none)) | false => (match decide (dvdP b3_1 b4_1) with | true => (match decide (LimS (dvR b3_1 b4_1)) with | true => k 6 (gcd_h6 x y b4_0 b4_1 ((encI (sgnI false (val (dvR b3_1 b4_1)))).1) ((encI (sgnI false (val (dvR b3_1 b4_1)))).2)) | false => none) | false => none)) | false => none) | false => none) | false => (match decide (b3_1.length * 4 ≤ 140737488355328 ∧ b3_1.length ≤ 140737488355328) with | true => (match decide (LimS b3_1) with | true => some [RV.d (.st (.pair .bool (.sl (.int .u32)))) (encI (sgnI false (val b3_1)))] | false => none) | false => none)
theorem gcd_h6_eq (k : Nat → Cfg → Option (List RV)) (x : Bool × List Int) (y : Bool × List Int) (b3_0 : Bool) (b3_1 : List Int) (b4_0 : Bool) (b4_1 : List Int) : go Tryz.prog ft tys envBg6 gcd_nt k 4000 { gcd_h6 x y b3_0 b3_1 b4_0 b4_1 with K := .lp 6 :: (gcd_h6 x y b3_0 b3_1 b4_0 b4_1).K } (.node 7) = gcd_h6_t k x y b3_0 b3_1 b4_0 b4_1 := (go2_eq _ _ _ _ _ _ _ _ _).symm.trans (show go2 Tryz.prog ft tys envBg6 gcd_nt k 4000 { gcd_h6 x y b3_0 b3_1 b4_0 b4_1 with K := .lp 6 :: (gcd_h6 x y b3_0 b3_1 b4_0 b4_1).K } (.node 7) = gcd_h6_t k x y b3_0 b3_1 b4_0 b4_1 by kernel_rfl)
theorem gcd_h6_s (x : Bool × List Int) (y : Bool × List Int) (b3_0 : Bool) (b3_1 : List Int) (b4_0 : Bool) (b4_1 : List Int) {rX : List RV} (hX : ∃ nX, gcd_h6_t (gcd_C.k nX) x y b3_0 b3_1 b4_0 b4_1 = some rX) : gcd_C.Runs 6 (gcd_h6 x y b3_0 b3_1 b4_0 b4_1) rX := by
  obtain ⟨nX, hX⟩ := hX
  exact ⟨nX + 1, (gcd_h6_eq _ x y b3_0 b3_1 b4_0 b4_1).trans hX⟩
theorem gcd_h6_S (x : Bool × List Int) (y : Bool × List Int) (b3_0 : Bool) (b3_1 : List Int) (b4_0 : Bool) (b4_1 : List Int) {rX : List RV} (hX : ∃ n0, ∀ n, n0 ≤ n → gcd_h6_t (gcd_C.k n) x y b3_0 b3_1 b4_0 b4_1 = some rX) : gcd_C.RunsE 6 (gcd_h6 x y b3_0 b3_1 b4_0 b4_1) rX := by
  obtain ⟨n0, hX⟩ := hX
  refine ⟨n0 + 1, fun n hn => ?_⟩
  obtain ⟨q, rfl⟩ : ∃ q, n = q + 1 := ⟨n - 1, by omega⟩
  exact (gcd_h6_eq _ x y b3_0 b3_1 b4_0 b4_1).trans (hX q (by omega))
noncomputable def gcd_h6u1_t (k : Nat → Cfg → Option (List RV)) (x : Bool × List Int) (y : Bool × List Int) (b3_0 : Bool) (b3_1 : List Int) (b4_0 : Bool) (b4_1 : List Int) : Option (List RV) := match decide ((b3_1.length : Int) > 0) with | true => (match decide (okI (b4_0, b4_1)) with | true => (match decide (okI (b3_0, b3_1)) with | true => (match wrdB (b4_0, b4_1) with | true => (match wrdB (b3_0, b3_1) with | true => k 24 (gcd_h24 x y (wrdF (b4_0, b4_1)) (wrdF (b3_0, b3_1))) | false => (match decide (dvdP b4_1 b3_1) with | true => (match decide (LimS (dvR b4_1 b3_1)) with | true => k 6 (gcd_h6u1 x y ((encI (sgnI false (val (dvR b4_1 b3_1)))).1) ((encI (sgnI false (val (dvR b4_1 b3_1)))).2) b3_0 b3_1) | false => none) | false => none)) | false => (match decide (dvdP b4_1 b3_1) with | true => (match decide (LimS (dvR b4_1 b3_1)) with | true => k 6 (gcd_h6u1 x y ((encI (sgnI false (val (dvR b4_1 b3_1)))).1) ((encI (sgnI false (val (dvR b4_1 b3_1)))).2) b3_0 b3_1) | false => none) | false => none)) | false => none) | false => none) | false => (match decide (b4_1.length * 4 ≤ 140737488355328 ∧ b4_1.length ≤ 140737488355328) with | true => (match decide (LimS b4_1) with | true => some [RV.d (.st (.pair .bool (.sl (.int .u32)))) (encI (sgnI false (val b4_1)))] | false => none) | false => none)
theorem gcd_h6u1_eq (k : Nat → Cfg → Option (List RV)) (x : Bool × List Int) (y : Bool × List Int) (b3_0 : Bool) (b3_1 : List Int) (b4_0 : Bool) (b4_1 : List Int) : go Tryz.prog ft tys envBg6 gcd_nt k 4000 { gcd_h6u1 x y b3_0 b3_1 b4_0 b4_1 with K := .lp 6 :: (gcd_h6u1 x y b3_0 b3_1 b4_0 b4_1).K } (.node 7) = gcd_h6u1_t k x y b3_0 b3_1 b4_0 b4_1 := (go2_eq _ _ _ _ _ _ _ _ _).symm.trans (show go2 Tryz.prog ft tys envBg6 gcd_nt k 4000 { gcd_h6u1 x y b3_0 b3_1 b4_0 b4_1 with K := .lp 6 :: (gcd_h6u1 x y b3_0 b3_1 b4_0 b4_1).K } (.node 7) = gcd_h6u1_t k x y b3_0 b3_1 b4_0 b4_1 by kernel_rfl)
theorem gcd_h6u1_s (x : Bool × List Int) (y : Bool × List Int) (b3_0 : Bool) (b3_1 : List Int) (b4_0 : Bool) (b4_1 : List Int) {rX : List RV} (hX : ∃ nX, gcd_h6u1_t (gcd_C.k nX) x y b3_0 b3_1 b4_0 b4_1 = some rX) : gcd_C.Runs 6 (gcd_h6u1 x y b3_0 b3_1 b4_0 b4_1) rX := by
  obtain ⟨nX, hX⟩ := hX
  exact ⟨nX + 1, (gcd_h6u1_eq _ x y b3_0 b3_1 b4_0 b4_1).trans hX⟩
theorem gcd_h6u1_S (x : Bool × List Int) (y : Bool × List Int) (b3_0 : Bool) (b3_1 : List Int) (b4_0 : Bool) (b4_1 : List Int) {rX : List RV} (hX : ∃ n0, ∀ n, n0 ≤ n → gcd_h6u1_t (gcd_C.k n) x y b3_0 b3_1 b4_0 b4_1 = some rX) : gcd_C.RunsE 6 (gcd_h6u1 x y b3_0 b3_1 b4_0 b4_1) rX := by
  obtain ⟨n0, hX⟩ := hX
  refine ⟨n0 + 1, fun n hn => ?_⟩
  obtain ⟨q, rfl⟩ : ∃ q, n = q + 1 := ⟨n - 1, by omega⟩
  exact (gcd_h6u1_eq _ x y b3_0 b3_1 b4_0 b4_1).trans (hX q (by omega))
def gcd_h24_t (k : Nat → Cfg → Option (List RV)) (x : Bool × List Int) (y : Bool × List Int) (s7 : Int) (s9 : Int) : Option (List RV) := match decide (s9 > 0) with | true => (match decide (s9 = (0 : Int)) with | true => none | false => k 24 (gcd_h24 x y s9 (Int.tmod s7 s9))) | false => (match decide (u64P s7) with | true => (match decide (LimS (dig 3 s7)) with | true => some [RV.d (.st (.pair .bool (.sl (.int .u32)))) (encI (sgnI false (val (dig 3 s7))))] | false => none) | false => none)
theorem gcd_h24_eq (k : Nat → Cfg → Option (List RV)) (x : Bool × List Int) (y : Bool × List Int) (s7 : Int) (s9 : Int) : go Tryz.prog ft tys envBg6 gcd_nt k 4000 { gcd_h24 x y s7 s9 with K := .lp 24 :: (gcd_h24 x y s7 s9).K } (.node 25) = gcd_h24_t k x y s7 s9 := (go2_eq _ _ _ _ _ _ _ _ _).symm.trans (show go2 Tryz.prog ft tys envBg6 gcd_nt k 4000 { gcd_h24 x y s7 s9 with K := .lp 24 :: (gcd_h24 x y s7 s9).K } (.node 25) = gcd_h24_t k x y s7 s9 by kernel_rfl)
theorem gcd_h24_s (x : Bool × List Int) (y : Bool × List Int) (s7 : Int) (s9 : Int) {rX : List RV} (hX : ∃ nX, gcd_h24_t (gcd_C.k nX) x y s7 s9 = some rX) : gcd_C.Runs 24 (gcd_h24 x y s7 s9) rX := by
  obtain ⟨nX, hX⟩ := hX
  exact ⟨nX + 1, (gcd_h24_eq _ x y s7 s9).trans hX⟩
theorem gcd_h24_S (x : Bool × List Int) (y : Bool × List Int) (s7 : Int) (s9 : Int) {rX : List RV} (hX : ∃ n0, ∀ n, n0 ≤ n → gcd_h24_t (gcd_C.k n) x y s7 s9 = some rX) : gcd_C.RunsE 24 (gcd_h24 x y s7 s9) rX := by
  obtain ⟨n0, hX⟩ := hX
  refine ⟨n0 + 1, fun n hn => ?_⟩
  obtain ⟨q, rfl⟩ : ∃ q, n = q + 1 := ⟨n - 1, by omega⟩
  exact (gcd_h24_eq _ x y s7 s9).trans (hX q (by omega))
theorem gcd_word (x y : BI) (B : Nat) (hB : (B : Int) < 18446744073709551616) : ∀ (v u : Nat), u ≤ B → v ≤ B → gcd_C.RunsE 24 (gcd_h24 x y (u : Int) (v : Int)) [.d (.st (.pair .bool (.sl (.int .u32)))) (encI ((Nat.gcd u v : Nat) : Int))] := by
  intro v
  induction v using Nat.strongRecOn with
  | ind v ih =>
    intro u hu hv
    rcases Nat.eq_zero_or_pos v with h0 | h0
    · refine gcd_h24_S _ _ _ _ ⟨0, fun n _ => ?_⟩
      have hp : u64P (u : Int) := ⟨by omega, by omega⟩
      unfold gcd_h24_t
      rw [decide_eq_false (show ¬ (v : Int) > 0 by omega), decide_eq_true hp, decide_eq_true (dig_limS (n := 3) (by decide) (u : Int)), dig3_val hp, show Nat.gcd u v = u by rw [h0]; exact Nat.gcd_zero_right u]
      rfl
    · obtain ⟨n0, hn⟩ := ih (u % v) (Nat.mod_lt _ h0) v hv (Nat.le_trans (Nat.le_of_lt (Nat.mod_lt _ h0)) hv)
      refine gcd_h24_S _ _ _ _ ⟨n0, fun n hn' => ?_⟩
      unfold gcd_h24_t
      rw [decide_eq_true (by omega), decide_eq_false (by omega), tmodP (by omega)]
      dsimp only
      rw [show ((u : Int) % (v : Int)) = ((u % v : Nat) : Int) by simp, Nat.gcd_comm u v, Nat.gcd_rec v u, Nat.gcd_comm]
      exact hn n hn'
theorem sgn_false (v : Int) : sgnI false v = v := rfl
theorem enc_nat (u : Nat) : encI (u : Int) = (false, limbs u) := by unfold encI; rw [decide_eq_false (by omega), Int.natAbs_natCast]
theorem wrd_small {u : Nat} (h : (limbs u).length ≤ 2) : u ≤ (pw 2).toNat := by
  have h1 := val_lt (limbs_lim u)
  rw [limbs_val] at h1
  have h2 := pw_mono h
  omega
theorem wrd_pw : (((pw 2).toNat : Nat) : Int) < 18446744073709551616 := by
  have h3 : pw 2 = 1000000000000000000 := by decide
  rw [h3]
  decide
/-- One step of the algorithm, told for both orders of its variables. -/
theorem gcd_step {k : Nat → Cfg → Option (List RV)} {u v : Nat} (hu : szI u ≤ 1000000) (hv : szI v ≤ 1000000) {r : List RV} {H : Int → Int → Cfg} {D : Int → Cfg}
    (h1 : v = 0 → r = [.d (.st (.pair .bool (.sl (.int .u32)))) (encI (u : Int))]) (h2 : v ≠ 0 → wrdB (encI (u : Int)) = true → wrdB (encI (v : Int)) = true → k 24 (H (u : Int) (v : Int)) = some r) (h3 : v ≠ 0 → k 6 (D ((u % v : Nat) : Int)) = some r) (D' : List Int → Cfg) (hD : D' (dvR (limbs u) (limbs v)) = D (val (dvR (limbs u) (limbs v)))) :
    (match decide (((limbs v).length : Int) > 0) with
      | true => (match decide (okI (encI (u : Int))) with
        | true => (match decide (okI (encI (v : Int))) with
          | true => (match wrdB (encI (u : Int)) with
            | true => (match wrdB (encI (v : Int)) with
              | true => k 24 (H (wrdF (encI (u : Int))) (wrdF (encI (v : Int))))
              | false => (match decide (dvdP (limbs u) (limbs v)) with
                | true => (match decide (LimS (dvR (limbs u) (limbs v))) with
                  | true => k 6 (D' (dvR (limbs u) (limbs v)))
                  | false => none)
                | false => none))
            | false => (match decide (dvdP (limbs u) (limbs v)) with
                | true => (match decide (LimS (dvR (limbs u) (limbs v))) with
                  | true => k 6 (D' (dvR (limbs u) (limbs v)))
                  | false => none)
                | false => none))
          | false => none)
        | false => none)
      | false => (match decide ((limbs u).length * 4 ≤ 140737488355328 ∧ (limbs u).length ≤ 140737488355328) with
        | true => (match decide (LimS (limbs u)) with
          | true => some [.d (.st (.pair .bool (.sl (.int .u32)))) (encI (sgnI false (val (limbs u))))]
          | false => none)
        | false => none)) = some r := by
  have lu : (limbs u).length ≤ 1000000 := by have := hu; unfold szI at this; rwa [Int.natAbs_natCast] at this
  have lv : (limbs v).length ≤ 1000000 := by have := hv; unfold szI at this; rwa [Int.natAbs_natCast] at this
  rcases Nat.eq_zero_or_pos v with h0 | h0
  · subst h0
    rw [h1 rfl, show decide (((limbs 0).length : Int) > 0) = false from rfl, decide_eq_true (show (limbs u).length * 4 ≤ 140737488355328 ∧ (limbs u).length ≤ 140737488355328 by omega), decide_eq_true (show LimS (limbs u) from ⟨limbs_lim u, by omega⟩), limbs_val]
    rfl
  · have hne : limbs v ≠ [] := fun e => by rw [limbs_nil] at e; omega
    have hl := List.length_pos_iff.2 hne
    have hvv := limbs_val v
    have hvu := limbs_val u
    have hdv : dvdP (limbs u) (limbs v) := ⟨⟨limbs_lim u, by omega⟩, ⟨limbs_lim v, by omega⟩, by omega⟩
    obtain ⟨_, lr, _, sr, _, vr⟩ := dv_ok hdv
    have hD2 : k 6 (D' (dvR (limbs u) (limbs v))) = some r := by
      rw [hD, vr, hvv, hvu]
      exact h3 (by omega)
    rw [decide_eq_true (by omega), decide_eq_true (okI_enc hu), decide_eq_true (okI_enc hv), decide_eq_true hdv, decide_eq_true (show LimS (dvR (limbs u) (limbs v)) from ⟨lr, by omega⟩)]
    dsimp only
    cases hb1 : wrdB (encI (u : Int))
    · exact hD2
    · cases hb2 : wrdB (encI (v : Int))
      · exact hD2
      · dsimp only
        have := h2 (by omega) hb1 hb2
        unfold wrdF
        rw [hb1, hb2]
        simp only [cond_true, enc_nat]
        rw [hvv, hvu]
        exact this
theorem gcd_loop (x y : BI) : ∀ (v u : Nat), szI u ≤ 1000000 → szI v ≤ 1000000 →
    gcd_C.RunsE 6 (gcd_h6 x y false (limbs u) false (limbs v)) [.d (.st (.pair .bool (.sl (.int .u32)))) (encI ((Nat.gcd u v : Nat) : Int))] ∧ gcd_C.RunsE 6 (gcd_h6u1 x y false (limbs v) false (limbs u)) [.d (.st (.pair .bool (.sl (.int .u32)))) (encI ((Nat.gcd u v : Nat) : Int))] := by
  intro v
  induction v using Nat.strongRecOn with
  | ind v ih =>
    intro u hu hv
    have hw : wrdB (encI (u : Int)) = true → wrdB (encI (v : Int)) = true → gcd_C.RunsE 24 (gcd_h24 x y (u : Int) (v : Int)) [.d (.st (.pair .bool (.sl (.int .u32)))) (encI ((Nat.gcd u v : Nat) : Int))] := fun h1 h2 => by
      unfold wrdB at h1 h2
      rw [enc_nat] at h1 h2
      exact gcd_word x y _ wrd_pw v u (wrd_small (of_decide_eq_true h1)) (wrd_small (of_decide_eq_true h2))
    have hd : v ≠ 0 → gcd_C.RunsE 6 (gcd_h6 x y false (limbs v) false (limbs (u % v))) [.d (.st (.pair .bool (.sl (.int .u32)))) (encI ((Nat.gcd u v : Nat) : Int))] ∧ gcd_C.RunsE 6 (gcd_h6u1 x y false (limbs (u % v)) false (limbs v)) [.d (.st (.pair .bool (.sl (.int .u32)))) (encI ((Nat.gcd u v : Nat) : Int))] := fun h0 => by
      have hm := Nat.mod_lt u (Nat.pos_of_ne_zero h0)
      have := ih (u % v) hm v hv (Nat.le_trans (szI_of_le (by omega)) hv)
      rw [Nat.gcd_comm u v, Nat.gcd_rec v u, Nat.gcd_comm (u % v) v]
      exact this
    have hcommon : ∃ n0, ∀ n, n0 ≤ n → (wrdB (encI (u : Int)) = true → wrdB (encI (v : Int)) = true → gcd_C.k n 24 (gcd_h24 x y (u : Int) (v : Int)) = some [.d (.st (.pair .bool (.sl (.int .u32)))) (encI ((Nat.gcd u v : Nat) : Int))]) ∧ (v ≠ 0 → gcd_C.k n 6 (gcd_h6 x y false (limbs v) false (limbs (u % v))) = some [.d (.st (.pair .bool (.sl (.int .u32)))) (encI ((Nat.gcd u v : Nat) : Int))] ∧ gcd_C.k n 6 (gcd_h6u1 x y false (limbs (u % v)) false (limbs v)) = some [.d (.st (.pair .bool (.sl (.int .u32)))) (encI ((Nat.gcd u v : Nat) : Int))]) := by
      have g1 : ∃ n1, ∀ n, n1 ≤ n → (wrdB (encI (u : Int)) = true → wrdB (encI (v : Int)) = true → gcd_C.k n 24 (gcd_h24 x y (u : Int) (v : Int)) = some [.d (.st (.pair .bool (.sl (.int .u32)))) (encI ((Nat.gcd u v : Nat) : Int))]) := by
        by_cases hb : wrdB (encI (u : Int)) = true ∧ wrdB (encI (v : Int)) = true
        · obtain ⟨n, h⟩ := hw hb.1 hb.2
          exact ⟨n, fun m hm _ _ => h m hm⟩
        · exact ⟨0, fun n _ h1 h2 => absurd ⟨h1, h2⟩ hb⟩
      have g2 : ∃ n1, ∀ n, n1 ≤ n → (v ≠ 0 → gcd_C.k n 6 (gcd_h6 x y false (limbs v) false (limbs (u % v))) = some [.d (.st (.pair .bool (.sl (.int .u32)))) (encI ((Nat.gcd u v : Nat) : Int))] ∧ gcd_C.k n 6 (gcd_h6u1 x y false (limbs (u % v)) false (limbs v)) = some [.d (.st (.pair .bool (.sl (.int .u32)))) (encI ((Nat.gcd u v : Nat) : Int))]) := by
        by_cases hb : v = 0
        · exact ⟨0, fun n _ h => absurd hb h⟩
        · obtain ⟨⟨n1, h1⟩, ⟨n2, h2⟩⟩ := hd hb
          exact ⟨max n1 n2, fun n hn _ => ⟨h1 n (by omega), h2 n (by omega)⟩⟩
      obtain ⟨n1, h1⟩ := g1
      obtain ⟨n2, h2⟩ := g2
      exact ⟨max n1 n2, fun n hn => ⟨h1 n (by omega), h2 n (by omega)⟩⟩
    obtain ⟨n0, hc⟩ := hcommon
    have hz : v = 0 → ([.d (.st (.pair .bool (.sl (.int .u32)))) (encI ((Nat.gcd u v : Nat) : Int))] : List RV) = [.d (.st (.pair .bool (.sl (.int .u32)))) (encI (u : Int))] := fun e => by subst e; rw [Nat.gcd_zero_right]
    constructor
    · refine gcd_h6_S _ _ _ _ _ _ ⟨n0, fun n hn => ?_⟩
      have := gcd_step (k := gcd_C.k n) hu hv (H := fun a b => gcd_h24 x y a b) (D := fun z => gcd_h6 x y false (limbs v) (encI z).1 (encI z).2) hz (fun _ h1 h2 => (hc n hn).1 h1 h2) (fun h0 => by rw [enc_nat]; exact ((hc n hn).2 h0).1) (fun l => gcd_h6 x y false (limbs v) (encI (sgnI false (val l))).1 (encI (sgnI false (val l))).2) rfl
      rw [enc_nat, enc_nat] at this
      exact this
    · refine gcd_h6u1_S _ _ _ _ _ _ ⟨n0, fun n hn => ?_⟩
      have := gcd_step (k := gcd_C.k n) hu hv (H := fun a b => gcd_h24 x y a b) (D := fun z => gcd_h6u1 x y (encI z).1 (encI z).2 false (limbs v)) hz (fun _ h1 h2 => (hc n hn).1 h1 h2) (fun h0 => by rw [enc_nat]; exact ((hc n hn).2 h0).2) (fun l => gcd_h6u1 x y (encI (sgnI false (val l))).1 (encI (sgnI false (val l))).2 false (limbs v)) rfl
      rw [enc_nat, enc_nat] at this
      exact this
theorem gcd_con (x y : BI) (h : okI x ∧ okI y) : Con Tryz.prog 98 [.d (.st (.pair .bool (.sl (.int .u32)))) x, .d (.st (.pair .bool (.sl (.int .u32)))) y] [.d (.st (.pair .bool (.sl (.int .u32)))) (encI ((Int.gcd (decI x) (decI y) : Nat) : Int))] := by
  refine Ctx.Res.con (C := gcd_C) (ctx_ok envBg6_ok) ?_ (fn := Tryz.f98) (by kernel_rfl) (by kernel_rfl)
  obtain ⟨hx, hy⟩ := h
  obtain ⟨x0, _, _⟩ := okI_val hx
  obtain ⟨y0, _, _⟩ := okI_val hy
  have ex : ((decI x).natAbs : Int) = val x.2 := by rw [decI_sgn]; unfold sgnI; cases x.1 <;> simp <;> omega
  have ey : ((decI y).natAbs : Int) = val y.2 := by rw [decI_sgn]; unfold sgnI; cases y.1 <;> simp <;> omega
  have szx : szI ((decI x).natAbs : Int) ≤ 1000000 := Nat.le_trans (szI_of_le (by omega)) (okI_sz hx)
  have szy : szI ((decI y).natAbs : Int) ≤ 1000000 := Nat.le_trans (szI_of_le (by omega)) (okI_sz hy)
  obtain ⟨⟨n1, h1⟩, ⟨n2, h2⟩⟩ := gcd_loop x y (decI y).natAbs (decI x).natAbs szx szy
  refine gcd_s _ _ ⟨max n1 n2, ?_⟩
  have h1 := h1 (max n1 n2) (by omega)
  have h2 := h2 (max n1 n2) (by omega)
  unfold gcd_t
  simp only [dup_eq]
  rw [decide_eq_true (okI_lim hx), decide_eq_true (okI_lim hy), sgn_false, sgn_false, ← ex, ← ey, enc_nat, enc_nat]
  dsimp only
  rw [h1, h2]
  simp only [bothV_self]
  rfl
end Go.Proofs.YtcaiedfkohigjaaGreat
/- rational. -/
namespace Go.Proofs.YtcaiedfkohigjaaGreat
open Go.RowKit
abbrev BR := BI × BI
def encR (q : Rat) : BR := (encI q.num, encI (q.den : Int))
def decR (x : BR) : Rat := mkRat (decI x.1) (decI x.2).toNat
theorem dec_encR (q : Rat) : decR (encR q) = q := by
  unfold decR encR
  dsimp only
  rw [dec_enc, dec_enc, Int.toNat_natCast, Rat.mkRat_self]
def okR (x : BR) : Prop := okI x.1 ∧ okI x.2 ∧ 0 < decI x.2 ∧ Int.gcd (decI x.1) (decI x.2) = 1 ∧ x.1.2.length ≤ 100000 ∧ x.2.2.length ≤ 100000
instance (x : BR) : Decidable (okR x) := by unfold okR; infer_instance
theorem okR_num {x : BR} (h : okR x) : (decR x).num = decI x.1 ∧ ((decR x).den : Int) = decI x.2 := by
  obtain ⟨h1, h2, h3, h4, _⟩ := h
  unfold decR
  rw [Rat.num_mkRat, Rat.den_mkRat]
  have hg : (decI x.2).toNat.gcd (decI x.1).natAbs = 1 := by
    rw [Nat.gcd_comm, show (decI x.2).toNat = (decI x.2).natAbs by omega]
    exact h4
  rw [hg, if_neg (by omega), if_neg (by omega)]
  constructor
  · simp
  · rw [Nat.div_one]; omega
theorem okR_eq {x : BR} (h : okR x) : x = encR (decR x) := by
  obtain ⟨e1, e2⟩ := okR_num h
  unfold encR
  rw [e1, e2, ← okI_eq h.1, ← okI_eq h.2.1]
/-- Both numbers of a fraction have at most k limbs. -/
def bdR (k : Nat) (q : Rat) : Prop := szI q.num ≤ k ∧ szI (q.den : Int) ≤ k
theorem okR_enc {q : Rat} {k : Nat} (h : bdR k q) (hk : k ≤ 100000) : okR (encR q) := by
  obtain ⟨h1, h2⟩ := h
  have hd := q.den_pos
  refine ⟨okI_enc (by omega), okI_enc (by omega), ?_, ?_, by show szI q.num ≤ 100000; omega, by show szI (q.den : Int) ≤ 100000; omega⟩
  · show 0 < decI (encI (q.den : Int))
    rw [dec_enc]; omega
  · show Int.gcd (decI (encI q.num)) (decI (encI (q.den : Int))) = 1
    rw [dec_enc, dec_enc]
    exact q.reduced
theorem okR_bd {x : BR} (h : okR x) : bdR 100000 (decR x) := by
  obtain ⟨e1, e2⟩ := okR_num h
  obtain ⟨h1, h2, _, _, h5, h6⟩ := h
  unfold bdR szI
  rw [e1, e2]
  rw [okI_eq h1] at h5
  rw [okI_eq h2] at h6
  exact ⟨h5, h6⟩
theorem bdR_mono {j k : Nat} {q : Rat} (h : bdR j q) (hk : j ≤ k) : bdR k q := ⟨Nat.le_trans h.1 hk, Nat.le_trans h.2 hk⟩
theorem div_abs (a : Int) (g : Nat) : (a / (g : Int)).natAbs ≤ a.natAbs ∨ ¬ (g : Int) ∣ a := by
  by_cases h : (g : Int) ∣ a
  · left
    obtain ⟨k, rfl⟩ := h
    rcases Nat.eq_zero_or_pos g with h0 | h0
    · subst h0; simp
    · rw [Int.mul_ediv_cancel_left _ (by omega), Int.natAbs_mul]
      exact Nat.le_mul_of_pos_left _ (by omega)
  · exact .inr h
theorem bdR_mk {n : Int} {d : Nat} {k : Nat} (hd : d ≠ 0) (h1 : szI n ≤ k) (h2 : szI (d : Int) ≤ k) : bdR k (mkRat n d) := by
  unfold bdR
  rw [Rat.num_mkRat, Rat.den_mkRat, if_neg hd, if_neg hd]
  constructor
  · refine Nat.le_trans (szI_of_le ?_) h1
    refine (div_abs n (d.gcd n.natAbs)).resolve_right (fun h => h ?_)
    have := Nat.gcd_dvd_right d n.natAbs
    exact Int.ofNat_dvd_left.2 this
  · exact Nat.le_trans (szI_of_le (by rw [Int.natAbs_natCast, Int.natAbs_natCast]; exact Nat.div_le_self _ _)) h2
theorem bdR_neg {k : Nat} {a : Rat} (h : bdR k a) : bdR k (-a) := by
  refine ⟨?_, h.2⟩
  rw [Rat.neg_num, szI_neg]
  exact h.1
theorem bdR_add {j k : Nat} {a b : Rat} (ha : bdR j a) (hb : bdR k b) : bdR (j + k + 1) (a + b) := by
  rw [Rat.add_def']
  have d1 := a.den_pos
  have d2 := b.den_pos
  refine bdR_mk (Nat.mul_ne_zero (by omega) (by omega)) (szI_add (szI_mul ha.1 hb.2) ?_) ?_
  · rw [Nat.add_comm]; exact szI_mul hb.1 ha.2
  · rw [Int.natCast_mul]; exact Nat.le_trans (szI_mul ha.2 hb.2) (by omega)
theorem bdR_sub {j k : Nat} {a b : Rat} (ha : bdR j a) (hb : bdR k b) : bdR (j + k + 1) (a - b) := by
  rw [Rat.sub_eq_add_neg]; exact bdR_add ha (bdR_neg hb)
theorem bdR_mul {j k : Nat} {a b : Rat} (ha : bdR j a) (hb : bdR k b) : bdR (j + k) (a * b) := by
  rw [Rat.mul_def']
  have d1 := a.den_pos
  have d2 := b.den_pos
  refine bdR_mk (Nat.mul_ne_zero (by omega) (by omega)) (szI_mul ha.1 hb.1) ?_
  rw [Int.natCast_mul]
  exact szI_mul ha.2 hb.2
theorem bdR_inv {k : Nat} {a : Rat} (h : bdR k a) (h0 : a ≠ 0) : bdR k a⁻¹ := by
  have hn : a.num ≠ 0 := fun e => h0 (Rat.num_eq_zero.1 e)
  rw [Rat.inv_def]
  rcases Int.lt_or_lt_of_ne hn with h1 | h1
  · rw [← Rat.neg_divInt_neg, show -a.num = (((-a.num).toNat : Nat) : Int) by omega, Rat.divInt_ofNat]
    refine bdR_mk (by omega) (by rw [szI_neg]; exact h.2) ?_
    rw [show (((-a.num).toNat : Nat) : Int) = -a.num by omega, szI_neg]
    exact h.1
  · rw [show a.num = ((a.num.toNat : Nat) : Int) by omega, Rat.divInt_ofNat]
    refine bdR_mk (by omega) h.2 ?_
    rw [show ((a.num.toNat : Nat) : Int) = a.num by omega]
    exact h.1
theorem bdR_div {j k : Nat} {a b : Rat} (ha : bdR j a) (hb : bdR k b) (h0 : b ≠ 0) : bdR (j + k) (a / b) := by
  rw [Rat.div_def]; exact bdR_mul ha (bdR_inv hb h0)
def redR (x y : BI) : BR := encR (Rat.divInt (decI x) (decI y))
def redP (x y : BI) : Prop := okI x ∧ okI y ∧ decI y ≠ 0
instance (x y : BI) : Decidable (redP x y) := by unfold redP; infer_instance
theorem enc_divInt {n d : Int} (hd : 0 < d) : encR (Rat.divInt n d) = (encI (n / (Int.gcd n d : Int)), encI (d / (Int.gcd n d : Int))) := by
  obtain ⟨D, rfl⟩ := Int.eq_ofNat_of_zero_le (Int.le_of_lt hd)
  unfold encR
  rw [Rat.divInt_ofNat, Rat.num_mkRat, Rat.den_mkRat, if_neg (by omega), if_neg (by omega)]
  have e : Int.gcd n (D : Int) = D.gcd n.natAbs := by rw [Nat.gcd_comm]; rfl
  rw [e, Int.natCast_ediv]
def isg_sp : Spec := { keep := true, run := fun _ args k => match args with
  | [.d (.st (.pair .bool (.sl (.int .u32)))) x] => match decide (okI x) with
    | true => k [RV.d (.int .i64) (cmpI (decI x) 0)]
    | false => none
  | _ => none }
theorem isg_spec : callable Tryz.prog 79 = true ∧ SpecOk Tryz.prog 79 isg_sp ∧ ∀ g, isg_sp.mut_ = some g → MCon Tryz.prog 79 g := by
  refine ⟨by kernel_rfl, fun R args k r h => ?_, fun g h => by simp [isg_sp] at h⟩
  unfold isg_sp at h
  dsimp only at h
  split at h <;> try (cases h; done)
  split at h <;> try (cases h; done)
  rename_i hd
  exact ⟨_, h, isg_con _ (of_decide_eq_true hd)⟩

def icm_sp : Spec := { keep := true, run := fun _ args k => match args with
  | [.d (.st (.pair .bool (.sl (.int .u32)))) x, .d (.st (.pair .bool (.sl (.int .u32)))) y] => match decide (okI x ∧ okI y) with
    | true => k [RV.d (.int .i64) (cmpI (decI x) (decI y))]
    | false => none
  | _ => none }
theorem icm_spec : callable Tryz.prog 55 = true ∧ SpecOk Tryz.prog 55 icm_sp ∧ ∀ g, icm_sp.mut_ = some g → MCon Tryz.prog 55 g := by
  refine ⟨by kernel_rfl, fun R args k r h => ?_, fun g h => by simp [icm_sp] at h⟩
  unfold icm_sp at h
  dsimp only at h
  split at h <;> try (cases h; done)
  split at h <;> try (cases h; done)
  rename_i hd
  exact ⟨_, h, icm_con _ _ (of_decide_eq_true hd)⟩

def ing_sp : Spec := { keep := false, run := fun _ args k => match args with
  | [.d (.st (.pair .bool (.sl (.int .u32)))) x] => match decide (okI x) with
    | true => k [RV.d (.st (.pair .bool (.sl (.int .u32)))) (encI (-decI x))]
    | false => none
  | _ => none }
theorem ing_spec : callable Tryz.prog 97 = true ∧ SpecOk Tryz.prog 97 ing_sp ∧ ∀ g, ing_sp.mut_ = some g → MCon Tryz.prog 97 g := by
  refine ⟨by kernel_rfl, fun R args k r h => ?_, fun g h => by simp [ing_sp] at h⟩
  unfold ing_sp at h
  dsimp only at h
  split at h <;> try (cases h; done)
  split at h <;> try (cases h; done)
  rename_i hd
  exact ⟨_, h, ing_con _ (of_decide_eq_true hd)⟩

def imu_sp : Spec := { keep := false, run := fun _ args k => match args with
  | [.d (.st (.pair .bool (.sl (.int .u32)))) x, .d (.st (.pair .bool (.sl (.int .u32)))) y] => match decide (okI x ∧ okI y) with
    | true => k [RV.d (.st (.pair .bool (.sl (.int .u32)))) (encI (decI x * decI y))]
    | false => none
  | _ => none }
theorem imu_spec : callable Tryz.prog 56 = true ∧ SpecOk Tryz.prog 56 imu_sp ∧ ∀ g, imu_sp.mut_ = some g → MCon Tryz.prog 56 g := by
  refine ⟨by kernel_rfl, fun R args k r h => ?_, fun g h => by simp [imu_sp] at h⟩
  unfold imu_sp at h
  dsimp only at h
  split at h <;> try (cases h; done)
  split at h <;> try (cases h; done)
  rename_i hd
  exact ⟨_, h, imu_con _ _ (of_decide_eq_true hd)⟩

def idm_sp : Spec := { keep := false, run := fun _ args k => match args with
  | [.d (.st (.pair .bool (.sl (.int .u32)))) x, .d (.st (.pair .bool (.sl (.int .u32)))) y] => match decide (idmP x y) with
    | true => k [RV.d (.st (.pair .bool (.sl (.int .u32)))) (encI (decI x / decI y)), RV.d (.st (.pair .bool (.sl (.int .u32)))) (encI (decI x % decI y)), RV.d (.int .i64) 0]
    | false => none
  | _ => none }
theorem idm_spec : callable Tryz.prog 117 = true ∧ SpecOk Tryz.prog 117 idm_sp ∧ ∀ g, idm_sp.mut_ = some g → MCon Tryz.prog 117 g := by
  refine ⟨by kernel_rfl, fun R args k r h => ?_, fun g h => by simp [idm_sp] at h⟩
  unfold idm_sp at h
  dsimp only at h
  split at h <;> try (cases h; done)
  split at h <;> try (cases h; done)
  rename_i hd
  exact ⟨_, h, idm_con _ _ (of_decide_eq_true hd)⟩

def gcd_sp : Spec := { keep := false, run := fun _ args k => match args with
  | [.d (.st (.pair .bool (.sl (.int .u32)))) x, .d (.st (.pair .bool (.sl (.int .u32)))) y] => match decide (okI x ∧ okI y) with
    | true => k [RV.d (.st (.pair .bool (.sl (.int .u32)))) (encI ((Int.gcd (decI x) (decI y) : Nat) : Int))]
    | false => none
  | _ => none }
theorem gcd_spec : callable Tryz.prog 98 = true ∧ SpecOk Tryz.prog 98 gcd_sp ∧ ∀ g, gcd_sp.mut_ = some g → MCon Tryz.prog 98 g := by
  refine ⟨by kernel_rfl, fun R args k r h => ?_, fun g h => by simp [gcd_sp] at h⟩
  unfold gcd_sp at h
  dsimp only at h
  split at h <;> try (cases h; done)
  split at h <;> try (cases h; done)
  rename_i hd
  exact ⟨_, h, gcd_con _ _ (of_decide_eq_true hd)⟩

def envBg7 : Env := [(60, fri_sp), (79, isg_sp), (55, icm_sp), (144, iad_sp), (97, ing_sp), (56, imu_sp), (117, idm_sp), (98, gcd_sp)]
theorem envBg7_ok : EnvAll Tryz.prog envBg7 := ⟨fri_spec, isg_spec, icm_spec, iad_spec, ing_spec, imu_spec, idm_spec, gcd_spec, trivial⟩
def unt_nt : NT := []
noncomputable def unt_C : Ctx := ⟨Tryz.prog, ft, tys, envBg7, unt_nt⟩
def unt_t (_k : Nat → Cfg → Option (List RV)) : Option (List RV) := match decide (i64P (1 : Int)) with | true => some [RV.d (.st (.pair .bool (.sl (.int .u32)))) (encI (1 : Int))] | false => none
theorem unt_eq (k : Nat → Cfg → Option (List RV)) : go Tryz.prog ft tys envBg7 unt_nt k 4000 (start 88 []) (.node 0) = unt_t k := (go2_eq _ _ _ _ _ _ _ _ _).symm.trans (show go2 Tryz.prog ft tys envBg7 unt_nt k 4000 (start 88 []) (.node 0) = unt_t k by kernel_rfl)
theorem unt_s {rX : List RV} (hX : ∃ nX, unt_t (unt_C.k nX) = some rX) : unt_C.Res 88 [] rX := by
  obtain ⟨nX, hX⟩ := hX
  exact ⟨nX, (unt_eq _).trans hX⟩
def exa_nt : NT := []
noncomputable def exa_C : Ctx := ⟨Tryz.prog, ft, tys, envBg7, exa_nt⟩
def exa_t (_k : Nat → Cfg → Option (List RV)) (x : Bool × List Int) (y : Bool × List Int) : Option (List RV) := match decide (idmP x y) with | true => some [RV.d (.st (.pair .bool (.sl (.int .u32)))) (encI (decI x / decI y))] | false => none
theorem exa_eq (k : Nat → Cfg → Option (List RV)) (x : Bool × List Int) (y : Bool × List Int) : go Tryz.prog ft tys envBg7 exa_nt k 4000 (start 99 [.d (.st (.pair .bool (.sl (.int .u32)))) x, .d (.st (.pair .bool (.sl (.int .u32)))) y]) (.node 0) = exa_t k x y := (go2_eq _ _ _ _ _ _ _ _ _).symm.trans (show go2 Tryz.prog ft tys envBg7 exa_nt k 4000 (start 99 [.d (.st (.pair .bool (.sl (.int .u32)))) x, .d (.st (.pair .bool (.sl (.int .u32)))) y]) (.node 0) = exa_t k x y by kernel_rfl)
theorem exa_s (x : Bool × List Int) (y : Bool × List Int) {rX : List RV} (hX : ∃ nX, exa_t (exa_C.k nX) x y = some rX) : exa_C.Res 99 [.d (.st (.pair .bool (.sl (.int .u32)))) x, .d (.st (.pair .bool (.sl (.int .u32)))) y] rX := by
  obtain ⟨nX, hX⟩ := hX
  exact ⟨nX, (exa_eq _ x y).trans hX⟩
theorem unt_con : Con Tryz.prog 88 [] [.d (.st (.pair .bool (.sl (.int .u32)))) (encI 1)] := by
  refine Ctx.Res.con (C := unt_C) (ctx_ok envBg7_ok) (unt_s ⟨0, ?_⟩) (fn := Tryz.f88) (by kernel_rfl) (by kernel_rfl)
  unfold unt_t
  rw [decide_eq_true (show i64P 1 by decide)]
theorem exa_con (x y : BI) (h : idmP x y) : Con Tryz.prog 99 [.d (.st (.pair .bool (.sl (.int .u32)))) x, .d (.st (.pair .bool (.sl (.int .u32)))) y] [.d (.st (.pair .bool (.sl (.int .u32)))) (encI (decI x / decI y))] := by
  refine Ctx.Res.con (C := exa_C) (ctx_ok envBg7_ok) (exa_s _ _ ⟨0, ?_⟩) (fn := Tryz.f99) (by kernel_rfl) (by kernel_rfl)
  unfold exa_t
  rw [decide_eq_true h]
def unt_sp : Spec := { keep := false, run := fun _ args k => match args with
  | [] => k [RV.d (.st (.pair .bool (.sl (.int .u32)))) (encI 1)]
  | _ => none }
theorem unt_spec : callable Tryz.prog 88 = true ∧ SpecOk Tryz.prog 88 unt_sp ∧ ∀ g, unt_sp.mut_ = some g → MCon Tryz.prog 88 g := by
  refine ⟨by kernel_rfl, fun R args k r h => ?_, fun g h => by simp [unt_sp] at h⟩
  unfold unt_sp at h
  dsimp only at h
  split at h <;> try (cases h; done)
  exact ⟨_, h, unt_con ⟩

def exa_sp : Spec := { keep := false, run := fun _ args k => match args with
  | [.d (.st (.pair .bool (.sl (.int .u32)))) x, .d (.st (.pair .bool (.sl (.int .u32)))) y] => match decide (idmP x y) with
    | true => k [RV.d (.st (.pair .bool (.sl (.int .u32)))) (encI (decI x / decI y))]
    | false => none
  | _ => none }
theorem exa_spec : callable Tryz.prog 99 = true ∧ SpecOk Tryz.prog 99 exa_sp ∧ ∀ g, exa_sp.mut_ = some g → MCon Tryz.prog 99 g := by
  refine ⟨by kernel_rfl, fun R args k r h => ?_, fun g h => by simp [exa_sp] at h⟩
  unfold exa_sp at h
  dsimp only at h
  split at h <;> try (cases h; done)
  split at h <;> try (cases h; done)
  rename_i hd
  exact ⟨_, h, exa_con _ _ (of_decide_eq_true hd)⟩

def envBg8 : Env := [(60, fri_sp), (79, isg_sp), (55, icm_sp), (144, iad_sp), (97, ing_sp), (56, imu_sp), (117, idm_sp), (98, gcd_sp), (88, unt_sp), (99, exa_sp)]
theorem envBg8_ok : EnvAll Tryz.prog envBg8 := ⟨fri_spec, isg_spec, icm_spec, iad_spec, ing_spec, imu_spec, idm_spec, gcd_spec, unt_spec, exa_spec, trivial⟩
def red_nt : NT := []
noncomputable def red_C : Ctx := ⟨Tryz.prog, ft, tys, envBg8, red_nt⟩
def red_t (_k : Nat → Cfg → Option (List RV)) (x : Bool × List Int) (y : Bool × List Int) : Option (List RV) := match decide (okI y) with | true => (match decide ((cmpI (decI y) 0) < 0) with | true => (match decide (okI x) with | true => (match decide (okI y) with | true => (match decide (okI (encI (-decI x)) ∧ okI (encI (-decI y))) with | true => (match decide (okI (encI ((Int.gcd (decI (encI (-decI x))) (decI (encI (-decI y))) : Nat) : Int)) ∧ okI (encI 1)) with | true => (match (cmpI (decI (encI ((Int.gcd (decI (encI (-decI x))) (decI (encI (-decI y))) : Nat) : Int))) (decI (encI 1))) != 0 with | true => (match decide (idmP (encI (-decI x)) (encI ((Int.gcd (decI (encI (-decI x))) (decI (encI (-decI y))) : Nat) : Int))) with | true => (match decide (idmP (encI (-decI y)) (encI ((Int.gcd (decI (encI (-decI x))) (decI (encI (-decI y))) : Nat) : Int))) with | true => some [RV.d (.st (.pair (.st (.pair .bool (.sl (.int .u32)))) (.st (.pair .bool (.sl (.int .u32)))))) ((encI (decI (encI (-decI x)) / decI (encI ((Int.gcd (decI (encI (-decI x))) (decI (encI (-decI y))) : Nat) : Int)))), (encI (decI (encI (-decI y)) / decI (encI ((Int.gcd (decI (encI (-decI x))) (decI (encI (-decI y))) : Nat) : Int)))))] | false => none) | false => none) | false => some [RV.d (.st (.pair (.st (.pair .bool (.sl (.int .u32)))) (.st (.pair .bool (.sl (.int .u32)))))) ((encI (-decI x)), (encI (-decI y)))]) | false => none) | false => none) | false => none) | false => none) | false => (match decide (okI x ∧ okI y) with | true => (match decide (okI (encI ((Int.gcd (decI x) (decI y) : Nat) : Int)) ∧ okI (encI 1)) with | true => (match (cmpI (decI (encI ((Int.gcd (decI x) (decI y) : Nat) : Int))) (decI (encI 1))) != 0 with | true => (match decide (idmP x (encI ((Int.gcd (decI x) (decI y) : Nat) : Int))) with | true => (match decide (idmP y (encI ((Int.gcd (decI x) (decI y) : Nat) : Int))) with | true => some [RV.d (.st (.pair (.st (.pair .bool (.sl (.int .u32)))) (.st (.pair .bool (.sl (.int .u32)))))) ((encI (decI x / decI (encI ((Int.gcd (decI x) (decI y) : Nat) : Int)))), (encI (decI y / decI (encI ((Int.gcd (decI x) (decI y) : Nat) : Int)))))] | false => none) | false => none) | false => some [RV.d (.st (.pair (.st (.pair .bool (.sl (.int .u32)))) (.st (.pair .bool (.sl (.int .u32)))))) (x, y)]) | false => none) | false => none)) | false => none
theorem red_eq (k : Nat → Cfg → Option (List RV)) (x : Bool × List Int) (y : Bool × List Int) : go Tryz.prog ft tys envBg8 red_nt k 4000 (start 69 [.d (.st (.pair .bool (.sl (.int .u32)))) x, .d (.st (.pair .bool (.sl (.int .u32)))) y]) (.node 0) = red_t k x y := (go2_eq _ _ _ _ _ _ _ _ _).symm.trans (show go2 Tryz.prog ft tys envBg8 red_nt k 4000 (start 69 [.d (.st (.pair .bool (.sl (.int .u32)))) x, .d (.st (.pair .bool (.sl (.int .u32)))) y]) (.node 0) = red_t k x y by kernel_rfl)
theorem red_s (x : Bool × List Int) (y : Bool × List Int) {rX : List RV} (hX : ∃ nX, red_t (red_C.k nX) x y = some rX) : red_C.Res 69 [.d (.st (.pair .bool (.sl (.int .u32)))) x, .d (.st (.pair .bool (.sl (.int .u32)))) y] rX := by
  obtain ⟨nX, hX⟩ := hX
  exact ⟨nX, (red_eq _ x y).trans hX⟩
theorem gcd_sz {a b : Int} (hb : b ≠ 0) {k : Nat} (h : szI b ≤ k) : szI ((Int.gcd a b : Nat) : Int) ≤ k := by
  refine Nat.le_trans (szI_of_le ?_) h
  rw [Int.natAbs_natCast]
  exact Nat.le_of_dvd (by omega) (Nat.gcd_dvd_right a.natAbs b.natAbs)
theorem red_con (x y : BI) (h : redP x y) : Con Tryz.prog 69 [.d (.st (.pair .bool (.sl (.int .u32)))) x, .d (.st (.pair .bool (.sl (.int .u32)))) y] [.d (.st (.pair (.st (.pair .bool (.sl (.int .u32)))) (.st (.pair .bool (.sl (.int .u32)))))) (redR x y)] := by
  refine Ctx.Res.con (C := red_C) (ctx_ok envBg8_ok) (red_s _ _ ⟨0, ?_⟩) (fn := Tryz.f69) (by kernel_rfl) (by kernel_rfl)
  obtain ⟨hx, hy, hne⟩ := h
  have sx := okI_sz hx
  have sy := okI_sz hy
  have hgp : 0 < Int.gcd (decI x) (decI y) := Nat.pos_of_ne_zero fun e => hne (Int.gcd_eq_zero_iff.1 e).2
  have hgs := gcd_sz (a := decI x) hne sy
  unfold red_t redR
  rw [decide_eq_true hy]
  dsimp only
  rcases Int.lt_or_lt_of_ne hne with hn | hn
  · rw [cmpI_lt hn, decide_eq_true (show (-1 : Int) < 0 by decide), decide_eq_true hx]
    have o1 : okI (encI (-decI x)) := okI_enc (by rw [szI_neg]; exact sx)
    have o2 : okI (encI (-decI y)) := okI_enc (by rw [szI_neg]; exact sy)
    simp only [dec_enc, Int.gcd_neg, Int.neg_gcd]
    have og : okI (encI ((Int.gcd (decI x) (decI y) : Nat) : Int)) := okI_enc hgs
    rw [decide_eq_true (show okI (encI (-decI x)) ∧ okI (encI (-decI y)) from ⟨o1, o2⟩), decide_eq_true (show okI (encI ((Int.gcd (decI x) (decI y) : Nat) : Int)) ∧ okI (encI 1) from ⟨og, okI_one⟩)]
    rw [← Rat.neg_divInt_neg, enc_divInt (by omega), Int.gcd_neg, Int.neg_gcd]
    dsimp only
    by_cases h1 : Int.gcd (decI x) (decI y) = 1
    · rw [h1]
      simp [cmpI_eq]
    · have hc : (cmpI ((Int.gcd (decI x) (decI y) : Nat) : Int) 1 != 0) = true := by
        rw [cmpI_gt (by omega)]; rfl
      rw [hc, decide_eq_true (show idmP (encI (-decI x)) (encI ((Int.gcd (decI x) (decI y) : Nat) : Int)) from ⟨o1, og, by rw [dec_enc]; omega⟩), decide_eq_true (show idmP (encI (-decI y)) (encI ((Int.gcd (decI x) (decI y) : Nat) : Int)) from ⟨o2, og, by rw [dec_enc]; omega⟩)]
  · rw [cmpI_gt hn, decide_eq_false (show ¬ (1 : Int) < 0 by decide)]
    simp only [dec_enc]
    have og : okI (encI ((Int.gcd (decI x) (decI y) : Nat) : Int)) := okI_enc hgs
    rw [decide_eq_true (show okI x ∧ okI y from ⟨hx, hy⟩), decide_eq_true (show okI (encI ((Int.gcd (decI x) (decI y) : Nat) : Int)) ∧ okI (encI 1) from ⟨og, okI_one⟩), enc_divInt hn]
    dsimp only
    by_cases h1 : Int.gcd (decI x) (decI y) = 1
    · rw [h1]
      simp only [Int.natCast_one, cmpI_eq, Int.ediv_one, ← okI_eq hx, ← okI_eq hy]
      rfl
    · have hc : (cmpI ((Int.gcd (decI x) (decI y) : Nat) : Int) 1 != 0) = true := by
        rw [cmpI_gt (by omega)]; rfl
      rw [hc, decide_eq_true (show idmP x (encI ((Int.gcd (decI x) (decI y) : Nat) : Int)) from ⟨hx, og, by rw [dec_enc]; omega⟩), decide_eq_true (show idmP y (encI ((Int.gcd (decI x) (decI y) : Nat) : Int)) from ⟨hy, og, by rw [dec_enc]; omega⟩)]
end Go.Proofs.YtcaiedfkohigjaaGreat
