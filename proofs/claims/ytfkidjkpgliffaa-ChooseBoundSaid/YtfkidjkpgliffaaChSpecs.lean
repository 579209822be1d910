/- Specs of awake, Small, Valid, right. -/
import Derived.Test.YtfkidjkpgliffaaCh3
import Derived.Test.YtfkidjkpgliffaaChAwake
import Derived.Test.YtfkidjkpgliffaaPuX
namespace Go.Proofs.Ytfkidjkpgliffaa
open Go.RowKit
def rightF (reach : List (List Bool)) (cost : List Int) : Bool := smallF reach cost 12 20 && (validF reach cost 200 200 == 0)
def awake_sp : Spec := { keep := true, run := fun _ args k => match args with
  | [] => k [RV.d .bool true]
  | _ => none }
theorem awake_spec : callable Try.prog 33 = true ∧ SpecOk Try.prog 33 awake_sp ∧ ∀ g, awake_sp.mut_ = some g → MCon Try.prog 33 g := by
  refine ⟨by kernel_rfl, fun R args k r h => ?_, fun g h => by simp [awake_sp] at h⟩
  unfold awake_sp at h
  dsimp only at h
  split at h <;> try (cases h; done)
  exact ⟨_, h, awake_con ⟩
def small_sp : Spec := { keep := true, run := fun _ args k => match args with
  | [.d (.sl (.sl .bool)) reach, .d (.sl (.int .i64)) cost, .d (.int .i64) tools, .d (.int .i64) pieces] => match decide (reach.length ≤ 9223372036854775807 ∧ -9223372036854775808 ≤ tools ∧ tools ≤ 9223372036854775806) with
    | true => k [RV.d .bool (smallF reach cost tools pieces)]
    | false => none
  | _ => none }
theorem small_spec : callable Try.prog 34 = true ∧ SpecOk Try.prog 34 small_sp ∧ ∀ g, small_sp.mut_ = some g → MCon Try.prog 34 g := by
  refine ⟨by kernel_rfl, fun R args k r h => ?_, fun g h => by simp [small_sp] at h⟩
  unfold small_sp at h
  dsimp only at h
  split at h <;> try (cases h; done)
  split at h <;> try (cases h; done)
  rename_i hd
  exact ⟨_, h, small_con _ _ _ _ (of_decide_eq_true hd)⟩
def cvalid_sp : Spec := { keep := true, run := fun _ args k => match args with
  | [.d (.sl (.sl .bool)) reach, .d (.sl (.int .i64)) cost, .d (.int .i64) tools, .d (.int .i64) pieces] => match decide (reach.length ≤ 9223372036854775807) with
    | true => k [RV.d (.int .i64) (validF reach cost tools pieces)]
    | false => none
  | _ => none }
theorem cvalid_spec : callable Try.prog 70 = true ∧ SpecOk Try.prog 70 cvalid_sp ∧ ∀ g, cvalid_sp.mut_ = some g → MCon Try.prog 70 g := by
  refine ⟨by kernel_rfl, fun R args k r h => ?_, fun g h => by simp [cvalid_sp] at h⟩
  unfold cvalid_sp at h
  dsimp only at h
  split at h <;> try (cases h; done)
  split at h <;> try (cases h; done)
  rename_i hd
  exact ⟨_, h, cvalid_con _ _ _ _ (of_decide_eq_true hd)⟩
def rvalid_sp : Spec := { keep := true, run := fun _ args k => match args with
  | [.d (.sl (.sl .bool)) reach, .d (.sl (.int .i64)) cost, .d (.int .i64) tools, .d (.int .i64) pieces] => match decide (reach.length ≤ 9223372036854775807) with
    | true => k [RV.d (.int .i64) (validF reach cost tools pieces)]
    | false => none
  | _ => none }
theorem rvalid_spec : callable Try.prog 36 = true ∧ SpecOk Try.prog 36 rvalid_sp ∧ ∀ g, rvalid_sp.mut_ = some g → MCon Try.prog 36 g := by
  refine ⟨by kernel_rfl, fun R args k r h => ?_, fun g h => by simp [rvalid_sp] at h⟩
  unfold rvalid_sp at h
  dsimp only at h
  split at h <;> try (cases h; done)
  split at h <;> try (cases h; done)
  rename_i hd
  exact ⟨_, h, rvalid_con _ _ _ _ (of_decide_eq_true hd)⟩
def envR : Env := [(34, small_sp), (36, rvalid_sp)]
theorem envR_ok : EnvAll Try.prog envR := ⟨small_spec, rvalid_spec, trivial⟩
def right_nt : NT := []
noncomputable def right_C : Ctx := ⟨Try.prog, ft, tys, envR, right_nt⟩
def right_t (_k : Nat → Cfg → Option (List RV)) (reach : List (List Bool)) (cost : List Int) : Option (List RV) := match decide (reach.length ≤ 9223372036854775807 ∧ -9223372036854775808 ≤ (12 : Int) ∧ (12 : Int) ≤ 9223372036854775806) with | true => (match smallF reach cost (12 : Int) (20 : Int) with | true => (match decide (reach.length ≤ 9223372036854775807) with | true => some [RV.d .bool ((validF reach cost (200 : Int) (200 : Int)) == 0)] | false => none) | false => some [RV.d .bool false]) | false => none
theorem right_eq (k : Nat → Cfg → Option (List RV)) (reach : List (List Bool)) (cost : List Int) : go Try.prog ft tys envR right_nt k 4000 (start 42 [.d (.sl (.sl .bool)) reach, .d (.sl (.int .i64)) cost]) (.node 0) = right_t k reach cost := by kernel_rfl
theorem right_s (reach : List (List Bool)) (cost : List Int) {r : List RV} (h : ∃ n, right_t (right_C.k n) reach cost = some r) : right_C.Res 42 [.d (.sl (.sl .bool)) reach, .d (.sl (.int .i64)) cost] r := by
  obtain ⟨n, h⟩ := h
  exact ⟨n, (right_eq _ reach cost).trans h⟩
theorem right_con (reach : List (List Bool)) (cost : List Int) (hb : reach.length ≤ 9223372036854775807) : Con Try.prog 42 [.d (.sl (.sl .bool)) reach, .d (.sl (.int .i64)) cost] [.d .bool (rightF reach cost)] := by
  refine Ctx.Res.con (C := right_C) (ctx_ok envR_ok) ?_ (fn := Try.f42) (by kernel_rfl) (by kernel_rfl)
  refine right_s _ _ ⟨0, ?_⟩
  unfold right_t
  rw [decide_eq_true (show reach.length ≤ 9223372036854775807 from hb), decide_eq_true (show (reach.length ≤ 9223372036854775807 ∧ (-9223372036854775808 : Int) ≤ 12 ∧ (12 : Int) ≤ 9223372036854775806) from ⟨hb, by decide, by decide⟩)]
  dsimp only
  unfold rightF
  cases smallF reach cost 12 20 with
  | false => rfl
  | true => rfl
def right_sp : Spec := { keep := true, run := fun _ args k => match args with
  | [.d (.sl (.sl .bool)) reach, .d (.sl (.int .i64)) cost] => match decide (reach.length ≤ 9223372036854775807) with
    | true => k [RV.d .bool (rightF reach cost)]
    | false => none
  | _ => none }
theorem right_spec : callable Try.prog 42 = true ∧ SpecOk Try.prog 42 right_sp ∧ ∀ g, right_sp.mut_ = some g → MCon Try.prog 42 g := by
  refine ⟨by kernel_rfl, fun R args k r h => ?_, fun g h => by simp [right_sp] at h⟩
  unfold right_sp at h
  dsimp only at h
  split at h <;> try (cases h; done)
  split at h <;> try (cases h; done)
  rename_i hd
  exact ⟨_, h, right_con _ _ (of_decide_eq_true hd)⟩
/-- What a valid table is. -/
theorem bad_len {n0 : Nat} : ∀ {ls : List (List Bool)} {cs : List Int}, ls.length = cs.length → bad n0 ls cs = false → (∀ l ∈ ls, l.length = n0) ∧ ∀ c ∈ cs, 0 ≤ c ∧ c ≤ 2147483648
  | [], [], _, _ => ⟨by simp, by simp⟩
  | l :: ls, c :: cs, h, hb => by
    simp only [bad, Bool.or_eq_false_iff] at hb
    obtain ⟨⟨⟨b1, b2⟩, b3⟩, b4⟩ := hb
    have ⟨i1, i2⟩ := bad_len (by simpa using h) b4
    have h0 : (l.length : Int) = (n0 : Int) := by simpa using b1
    have h1 : l.length = n0 := by omega
    have h2 := of_decide_eq_false b2
    have h3 := of_decide_eq_false b3
    refine ⟨fun x hx => ?_, fun x hx => ?_⟩
    · rcases List.mem_cons.1 hx with rfl | hx
      · exact h1
      · exact i1 x hx
    · rcases List.mem_cons.1 hx with rfl | hx
      · omega
      · exact i2 x hx
/-- A valid table. -/
structure Good (reach : List (List Bool)) (cost : List Int) (nt np : Nat) : Prop where
  n : reach.length ≤ nt
  len : cost.length = reach.length
  p : npc reach ≤ np
  rect : rect reach
  c : ∀ c ∈ cost, 0 ≤ c ∧ c ≤ 2147483648
theorem good_of_valid {reach : List (List Bool)} {cost : List Int} {t p : Nat} (h : validF reach cost (t : Int) (p : Int) = 0) : Good reach cost t p := by
  unfold validF largeF at h
  cases c1 : (decide ((reach.length : Int) > (t : Int)) || reach.any (longer (p : Int))) with
  | true => rw [c1] at h; cases h
  | false =>
    rw [c1] at h
    rw [Bool.or_eq_false_iff] at c1
    have l1 := of_decide_eq_false c1.1
    cases c2 : decide (reach.length ≠ cost.length) with
    | true => rw [c2] at h; cases h
    | false =>
      rw [c2] at h
      have l2 : reach.length = cost.length := by simpa using c2
      cases c3 : bad (reach.headD []).length reach cost with
      | true => rw [c3] at h; cases h
      | false =>
        have ⟨b1, b2⟩ := bad_len l2 c3
        refine ⟨by omega, l2.symm, ?_, b1, b2⟩
        have c4 := c1.2
        unfold npc
        cases reach with
        | nil => simp
        | cons l ls =>
          rw [List.any_cons, Bool.or_eq_false_iff] at c4
          have := of_decide_eq_false (show decide ((l.length : Int) > (p : Int)) = false from c4.1)
          simp; omega
theorem Good.s3 {reach : List (List Bool)} {cost : List Int} {t p : Nat} (h : Good reach cost t p) (ht : t ≤ 1000) (hp : p ≤ 1000) : small3 reach := ⟨Nat.le_trans h.n ht, Nat.le_trans h.p hp, List.all_eq_true.2 fun l hl => decide_eq_true (h.rect l hl)⟩
theorem small_bounds {reach : List (List Bool)} {cost : List Int} {t p : Nat} (h : smallF reach cost (t : Int) (p : Int) = true) : reach.length ≤ t ∧ cost.length ≤ t + 1 ∧ npc reach ≤ p := by
  unfold smallF at h
  rw [Bool.and_eq_true, Bool.and_eq_true] at h
  have h1 : ¬ ((reach.length : Int) > (t : Int)) := by simpa using h.1.1
  have h2 : ¬ ((cost.length : Int) > (t : Int) + 1) := by simpa using h.1.2
  refine ⟨by omega, by omega, ?_⟩
  have h3 : reach.any (longer (p : Int)) = false := by simpa using h.2
  unfold npc
  cases reach with
  | nil => simp
  | cons l ls =>
    rw [List.any_cons, Bool.or_eq_false_iff] at h3
    have := of_decide_eq_false (show decide ((l.length : Int) > (p : Int)) = false from h3.1)
    simp; omega
theorem right_good {reach : List (List Bool)} {cost : List Int} (h : rightF reach cost = true) : Good reach cost 12 20 := by
  unfold rightF at h
  rw [Bool.and_eq_true] at h
  have hs := small_bounds (t := 12) (p := 20) h.1
  have hv := good_of_valid (t := 200) (p := 200) (by simpa using h.2)
  exact ⟨hs.1, hv.len, hs.2.2, hv.rect, hv.c⟩
end Go.Proofs.Ytfkidjkpgliffaa
