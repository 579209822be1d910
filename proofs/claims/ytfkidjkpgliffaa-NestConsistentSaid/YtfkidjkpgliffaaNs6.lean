/- What the laws of layer 39 need: few; the items without a place. -/
import Derived.Test.YtfkidjkpgliffaaNs5
import Derived.Test.YtfkidjkpgliffaaPuX
namespace Go.Proofs.Ytfkidjkpgliffaa
open Go.RowKit
abbrev Cs := Int × Int × Int × List It × List Pl
def fewF (c : Cs) : Bool := (decide ((c.2.2.2.1.length : Int) ≤ 8) || (decide ((c.2.2.2.1.length : Int) > 50) && decide ((c.2.2.2.1.length : Int) < 60))) && decide ((c.2.2.2.2.length : Int) ≤ 8)
def few_nt : NT := []
noncomputable def few_C : Ctx := ⟨Try.prog, ft, tys, [], few_nt⟩
def few_t (_k : Nat → Cfg → Option (List RV)) (c : Int × Int × Int × (List (Int × Int)) × List (Int × Int × Int × Bool)) : Option (List RV) := match decide ((c.2.2.2.1.length : Int) ≤ 8) with | true => some [RV.d .bool (decide ((c.2.2.2.2.length : Int) ≤ 8))] | false => (match decide ((c.2.2.2.1.length : Int) > 50) with | true => (match decide ((c.2.2.2.1.length : Int) < 60) with | true => some [RV.d .bool (decide ((c.2.2.2.2.length : Int) ≤ 8))] | false => some [RV.d .bool false]) | false => some [RV.d .bool false])
theorem few_eq (k : Nat → Cfg → Option (List RV)) (c : Int × Int × Int × (List (Int × Int)) × List (Int × Int × Int × Bool)) : go Try.prog ft tys [] few_nt k 4000 (start 15 [.d (.st (.pair (.int .i64) (.pair (.int .i64) (.pair (.int .i64) (.pair (.sl (.st (.pair (.int .i64) (.int .i64)))) (.sl (.st (.pair (.int .i64) (.pair (.int .i64) (.pair (.int .i64) .bool)))))))))) c]) (.node 0) = few_t k c := by kernel_rfl
theorem few_s (c : Int × Int × Int × (List (Int × Int)) × List (Int × Int × Int × Bool)) {rX : List RV} (hX : ∃ nX, few_t (few_C.k nX) c = some rX) : few_C.Res 15 [.d (.st (.pair (.int .i64) (.pair (.int .i64) (.pair (.int .i64) (.pair (.sl (.st (.pair (.int .i64) (.int .i64)))) (.sl (.st (.pair (.int .i64) (.pair (.int .i64) (.pair (.int .i64) .bool)))))))))) c] rX := by
  obtain ⟨nX, hX⟩ := hX
  exact ⟨nX, (few_eq _ c).trans hX⟩
theorem few_con (c : Cs) : Con Try.prog 15 [.d (.st (.pair (.int .i64) (.pair (.int .i64) (.pair (.int .i64) (.pair (.sl (.st (.pair (.int .i64) (.int .i64)))) (.sl (.st (.pair (.int .i64) (.pair (.int .i64) (.pair (.int .i64) .bool)))))))))) c] [.d .bool (fewF c)] := by
  refine Ctx.Res.con (C := few_C) (ctx_ok (E := []) trivial) ?_ (fn := Try.f15) (by kernel_rfl) (by kernel_rfl)
  refine few_s _ ⟨0, ?_⟩
  unfold few_t fewF
  generalize decide ((c.2.2.2.1.length : Int) ≤ 8) = b1
  generalize decide ((c.2.2.2.1.length : Int) > 50) = b2
  generalize decide ((c.2.2.2.1.length : Int) < 60) = b3
  cases b1 <;> cases b2 <;> cases b3 <;> rfl
def few_sp : Spec := { keep := true, run := fun _ args k => match args with
  | [.d (.st (.pair (.int .i64) (.pair (.int .i64) (.pair (.int .i64) (.pair (.sl (.st (.pair (.int .i64) (.int .i64)))) (.sl (.st (.pair (.int .i64) (.pair (.int .i64) (.pair (.int .i64) .bool)))))))))) c] => k [RV.d .bool (fewF c)]
  | _ => none }
theorem few_spec : callable Try.prog 15 = true ∧ SpecOk Try.prog 15 few_sp ∧ ∀ g, few_sp.mut_ = some g → MCon Try.prog 15 g := by
  refine ⟨by kernel_rfl, fun R args k r h => ?_, fun g h => by simp [few_sp] at h⟩
  unfold few_sp at h
  dsimp only at h
  split at h <;> try (cases h; done)
  exact ⟨_, h, few_con _ ⟩
def awk_sp : Spec := { keep := true, run := fun _ args k => match args with
  | [] => k [RV.d .bool true]
  | _ => none }
theorem awk_spec : callable Try.prog 14 = true ∧ SpecOk Try.prog 14 awk_sp ∧ ∀ g, awk_sp.mut_ = some g → MCon Try.prog 14 g := by
  refine ⟨by kernel_rfl, fun R args k r h => ?_, fun g h => by simp [awk_sp] at h⟩
  unfold awk_sp at h
  dsimp only at h
  split at h <;> try (cases h; done)
  exact ⟨_, h, awk_con ⟩
theorem few_bd {c : Cs} (h : fewF c = true) : c.2.2.2.1.length ≤ 60 ∧ c.2.2.2.2.length ≤ 8 := by
  unfold fewF at h
  simp only [Bool.and_eq_true, Bool.or_eq_true, decide_eq_true_eq] at h
  omega
theorem nest_len (w h gap : Int) (l : List It) : (nestF w h gap l).1.length ≤ 50 ∧ (nestF w h gap l).2.1.length ≤ 50 := by
  unfold nestF
  cases ha : admF w h gap l with
  | false => simp
  | true =>
    have := (nest_inv ha l.length (Nat.le_refl _)).n
    have := (adm_of ha).n
    simp only [cond_true]
    omega
/-- The greatest coordinate of a spot that is not greater. -/
theorem slide {xs : List Int} {X : Int} (hx : ∃ x ∈ xs, x ≤ X) : ∃ x ∈ xs, x ≤ X ∧ ∀ y ∈ xs, y ≤ X → y ≤ x := by
  induction xs with
  | nil => obtain ⟨x, h, _⟩ := hx; simp at h
  | cons a l ih =>
    by_cases hl : ∃ x ∈ l, x ≤ X
    · obtain ⟨x, h1, h2, h3⟩ := ih hl
      by_cases ha : a ≤ X ∧ x ≤ a
      · refine ⟨a, by simp, ha.1, fun y hy hyX => ?_⟩
        rcases List.mem_cons.1 hy with rfl | hy
        · omega
        · have := h3 y hy hyX; omega
      · refine ⟨x, by simp [h1], h2, fun y hy hyX => ?_⟩
        rcases List.mem_cons.1 hy with rfl | hy
        · omega
        · exact h3 y hy hyX
    · obtain ⟨x, h1, h2⟩ := hx
      rcases List.mem_cons.1 h1 with rfl | h1
      · refine ⟨x, by simp, h2, fun y hy hyX => ?_⟩
        rcases List.mem_cons.1 hy with rfl | hy
        · omega
        · exact absurd ⟨y, hy, hyX⟩ hl
      · exact absurd ⟨x, h1, h2⟩ hl
theorem xs_mem (gap : Int) (l : List It) (p : List Pl) (x : Int) : x ∈ xsF gap l p ↔ x = gap ∨ ∃ y ∈ p, exX gap l y = x := by
  unfold xsF
  rw [(fold_put _ [gap] (by simp)).2 x]
  simp
theorem ys_mem (gap : Int) (l : List It) (p : List Pl) (x : Int) : x ∈ ysF gap l p ↔ x = gap ∨ ∃ y ∈ p, exY gap l y = x := by
  unfold ysF
  rw [(fold_put _ [gap] (by simp)).2 x]
  simp
theorem good_split {w h gap : Int} {l : List It} {p : List Pl} {i x y : Int} {t : Bool} : goodS w h gap l p (i, x, y, t) = true ↔ (gap ≤ x ∧ gap ≤ y ∧ x ≤ w ∧ y ≤ h ∧ x + (sizeF l (i, x, y, t)).1 + gap ≤ w ∧ y + (sizeF l (i, x, y, t)).2 + gap ≤ h) ∧ ∀ q ∈ p, x + (sizeF l (i, x, y, t)).1 + gap ≤ q.2.1 ∨ q.2.1 + (sizeF l q).1 + gap ≤ x ∨ y + (sizeF l (i, x, y, t)).2 + gap ≤ q.2.2.1 ∨ q.2.2.1 + (sizeF l q).2 + gap ≤ y := by
  unfold goodS onF
  simp only [Bool.and_eq_true, Bool.not_eq_true', decide_eq_true_eq, decide_eq_false_iff_not, List.all_eq_true]
  constructor
  · rintro ⟨⟨⟨⟨⟨⟨h1, h2⟩, h3⟩, h4⟩, h5⟩, h6⟩, h7⟩
    refine ⟨⟨by omega, by omega, by omega, by omega, h5, h6⟩, fun q hq => ?_⟩
    have := h7 q hq
    unfold apF at this
    simp only [Bool.or_eq_true, decide_eq_true_eq] at this
    rcases this with ((h | h) | h) | h
    · exact .inl h
    · exact .inr (.inl h)
    · exact .inr (.inr (.inl h))
    · exact .inr (.inr (.inr h))
  · rintro ⟨⟨h1, h2, h3, h4, h5, h6⟩, h7⟩
    refine ⟨⟨⟨⟨⟨⟨by omega, by omega⟩, by omega⟩, by omega⟩, h5⟩, h6⟩, fun q hq => ?_⟩
    unfold apF
    simp only [Bool.or_eq_true, decide_eq_true_eq]
    rcases h7 q hq with h | h | h | h
    · exact .inl (.inl (.inl h))
    · exact .inl (.inl (.inr h))
    · exact .inl (.inr h)
    · exact .inr h
/-- Where an item fits, it fits at a spot. -/
theorem good_spot {w h gap : Int} {l : List It} {p : List Pl} {i x y : Int} {t : Bool} (hg : goodS w h gap l p (i, x, y, t) = true) : ∃ x' ∈ xsF gap l p, ∃ y' ∈ ysF gap l p, goodS w h gap l p (i, x', y', t) = true := by
  obtain ⟨⟨h1, h2, h3, h4, h5, h6⟩, h7⟩ := good_split.1 hg
  obtain ⟨x', m1, m2, m3⟩ := slide (xs := xsF gap l p) (X := x) ⟨gap, (xs_mem gap l p gap).2 (.inl rfl), h1⟩
  obtain ⟨y', n1, n2, n3⟩ := slide (xs := ysF gap l p) (X := y) ⟨gap, (ys_mem gap l p gap).2 (.inl rfl), h2⟩
  have g1 := m3 gap ((xs_mem gap l p gap).2 (.inl rfl)) h1
  have g2 := n3 gap ((ys_mem gap l p gap).2 (.inl rfl)) h2
  refine ⟨x', m1, y', n1, good_split.2 ?_⟩
  have e : sizeF l (i, x', y', t) = sizeF l (i, x, y, t) := rfl
  rw [e]
  refine ⟨⟨g1, g2, by omega, by omega, by omega, by omega⟩, fun q hq => ?_⟩
  rcases h7 q hq with h | h | h | h
  · exact .inl (by omega)
  · exact .inr (.inl (m3 _ ((xs_mem gap l p _).2 (.inr ⟨q, hq, rfl⟩)) h))
  · exact .inr (.inr (.inl (by omega)))
  · exact .inr (.inr (.inr (n3 _ ((ys_mem gap l p _).2 (.inr ⟨q, hq, rfl⟩)) h)))
theorem first_none {w h gap : Int} {l : List It} {p : List Pl} {item : Int} {at_ : List It} (hf : (firstF w h gap l p item at_).2 = false) : ∀ a ∈ at_, ∀ t, goodS w h gap l p (item, a.1, a.2, t) = false := by
  induction at_ with
  | nil => simp
  | cons b r ih =>
    rw [first_cons] at hf
    cases h1 : goodS w h gap l p (item, b.1, b.2, false) with
    | true => rw [h1] at hf; cases hf
    | false =>
      rw [h1] at hf
      cases h2 : goodS w h gap l p (item, b.1, b.2, true) with
      | true => rw [h2] at hf; cases hf
      | false =>
        rw [h2] at hf
        intro a ha t
        rcases List.mem_cons.1 ha with rfl | ha
        · cases t
          · exact h1
          · exact h2
        · exact ih hf a ha t
theorem grid_mem {xs ys : List Int} {x y : Int} (hx : x ∈ xs) (hy : y ∈ ys) : (x, y) ∈ gridF xs ys := by
  unfold gridF
  rw [List.mem_flatMap]
  exact ⟨y, hy, List.mem_map.2 ⟨x, hx, rfl⟩⟩
/-- An item that found no spot fits nowhere, with these places or more. -/
theorem none_fits {w h gap : Int} {l : List It} {p p' : List Pl} {item : Int} (hv : validF w h gap l p = true) (hsub : ∀ q ∈ p, q ∈ p') (hf : (spotF w h gap l p item).2 = false) (x y : Int) (t : Bool) : goodS w h gap l p' (item, x, y, t) = false := by
  cases hg : goodS w h gap l p' (item, x, y, t) with
  | false => rfl
  | true =>
    have h1 : goodS w h gap l p (item, x, y, t) = true := by
      obtain ⟨g1, g2⟩ := good_split.1 hg
      exact good_split.2 ⟨g1, fun q hq => g2 q (hsub q hq)⟩
    obtain ⟨x', m1, y', m2, g⟩ := good_spot h1
    have := first_none hf (x', y') (by unfold spotsF; rw [hv]; exact grid_mem m1 m2) t
    rw [this] at g
    cases g
/-- The items without a place. -/
theorem rest_spec {w h gap : Int} {l : List It} (ha : admF w h gap l = true) : ∀ k, k ≤ l.length → ∀ (p' : List Pl), (∀ q ∈ (nestTo w h gap l k).1, q ∈ p') → ∀ i ∈ (nestTo w h gap l k).2, (0 ≤ i ∧ i < (k : Int)) ∧ (∀ q ∈ (nestTo w h gap l k).1, q.1 ≠ i) ∧ ∀ x y t, goodS w h gap l p' (i, x, y, t) = false
  | 0, _, _, _, i, hi => by simp [nestTo] at hi
  | k + 1, hk, p', hsub, i, hi => by
    have inv := nest_inv ha k (by omega)
    rw [nestTo] at hsub hi ⊢
    cases hf : (spotF w h gap l (nestTo w h gap l k).1 (k : Int)).2 with
    | true =>
      rw [hf] at hsub hi
      simp only [cond_true] at hsub hi ⊢
      obtain ⟨r1, r2, r3⟩ := rest_spec ha k (by omega) p' (fun q hq => hsub q (List.mem_append_left _ hq)) i hi
      refine ⟨by omega, fun q hq => ?_, r3⟩
      rcases List.mem_append.1 hq with hq | hq
      · exact r2 q hq
      · simp at hq
        subst hq
        have := (first_spec hf).1
        unfold spotF
        omega
    | false =>
      rw [hf] at hsub hi
      simp only [cond_false] at hsub hi ⊢
      rcases List.mem_append.1 hi with hi | hi
      · obtain ⟨r1, r2, r3⟩ := rest_spec ha k (by omega) p' hsub i hi
        exact ⟨by omega, r2, r3⟩
      · simp at hi
        subst hi
        exact ⟨by omega, fun q hq => by have := inv.i q hq; omega, fun x y t => none_fits inv.v hsub hf x y t⟩
end Go.Proofs.Ytfkidjkpgliffaa
