/- slices.Compact on numbers, as the kit's own contract has it. -/
import Derived.Test.YtfkidjkpgliffaaSortC
import Derived.Test.YtfkidjkpgliffaaCloneC
import Derived.Shelf.SlicesG.CompactI
namespace Go.Proofs.Ytfkidjkpgliffaa
open Go.RowKit
/-- A row that is handed out is data too. -/
theorem Con.new_d {P : Program} {f : Nat} {args : List SV} {et : TypeId} {e : Ty} {xs : List e.D} (h : Con P f args [.new et e xs]) : Con P f args [.d (.sl e) xs] := by
  intro A w vs ha
  refine (h A w vs ha).mono ?_
  rintro en w' ⟨v, rfl, hb, css, ho, ha2, hn⟩
  refine ⟨v, rfl, hb, ?_⟩
  obtain ⟨hlen, p, c, hv, h1, h2, h3⟩ := Rd.of_own hn ho
  subst hv
  refine ⟨[.slice p xs.length c], ⟨p, xs.length, c, css, rfl, rfl, h1, h2, all2_mono (fun _ _ h => Ty.rd_keep ⟨Nat.le_refl _, fun b _ hb => hb.1, fun _ _ _ => rfl⟩ h) ha2, fun h0 => ?_⟩, rfl⟩
  obtain ⟨b, off, rfl, h5, h6⟩ := h3 h0
  refine ⟨b, off, rfl, .inr ?_, h5, h6⟩
  rcases ho.2 with ⟨h7, _⟩ | ⟨g, cap, cur, h7, h8, _⟩
  · cases h7
  · injection h7 with h7
    injection h7 with h7
    injection h7 with h7
    subst h7
    exact h8
theorem own_shrink {w : World} {base et g n cap m : Nat} {cs : List Value} (h : w.ownsRow base et 1 (.slice (some ⟨g, 0, none⟩) n cap) n cs) (hm : m ≤ n) : w.ownsRow base et 1 (.slice (some ⟨g, 0, none⟩) m cap) m (cs.take m) := by
  refine ⟨by rw [List.length_take, h.1]; omega, .inr ?_⟩
  rcases h.2 with ⟨h7, _⟩ | ⟨g', cap', cur, h7, h8, h9, h10, h11, h12, h13⟩
  · cases h7
  · injection h7 with h7 e2 e3
    injection h7 with h7
    injection h7 with h7
    subst h7 e3
    refine ⟨g, cap, cur, rfl, h8, h9, by omega, h11, h12, ?_⟩
    rw [← h13, List.take_take]
    congr 1
    omega
theorem compact_le (xs : List Int) : (Lib.compact xs).length ≤ xs.length := by
  unfold Lib.compact Lib.compactUpTo
  rw [List.length_map]
  exact Nat.le_trans (List.length_filter_le _ _) (by simp)
theorem mcon_comp {P : Program} {ρ : Go.Shelf.Ren} (Ly : Go.Proofs.SlLaysN.n43 P ρ) : MCon P (ρ.f 43) ⟨true, Lib.compact⟩ := by
  intro w base et v xs ho hl
  rcases ho.2 with ⟨rfl, h0⟩ | ⟨g, cap, cur, rfl, h1, h2, h3, h4, h5, h6⟩
  · refine (Go.Proofs.AnyG.slices_Compact_int_empty Ly none 0 w).mono ?_
    rintro e w' ⟨rfl, rfl⟩
    have : xs = [] := List.eq_nil_of_length_eq_zero h0
    subst this
    exact ⟨_, rfl, ho, ⟨rfl, rfl, rfl, Nat.le_refl _, fun _ _ _ => rfl⟩, rfl⟩
  · rw [Nat.mul_one] at h6
    refine (Go.Proofs.AnyG.slices_Compact_int Ly g 0 cap xs w (holds_of_blockI h2 h6) (by omega) h3).mono ?_
    rintro e w' ⟨rfl, q, rfl⟩
    have hlen : (Lib.compact xs ++ List.replicate (xs.length - (Lib.compact xs).length) 0).length = xs.length := by
      have := compact_le xs
      simp; omega
    refine ⟨_, rfl, ?_, ?_, rfl⟩
    · have := ownsRow_sortedI (w := w) (n := q) (os := #[]) hlen h1 h2 h3 h4 h5
      have h8 := own_shrink this (compact_le xs)
      rw [← List.map_take, List.take_left'  rfl] at h8
      simpa using h8
    · have := grownBy_sortedI (w := w) (g := g) (n := q) (os := #[]) (Lib.compact xs ++ List.replicate (xs.length - (Lib.compact xs).length) 0).toArray
      simpa [blkOf] using this
def compL_ren : Go.Shelf.Ren := ⟨fun | 43 => 60 | n => n, fun | 22 => 59 | 23 => 2 | 3 => 3 | 4 => 4 | 0 => 0 | n => n, fun | n => n⟩
theorem compL : Go.Proofs.SlLaysN.n43 Try.prog compL_ren := {
  mixed := by kernel_rfl
  f43 := ⟨Try.f60.name, by decide, Try.func60.trans (congrArg some (by kernel_rfl))⟩
  t0 := Try.underlying0
  a0 := Try.isAgg0
  z0 := Try.sizeOf0
  v0 := Try.zeroValue0
  t3 := Try.underlying3
  a3 := Try.isAgg3
  z3 := Try.sizeOf3
  v3 := Try.zeroValue3
  t4 := Try.underlying4
  a4 := Try.isAgg4
  z4 := Try.sizeOf4
  v4 := Try.zeroValue4
  t22 := Try.underlying59
  a22 := Try.isAgg59
  z22 := Try.sizeOf59
  v22 := Try.zeroValue59
  t23 := Try.underlying2
  a23 := Try.isAgg2
  z23 := Try.sizeOf2
  v23 := Try.zeroValue2
  i23 := by kernel_rfl }
theorem mconC : MCon Try.prog 60 ⟨true, Lib.compact⟩ := mcon_comp compL
/-- What Compact makes of an ascending row. -/
theorem compact_mem (d : Array Int) : ∀ m x, x ∈ Lib.compactUpTo d m ↔ ∃ j, j < m ∧ d[j]! = x
  | 0, x => by simp [Lib.compactUpTo]
  | m + 1, x => by
    rw [Lib.compactUpTo_succ, List.mem_append, compact_mem d m x]
    constructor
    · rintro (⟨j, h1, h2⟩ | h)
      · exact ⟨j, by omega, h2⟩
      · split at h
        · simp at h; exact ⟨m, by omega, h.symm⟩
        · simp at h
    · rintro ⟨j, h1, h2⟩
      by_cases hj : j = m
      · subst hj
        by_cases hk : Lib.keeps d j = true
        · right; rw [if_pos hk]; simp [h2]
        · left
          unfold Lib.keeps at hk
          simp only [decide_eq_true_eq, not_or, Decidable.not_not] at hk
          exact ⟨j - 1, by omega, by rw [← hk.2]; exact h2⟩
      · exact .inl ⟨j, by omega, h2⟩
theorem compact_asc (d : Array Int) (h : ∀ i j, i ≤ j → j < d.size → d[i]! ≤ d[j]!) : ∀ m, m ≤ d.size → (Lib.compactUpTo d m).Pairwise (· < ·)
  | 0, _ => by simp [Lib.compactUpTo]
  | m + 1, hm => by
    rw [Lib.compactUpTo_succ, List.pairwise_append]
    refine ⟨compact_asc d h m (by omega), by split <;> simp, fun a ha b hb => ?_⟩
    split at hb
    · rename_i hk
      simp at hb
      subst hb
      obtain ⟨j, h1, rfl⟩ := (compact_mem d m a).1 ha
      unfold Lib.keeps at hk
      simp only [decide_eq_true_eq] at hk
      have h2 := h j (m - 1) (by omega) (by omega)
      have h3 := h (m - 1) m (by omega) (by omega)
      rcases hk with hk | hk
      · omega
      · omega
    · simp at hb
theorem strict_unique : ∀ {l m : List Int}, l.Pairwise (· < ·) → m.Pairwise (· < ·) → (∀ x, x ∈ l ↔ x ∈ m) → l = m
  | [], [], _, _, _ => rfl
  | [], y :: m, _, _, h => by have := (h y).2 (by simp); simp at this
  | x :: l, [], _, _, h => by have := (h x).1 (by simp); simp at this
  | x :: l, y :: m, hl, hm, h => by
    rw [List.pairwise_cons] at hl hm
    have hxy : x = y := by
      rcases List.mem_cons.1 ((h x).1 (by simp)) with e | h1
      · exact e
      · rcases List.mem_cons.1 ((h y).2 (by simp)) with e | h2
        · exact e.symm
        · have := hl.1 y h2; have := hm.1 x h1; omega
    subst hxy
    rw [strict_unique hl.2 hm.2 fun z => ?_]
    constructor
    · intro hz
      rcases List.mem_cons.1 ((h z).1 (by simp [hz])) with e | h1
      · subst e; have := hl.1 z hz; omega
      · exact h1
    · intro hz
      rcases List.mem_cons.1 ((h z).2 (by simp [hz])) with e | h1
      · subst e; have := hm.1 z hz; omega
      · exact h1
theorem compact_sort (r : List Int) : (Lib.compact (isort r)).Pairwise (· < ·) ∧ ∀ x, x ∈ Lib.compact (isort r) ↔ x ∈ r := by
  have hs := isort_sorted r
  constructor
  · refine compact_asc _ (fun i j hij hj => ?_) _ (by simp)
    have hj' : j < (isort r).length := by simpa using hj
    rcases Nat.lt_or_ge i j with hlt | hge
    · have := List.pairwise_iff_getElem.1 hs i j (by omega) hj' hlt
      simpa [getElem!_pos, hj', show i < (isort r).length by omega] using this
    · have : i = j := by omega
      subst this; exact Int.le_refl _
  · intro x
    unfold Lib.compact
    rw [compact_mem, ← (isort_perm r).mem_iff, List.mem_iff_getElem]
    constructor
    · rintro ⟨j, h1, h2⟩
      exact ⟨j, h1, by simpa [getElem!_pos, h1] using h2⟩
    · rintro ⟨j, h1, h2⟩
      exact ⟨j, h1, by simpa [getElem!_pos, h1] using h2⟩
end Go.Proofs.Ytfkidjkpgliffaa
