/- slices.Sort on numbers, as the kit's own contract has it. -/
import Derived.Test.YtfkidjkpgliffaaPuT
import Derived.Shelf.SortM.Plain
import Derived.Shelf.SortM.SortNone
import Derived.Sort.OwnSortedInts
namespace Go.Proofs.Ytfkidjkpgliffaa
open Go.RowKit
def insI (x : Int) : List Int → List Int
  | [] => [x]
  | y :: l => match decide (x ≤ y) with
    | true => x :: y :: l
    | false => y :: insI x l
def isort : List Int → List Int
  | [] => []
  | x :: l => insI x (isort l)
theorem insI_perm (x : Int) : ∀ l, (insI x l).Perm (x :: l)
  | [] => List.Perm.refl _
  | y :: l => by
    simp only [insI]
    split
    · exact List.Perm.refl _
    · exact ((insI_perm x l).cons y).trans (List.Perm.swap x y l)
theorem isort_perm : ∀ l, (isort l).Perm l
  | [] => List.Perm.refl _
  | x :: l => (insI_perm x _).trans ((isort_perm l).cons x)
theorem insI_sorted (x : Int) : ∀ l : List Int, l.Pairwise (· ≤ ·) → (insI x l).Pairwise (· ≤ ·)
  | [], _ => by simp [insI]
  | y :: l, h => by
    simp only [insI]
    rw [List.pairwise_cons] at h
    split
    · rename_i hd
      have hd := of_decide_eq_true hd
      rw [List.pairwise_cons]
      refine ⟨fun a ha => ?_, List.pairwise_cons.2 h⟩
      rcases List.mem_cons.1 ha with rfl | ha
      · exact hd
      · exact Int.le_trans hd (h.1 a ha)
    · rename_i hd
      have hd := of_decide_eq_false hd
      rw [List.pairwise_cons]
      refine ⟨fun a ha => ?_, insI_sorted x l h.2⟩
      rcases List.mem_cons.1 ((insI_perm x l).mem_iff.1 ha) with rfl | ha
      · omega
      · exact h.1 a ha
theorem isort_sorted : ∀ l, (isort l).Pairwise (· ≤ ·)
  | [] => List.Pairwise.nil
  | x :: l => insI_sorted x _ (isort_sorted l)
theorem sorted_unique : ∀ {l m : List Int}, l.Perm m → l.Pairwise (· ≤ ·) → m.Pairwise (· ≤ ·) → l = m
  | [], m, hp, _, _ => (List.Perm.nil_eq hp)
  | x :: l, [], hp, _, _ => by have := hp.length_eq; simp at this
  | x :: l, y :: m, hp, hl, hm => by
    rw [List.pairwise_cons] at hl hm
    have hxy : x = y := by
      have h1 : x ∈ y :: m := hp.mem_iff.1 (by simp)
      have h2 : y ∈ x :: l := hp.mem_iff.2 (by simp)
      rcases List.mem_cons.1 h1 with h1 | h1
      · exact h1
      · rcases List.mem_cons.1 h2 with h2 | h2
        · exact h2.symm
        · have := hl.1 y h2; have := hm.1 x h1; omega
    subst hxy
    rw [sorted_unique (List.perm_cons x |>.1 hp) hl.2 hm.2]
theorem isort_eq (l : List Int) : (l.mergeSort fun x y => decide (x ≤ y)) = isort l := by
  refine sorted_unique ((List.mergeSort_perm l _).trans (isort_perm l).symm) ?_ (isort_sorted l)
  have := List.pairwise_mergeSort (le := fun x y : Int => decide (x ≤ y)) (fun a b c h1 h2 => by simp at h1 h2 ⊢; omega) (fun a b => by simp; omega) l
  exact this.imp fun h => by simpa using h
theorem isort_len (l : List Int) : (isort l).length = l.length := (isort_perm l).length_eq
theorem mcon_of {P : Program} {ρ : Go.Shelf.Ren} (Ly : Go.Proofs.SlLaysM.n5 P ρ) : MCon P (ρ.f 5) ⟨false, isort⟩ := by
  intro w base et v xs ho hl
  rcases ho.2 with ⟨rfl, h0⟩ | ⟨g, cap, cur, rfl, h1, h2, h3, h4, h5, h6⟩
  · refine (Go.Proofs.AnyM.slices_Sort_int_none Ly none 0 w).mono ?_
    rintro e w' ⟨rfl, rfl⟩
    have : xs = [] := List.eq_nil_of_length_eq_zero h0
    subst this
    exact ⟨rfl, ho, rfl, ⟨rfl, rfl, rfl, Nat.le_refl _, fun _ _ _ => rfl⟩⟩
  · rw [Nat.mul_one] at h6
    refine (Go.Proofs.AnyM.slices_Sort_int Ly g 0 cap xs w (holds_of_blockI h2 h6) (Array.getElem?_eq_some_iff.1 h2).1 (by omega)).mono ?_
    rintro e w' ⟨rfl, n, os, rfl⟩
    rw [isort_eq]
    refine ⟨rfl, ?_, isort_len xs, grownBy_sortedI _⟩
    exact ownsRow_sortedI (isort_len xs) h1 h2 h3 h4 h5
def sortI_ren : Go.Shelf.Ren := ⟨fun | 5 => 75 | 8 => 88 | 7 => 92 | 19 => 104 | 20 => 105 | 10 => 109 | 11 => 110 | 12 => 111 | 13 => 112 | 14 => 113 | 15 => 114 | 16 => 115 | 17 => 116 | 18 => 117 | 30 => 124 | 31 => 119 | 32 => 120 | 33 => 125 | 34 => 126 | 35 => 108 | 40 => 128 | n => n, fun | 23 => 29 | 25 => 3 | 3 => 3 | 32 => 113 | 22 => 29 | 0 => 0 | 44 => 129 | 46 => 99 | 4 => 4 | 36 => 121 | 35 => 120 | 41 => 126 | 5 => 5 | 9 => 9 | 53 => 140 | 57 => 144 | 63 => 149 | 64 => 150 | n => n, fun | n => n⟩
theorem sortI : Go.Proofs.SlLaysM.n5 Try.prog sortI_ren := {
  mixed := by kernel_rfl
  f5 := ⟨Try.f75.name, by decide, Try.func75.trans (congrArg some (by kernel_rfl))⟩
  f7 := ⟨Try.f92.name, by decide, Try.func92.trans (congrArg some (by kernel_rfl))⟩
  f8 := Try.func88.trans (congrArg some (by kernel_rfl))
  f10 := ⟨Try.f109.name, by decide, Try.func109.trans (congrArg some (by kernel_rfl))⟩
  f11 := ⟨Try.f110.name, by decide, Try.func110.trans (congrArg some (by kernel_rfl))⟩
  f12 := ⟨Try.f111.name, by decide, Try.func111.trans (congrArg some (by kernel_rfl))⟩
  f13 := ⟨Try.f112.name, by decide, Try.func112.trans (congrArg some (by kernel_rfl))⟩
  f14 := ⟨Try.f113.name, by decide, Try.func113.trans (congrArg some (by kernel_rfl))⟩
  f15 := ⟨Try.f114.name, by decide, Try.func114.trans (congrArg some (by kernel_rfl))⟩
  f16 := ⟨Try.f115.name, by decide, Try.func115.trans (congrArg some (by kernel_rfl))⟩
  f17 := ⟨Try.f116.name, by decide, Try.func116.trans (congrArg some (by kernel_rfl))⟩
  f18 := ⟨Try.f117.name, by decide, Try.func117.trans (congrArg some (by kernel_rfl))⟩
  f19 := Try.func104.trans (congrArg some (by kernel_rfl))
  f20 := Try.func105.trans (congrArg some (by kernel_rfl))
  f30 := ⟨Try.f124.name, by decide, Try.func124.trans (congrArg some (by kernel_rfl))⟩
  f31 := Try.func119.trans (congrArg some (by kernel_rfl))
  f32 := Try.func120.trans (congrArg some (by kernel_rfl))
  f33 := ⟨Try.f125.name, by decide, Try.func125.trans (congrArg some (by kernel_rfl))⟩
  f34 := ⟨Try.f126.name, by decide, Try.func126.trans (congrArg some (by kernel_rfl))⟩
  f35 := ⟨Try.f108.name, by decide, Try.func108.trans (congrArg some (by kernel_rfl))⟩
  f40 := ⟨Try.f128.name, by decide, Try.func128.trans (congrArg some (by kernel_rfl))⟩
  t0 := Try.underlying0
  a0 := Try.isAgg0
  z0 := Try.sizeOf0
  v0 := Try.zeroValue0
  t3 := Try.underlying3
  a3 := Try.isAgg3
  z3 := Try.sizeOf3
  v3 := Try.zeroValue3
  t4 := Try.underlying4
  a4 := Try.isAgg4
  z4 := Try.sizeOf4
  v4 := Try.zeroValue4
  t5 := Try.underlying5
  a5 := Try.isAgg5
  z5 := Try.sizeOf5
  v5 := Try.zeroValue5
  t9 := Try.underlying9
  a9 := Try.isAgg9
  z9 := Try.sizeOf9
  v9 := Try.zeroValue9
  t22 := Try.underlying29
  a22 := Try.isAgg29
  z22 := Try.sizeOf29
  v22 := Try.zeroValue29
  t23 := Try.underlying29
  a23 := Try.isAgg29
  z23 := Try.sizeOf29
  v23 := Try.zeroValue29
  t25 := Try.underlying3
  a25 := Try.isAgg3
  z25 := Try.sizeOf3
  v25 := Try.zeroValue3
  t32 := Try.underlying113
  a32 := Try.isAgg113
  z32 := Try.sizeOf113
  v32 := Try.zeroValue113
  t35 := Try.underlying120
  a35 := Try.isAgg120
  z35 := Try.sizeOf120
  v35 := Try.zeroValue120
  t36 := Try.underlying121
  a36 := Try.isAgg121
  z36 := Try.sizeOf121
  v36 := Try.zeroValue121
  t41 := Try.underlying126
  a41 := Try.isAgg126
  z41 := Try.sizeOf126
  v41 := Try.zeroValue126
  t44 := Try.underlying129
  a44 := Try.isAgg129
  z44 := Try.sizeOf129
  v44 := Try.zeroValue129
  t46 := Try.underlying99
  a46 := Try.isAgg99
  z46 := Try.sizeOf99
  v46 := Try.zeroValue99
  t53 := Try.underlying140
  a53 := Try.isAgg140
  z53 := Try.sizeOf140
  v53 := Try.zeroValue140
  t57 := Try.underlying144
  a57 := Try.isAgg144
  z57 := Try.sizeOf144
  v57 := Try.zeroValue144
  t63 := Try.underlying149
  a63 := Try.isAgg149
  z63 := Try.sizeOf149
  v63 := Try.zeroValue149
  t64 := Try.underlying150
  a64 := Try.isAgg150
  z64 := Try.sizeOf150
  v64 := Try.zeroValue150 }

def sortL_ren : Go.Shelf.Ren := ⟨fun | 5 => 59 | 8 => 88 | 7 => 87 | 19 => 104 | 20 => 105 | 10 => 95 | 11 => 96 | 12 => 97 | 13 => 98 | 14 => 99 | 15 => 100 | 16 => 101 | 17 => 102 | 18 => 103 | 30 => 118 | 31 => 119 | 32 => 120 | 33 => 121 | 34 => 122 | 35 => 93 | 40 => 127 | n => n, fun | 23 => 59 | 25 => 2 | 3 => 3 | 32 => 113 | 22 => 59 | 0 => 0 | 44 => 129 | 46 => 99 | 4 => 4 | 36 => 121 | 35 => 120 | 41 => 126 | 5 => 5 | 9 => 9 | 53 => 140 | 57 => 144 | 63 => 149 | 64 => 150 | n => n, fun | n => n⟩
theorem sortL : Go.Proofs.SlLaysM.n5 Try.prog sortL_ren := {
  mixed := by kernel_rfl
  f5 := ⟨Try.f59.name, by decide, Try.func59.trans (congrArg some (by kernel_rfl))⟩
  f7 := ⟨Try.f87.name, by decide, Try.func87.trans (congrArg some (by kernel_rfl))⟩
  f8 := Try.func88.trans (congrArg some (by kernel_rfl))
  f10 := ⟨Try.f95.name, by decide, Try.func95.trans (congrArg some (by kernel_rfl))⟩
  f11 := ⟨Try.f96.name, by decide, Try.func96.trans (congrArg some (by kernel_rfl))⟩
  f12 := ⟨Try.f97.name, by decide, Try.func97.trans (congrArg some (by kernel_rfl))⟩
  f13 := ⟨Try.f98.name, by decide, Try.func98.trans (congrArg some (by kernel_rfl))⟩
  f14 := ⟨Try.f99.name, by decide, Try.func99.trans (congrArg some (by kernel_rfl))⟩
  f15 := ⟨Try.f100.name, by decide, Try.func100.trans (congrArg some (by kernel_rfl))⟩
  f16 := ⟨Try.f101.name, by decide, Try.func101.trans (congrArg some (by kernel_rfl))⟩
  f17 := ⟨Try.f102.name, by decide, Try.func102.trans (congrArg some (by kernel_rfl))⟩
  f18 := ⟨Try.f103.name, by decide, Try.func103.trans (congrArg some (by kernel_rfl))⟩
  f19 := Try.func104.trans (congrArg some (by kernel_rfl))
  f20 := Try.func105.trans (congrArg some (by kernel_rfl))
  f30 := ⟨Try.f118.name, by decide, Try.func118.trans (congrArg some (by kernel_rfl))⟩
  f31 := Try.func119.trans (congrArg some (by kernel_rfl))
  f32 := Try.func120.trans (congrArg some (by kernel_rfl))
  f33 := ⟨Try.f121.name, by decide, Try.func121.trans (congrArg some (by kernel_rfl))⟩
  f34 := ⟨Try.f122.name, by decide, Try.func122.trans (congrArg some (by kernel_rfl))⟩
  f35 := ⟨Try.f93.name, by decide, Try.func93.trans (congrArg some (by kernel_rfl))⟩
  f40 := ⟨Try.f127.name, by decide, Try.func127.trans (congrArg some (by kernel_rfl))⟩
  t0 := Try.underlying0
  a0 := Try.isAgg0
  z0 := Try.sizeOf0
  v0 := Try.zeroValue0
  t3 := Try.underlying3
  a3 := Try.isAgg3
  z3 := Try.sizeOf3
  v3 := Try.zeroValue3
  t4 := Try.underlying4
  a4 := Try.isAgg4
  z4 := Try.sizeOf4
  v4 := Try.zeroValue4
  t5 := Try.underlying5
  a5 := Try.isAgg5
  z5 := Try.sizeOf5
  v5 := Try.zeroValue5
  t9 := Try.underlying9
  a9 := Try.isAgg9
  z9 := Try.sizeOf9
  v9 := Try.zeroValue9
  t22 := Try.underlying59
  a22 := Try.isAgg59
  z22 := Try.sizeOf59
  v22 := Try.zeroValue59
  t23 := Try.underlying59
  a23 := Try.isAgg59
  z23 := Try.sizeOf59
  v23 := Try.zeroValue59
  t25 := Try.underlying2
  a25 := Try.isAgg2
  z25 := Try.sizeOf2
  v25 := Try.zeroValue2
  t32 := Try.underlying113
  a32 := Try.isAgg113
  z32 := Try.sizeOf113
  v32 := Try.zeroValue113
  t35 := Try.underlying120
  a35 := Try.isAgg120
  z35 := Try.sizeOf120
  v35 := Try.zeroValue120
  t36 := Try.underlying121
  a36 := Try.isAgg121
  z36 := Try.sizeOf121
  v36 := Try.zeroValue121
  t41 := Try.underlying126
  a41 := Try.isAgg126
  z41 := Try.sizeOf126
  v41 := Try.zeroValue126
  t44 := Try.underlying129
  a44 := Try.isAgg129
  z44 := Try.sizeOf129
  v44 := Try.zeroValue129
  t46 := Try.underlying99
  a46 := Try.isAgg99
  z46 := Try.sizeOf99
  v46 := Try.zeroValue99
  t53 := Try.underlying140
  a53 := Try.isAgg140
  z53 := Try.sizeOf140
  v53 := Try.zeroValue140
  t57 := Try.underlying144
  a57 := Try.isAgg144
  z57 := Try.sizeOf144
  v57 := Try.zeroValue144
  t63 := Try.underlying149
  a63 := Try.isAgg149
  z63 := Try.sizeOf149
  v63 := Try.zeroValue149
  t64 := Try.underlying150
  a64 := Try.isAgg150
  z64 := Try.sizeOf150
  v64 := Try.zeroValue150 }
theorem mconI : MCon Try.prog 75 ⟨false, isort⟩ := mcon_of sortI
theorem mconL : MCon Try.prog 59 ⟨false, isort⟩ := mcon_of sortL
end Go.Proofs.Ytfkidjkpgliffaa
