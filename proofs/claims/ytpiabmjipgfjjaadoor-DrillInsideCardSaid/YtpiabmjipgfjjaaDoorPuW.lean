/- Small words for the plain proofs: numbers in their range, elements of lists, loops over an index. -/
import Derived.Test.YtpiabmjipgfjjaaDoorPuV
namespace Go.Proofs.YtpiabmjipgfjjaaDoor
open Go.RowKit
theorem wrap64 {x : Int} (h1 : -9223372036854775808 ≤ x) (h2 : x ≤ 9223372036854775807) : IntKind.i64.wrap x = x := IntWalk.i64_in x ⟨h1, h2⟩
theorem wrapS {k : Nat} (h : k + 1 ≤ 9223372036854775807) : IntKind.i64.wrap ((k : Int) + 1) = ((k + 1 : Nat) : Int) := by rw [wrap64 (by omega) (by omega)]; simp
theorem getI_nat {α : Type} (xs : List α) (k : Nat) : getI xs (k : Int) = xs[k]? := by unfold getI; rw [decide_eq_true (by omega)]; rfl
theorem getI_zero {α : Type} (xs : List α) : getI xs 0 = xs[0]? := getI_nat xs 0
theorem lt_dec {k n : Nat} (h : k < n) : decide ((k : Int) < (n : Int)) = true := decide_eq_true (by omega)
theorem ge_dec {k n : Nat} (h : n ≤ k) : decide ((k : Int) < (n : Int)) = false := decide_eq_false (by omega)
theorem drop_get {α : Type} {xs : List α} {k : Nat} (h : k < xs.length) : xs.drop k = xs[k] :: xs.drop (k + 1) := List.drop_eq_getElem_cons h
theorem drop_end {α : Type} {xs : List α} {k : Nat} (h : xs.length ≤ k) : xs.drop k = [] := List.drop_eq_nil_of_le h
/-- A row that is turned in place, up to j. -/
def updTo {α : Type} (f : Nat → α → α) (j : Nat) (a : List α) : List α := a.mapIdx fun i x => bif decide (i < j) then f i x else x
theorem updTo_len {α : Type} (f : Nat → α → α) (j : Nat) (a : List α) : (updTo f j a).length = a.length := by simp [updTo]
theorem updTo_zero {α : Type} (f : Nat → α → α) (a : List α) : updTo f 0 a = a := by
  apply List.ext_getElem?
  intro i
  simp [updTo]
theorem updTo_get {α : Type} (f : Nat → α → α) (a : List α) (j : Nat) : (updTo f j a)[j]? = a[j]? := by
  simp [updTo]
theorem updTo_set {α : Type} (f : Nat → α → α) (a : List α) (j : Nat) (h : j < a.length) : (updTo f j a).set j (f j a[j]) = updTo f (j + 1) a := by
  apply List.ext_getElem?
  intro i
  rw [List.getElem?_set]
  by_cases hij : j = i
  · subst hij
    simp [updTo, h]
  · rw [if_neg hij]
    simp only [updTo, List.getElem?_mapIdx]
    cases a[i]? with
    | none => rfl
    | some x =>
      simp only [Option.map_some, Option.some.injEq]
      by_cases hlt : i < j
      · rw [decide_eq_true hlt, decide_eq_true (show i < j + 1 by omega)]
      · rw [decide_eq_false hlt, decide_eq_false (show ¬ i < j + 1 by omega)]
theorem updTo_all {α : Type} (f : Nat → α → α) (a : List α) (j : Nat) (h : a.length ≤ j) : updTo f j a = a.mapIdx f := by
  apply List.ext_getElem?
  intro i
  simp only [updTo, List.getElem?_mapIdx]
  cases hi : a[i]? with
  | none => rfl
  | some x =>
    have := (List.getElem?_eq_some_iff.1 hi).1
    simp only [Option.map_some, Option.some.injEq]
    rw [decide_eq_true (show i < j by omega)]
    rfl
theorem toNat_nat (k : Nat) : ((k : Int)).toNat = k := Int.toNat_natCast k
theorem app_ok {m b : Nat} (hb : b ≤ 1000) (h : m ≤ 1000000) : decide ((m + 1) * b ≤ 140737488355328 ∧ m + 1 ≤ 140737488355328) = true := by
  have : (m + 1) * b ≤ 1000001 * 1000 := Nat.mul_le_mul (by omega) hb
  exact decide_eq_true ⟨by omega, by omega⟩
end Go.Proofs.YtpiabmjipgfjjaaDoor
