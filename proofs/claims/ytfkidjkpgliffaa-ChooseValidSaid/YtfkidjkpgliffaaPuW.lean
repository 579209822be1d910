/- Small words for the plain proofs: numbers in their range, elements of lists, loops over an index. -/
import Derived.Test.YtfkidjkpgliffaaPuV
namespace Go.Proofs.Ytfkidjkpgliffaa
open Go.RowKit
theorem wrap64 {x : Int} (h1 : -9223372036854775808 ≤ x) (h2 : x ≤ 9223372036854775807) : IntKind.i64.wrap x = x := IntWalk.i64_in x ⟨h1, h2⟩
theorem wrapS {k : Nat} (h : k + 1 ≤ 9223372036854775807) : IntKind.i64.wrap ((k : Int) + 1) = ((k + 1 : Nat) : Int) := by rw [wrap64 (by omega) (by omega)]; simp
theorem getI_nat {α : Type} (xs : List α) (k : Nat) : getI xs (k : Int) = xs[k]? := by unfold getI; rw [decide_eq_true (by omega)]; rfl
theorem getI_zero {α : Type} (xs : List α) : getI xs 0 = xs[0]? := getI_nat xs 0
theorem lt_dec {k n : Nat} (h : k < n) : decide ((k : Int) < (n : Int)) = true := decide_eq_true (by omega)
theorem ge_dec {k n : Nat} (h : n ≤ k) : decide ((k : Int) < (n : Int)) = false := decide_eq_false (by omega)
theorem drop_get {α : Type} {xs : List α} {k : Nat} (h : k < xs.length) : xs.drop k = xs[k] :: xs.drop (k + 1) := List.drop_eq_getElem_cons h
theorem drop_end {α : Type} {xs : List α} {k : Nat} (h : xs.length ≤ k) : xs.drop k = [] := List.drop_eq_nil_of_le h
end Go.Proofs.Ytfkidjkpgliffaa
