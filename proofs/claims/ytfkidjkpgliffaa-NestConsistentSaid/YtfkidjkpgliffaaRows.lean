/-
  No cell of these rows narrows 'for every input' (looked for: loops, veiled, ifaces, maps, wideKeys, modest, calm, conditions, laid).
  DERIVED. THE GIVEN ROWS OF THIS SEAT. 11 by the template 'for every input the law returns true; each argument reads behind the call as it read before'; 0 by the template 'total and deterministic' (their statements: YtfkidjkpgliffaaTotals.lean).
  GIVEN WITH THE SEED: the statements are not yours to turn. If you find one false, say at which input.
  Laid BY PROGRAM, IN A SANDBOX (cutbox-rows.mjs): the forced cells as the released guide's own fill.sh prints them over the translation 35c92369f7490007… (all of the seat's roots in one cut). By AI agents, Wed Nov 11 2026. No macro, syntax, notation, axiom, sorry.
-/
import Derived.Test.YtfkidjkpgliffaaChecked
import GoSem.Claim
import GoSem.ClaimJoined
import GoSem.ClaimMapViews
import Derived.JoinedTies
import Derived.KernelRfl
namespace Go.Proofs.Ytfkidjkpgliffaa
/- THE CELL 'sum', in the pinned program and in every row, IS THE sha256 OF THE DUMP (.gsa) THAT YtfkidjkpgliffaaProg.lean LOADS. Nothing in Lean hashes anything: it is a label: what it is worth is what the hold of that sum in a sandbox is worth. -/
noncomputable def Try.pinned : Pinned := { name := "ytfkidjkpgliffaa", sum := "35c92369f7490007737623c142e42bfd22131abcc883c600c9e0a8ba0ba216e7", checked := Try.checked }
namespace Rows
def none {H : Type} : Left H := { results := [], args := [] }

/-- 'swarflaw39.NestNest': WHATEVER THE INPUT: true; the input reads as it did. -/
def nestNestSpec : ChangeSpec := { name := "nestNest", fn := fun _ => fun
  | [d] => { results := [.lit (.bool true)], args := [d] }
  | _ => none }
def nestNestRow : OpenClaim := { program := "ytfkidjkpgliffaa", sum := "35c92369f7490007737623c142e42bfd22131abcc883c600c9e0a8ba0ba216e7", func := "swarf/swarflaw39.NestNest", spec := "nestNest", unfollowed := true, recurses := true, apart := false }
def NestNestSaid : Prop := nestNestRow.holds Try.pinned (OpenSpec.ofChange nestNestSpec)

/-- ITS FALSE NEIGHBOUR: 'it returns false'. Refute it at one input. -/
def nestNestWrong : ChangeSpec := { name := "nestNest", fn := fun _ => fun
  | [d] => { results := [.lit (.bool false)], args := [d] }
  | _ => none }
def NestNestWrongFalsely : Prop := nestNestRow.holds Try.pinned (OpenSpec.ofChange nestNestWrong)

/-- 'swarflaw39.NestSpots': WHATEVER THE INPUT: true; the input reads as it did. -/
def nestSpotsSpec : ChangeSpec := { name := "nestSpots", fn := fun _ => fun
  | [d] => { results := [.lit (.bool true)], args := [d] }
  | _ => none }
def nestSpotsRow : OpenClaim := { program := "ytfkidjkpgliffaa", sum := "35c92369f7490007737623c142e42bfd22131abcc883c600c9e0a8ba0ba216e7", func := "swarf/swarflaw39.NestSpots", spec := "nestSpots", unfollowed := true, recurses := true, apart := false }
def NestSpotsSaid : Prop := nestSpotsRow.holds Try.pinned (OpenSpec.ofChange nestSpotsSpec)

/-- ITS FALSE NEIGHBOUR: 'it returns false'. Refute it at one input. -/
def nestSpotsWrong : ChangeSpec := { name := "nestSpots", fn := fun _ => fun
  | [d] => { results := [.lit (.bool false)], args := [d] }
  | _ => none }
def NestSpotsWrongFalsely : Prop := nestSpotsRow.holds Try.pinned (OpenSpec.ofChange nestSpotsWrong)

/-- 'swarflaw39.NestValid': WHATEVER THE INPUT: true; the input reads as it did. -/
def nestValidSpec : ChangeSpec := { name := "nestValid", fn := fun _ => fun
  | [d1, d2] => { results := [.lit (.bool true)], args := [d1, d2] }
  | _ => none }
def nestValidRow : OpenClaim := { program := "ytfkidjkpgliffaa", sum := "35c92369f7490007737623c142e42bfd22131abcc883c600c9e0a8ba0ba216e7", func := "swarf/swarflaw39.NestValid", spec := "nestValid", unfollowed := true, recurses := true, apart := false }
def NestValidSaid : Prop := nestValidRow.holds Try.pinned (OpenSpec.ofChange nestValidSpec)

/-- ITS FALSE NEIGHBOUR: 'it returns false'. Refute it at one input. -/
def nestValidWrong : ChangeSpec := { name := "nestValid", fn := fun _ => fun
  | [d1, d2] => { results := [.lit (.bool false)], args := [d1, d2] }
  | _ => none }
def NestValidWrongFalsely : Prop := nestValidRow.holds Try.pinned (OpenSpec.ofChange nestValidWrong)

/-- 'swarflaw39.NestConsistent': WHATEVER THE INPUT: true; the input reads as it did. -/
def nestConsistentSpec : ChangeSpec := { name := "nestConsistent", fn := fun _ => fun
  | [d] => { results := [.lit (.bool true)], args := [d] }
  | _ => none }
def nestConsistentRow : OpenClaim := { program := "ytfkidjkpgliffaa", sum := "35c92369f7490007737623c142e42bfd22131abcc883c600c9e0a8ba0ba216e7", func := "swarf/swarflaw39.NestConsistent", spec := "nestConsistent", unfollowed := true, recurses := true, apart := false }
def NestConsistentSaid : Prop := nestConsistentRow.holds Try.pinned (OpenSpec.ofChange nestConsistentSpec)

/-- ITS FALSE NEIGHBOUR: 'it returns false'. Refute it at one input. -/
def nestConsistentWrong : ChangeSpec := { name := "nestConsistent", fn := fun _ => fun
  | [d] => { results := [.lit (.bool false)], args := [d] }
  | _ => none }
def NestConsistentWrongFalsely : Prop := nestConsistentRow.holds Try.pinned (OpenSpec.ofChange nestConsistentWrong)

/-- 'swarflaw30.ChooseValid': WHATEVER THE INPUT: true; the input reads as it did. -/
def chooseValidSpec : ChangeSpec := { name := "chooseValid", fn := fun _ => fun
  | [d1, d2] => { results := [.lit (.bool true)], args := [d1, d2] }
  | _ => none }
def chooseValidRow : OpenClaim := { program := "ytfkidjkpgliffaa", sum := "35c92369f7490007737623c142e42bfd22131abcc883c600c9e0a8ba0ba216e7", func := "swarf/swarflaw30.ChooseValid", spec := "chooseValid", unfollowed := true, recurses := true, apart := false }
def ChooseValidSaid : Prop := chooseValidRow.holds Try.pinned (OpenSpec.ofChange chooseValidSpec)

/-- ITS FALSE NEIGHBOUR: 'it returns false'. Refute it at one input. -/
def chooseValidWrong : ChangeSpec := { name := "chooseValid", fn := fun _ => fun
  | [d1, d2] => { results := [.lit (.bool false)], args := [d1, d2] }
  | _ => none }
def ChooseValidWrongFalsely : Prop := chooseValidRow.holds Try.pinned (OpenSpec.ofChange chooseValidWrong)

/-- 'swarflaw30.ChooseBest': WHATEVER THE INPUT: true; the input reads as it did. -/
def chooseBestSpec : ChangeSpec := { name := "chooseBest", fn := fun _ => fun
  | [d1, d2] => { results := [.lit (.bool true)], args := [d1, d2] }
  | _ => none }
def chooseBestRow : OpenClaim := { program := "ytfkidjkpgliffaa", sum := "35c92369f7490007737623c142e42bfd22131abcc883c600c9e0a8ba0ba216e7", func := "swarf/swarflaw30.ChooseBest", spec := "chooseBest", unfollowed := true, recurses := true, apart := false }
def ChooseBestSaid : Prop := chooseBestRow.holds Try.pinned (OpenSpec.ofChange chooseBestSpec)

/-- ITS FALSE NEIGHBOUR: 'it returns false'. Refute it at one input. -/
def chooseBestWrong : ChangeSpec := { name := "chooseBest", fn := fun _ => fun
  | [d1, d2] => { results := [.lit (.bool false)], args := [d1, d2] }
  | _ => none }
def ChooseBestWrongFalsely : Prop := chooseBestRow.holds Try.pinned (OpenSpec.ofChange chooseBestWrong)

/-- 'swarflaw30.ChooseGreedy': WHATEVER THE INPUT: true; the input reads as it did. -/
def chooseGreedySpec : ChangeSpec := { name := "chooseGreedy", fn := fun _ => fun
  | [d1, d2] => { results := [.lit (.bool true)], args := [d1, d2] }
  | _ => none }
def chooseGreedyRow : OpenClaim := { program := "ytfkidjkpgliffaa", sum := "35c92369f7490007737623c142e42bfd22131abcc883c600c9e0a8ba0ba216e7", func := "swarf/swarflaw30.ChooseGreedy", spec := "chooseGreedy", unfollowed := true, recurses := true, apart := false }
def ChooseGreedySaid : Prop := chooseGreedyRow.holds Try.pinned (OpenSpec.ofChange chooseGreedySpec)

/-- ITS FALSE NEIGHBOUR: 'it returns false'. Refute it at one input. -/
def chooseGreedyWrong : ChangeSpec := { name := "chooseGreedy", fn := fun _ => fun
  | [d1, d2] => { results := [.lit (.bool false)], args := [d1, d2] }
  | _ => none }
def ChooseGreedyWrongFalsely : Prop := chooseGreedyRow.holds Try.pinned (OpenSpec.ofChange chooseGreedyWrong)

/-- 'swarflaw30.ChoosePrices': WHATEVER THE INPUT: true; the input reads as it did. -/
def choosePricesSpec : ChangeSpec := { name := "choosePrices", fn := fun _ => fun
  | [d1, d2, d3] => { results := [.lit (.bool true)], args := [d1, d2, d3] }
  | _ => none }
def choosePricesRow : OpenClaim := { program := "ytfkidjkpgliffaa", sum := "35c92369f7490007737623c142e42bfd22131abcc883c600c9e0a8ba0ba216e7", func := "swarf/swarflaw30.ChoosePrices", spec := "choosePrices", unfollowed := true, recurses := true, apart := false }
def ChoosePricesSaid : Prop := choosePricesRow.holds Try.pinned (OpenSpec.ofChange choosePricesSpec)

/-- ITS FALSE NEIGHBOUR: 'it returns false'. Refute it at one input. -/
def choosePricesWrong : ChangeSpec := { name := "choosePrices", fn := fun _ => fun
  | [d1, d2, d3] => { results := [.lit (.bool false)], args := [d1, d2, d3] }
  | _ => none }
def ChoosePricesWrongFalsely : Prop := choosePricesRow.holds Try.pinned (OpenSpec.ofChange choosePricesWrong)

/-- 'swarflaw30.ChooseRaise': WHATEVER THE INPUT: true; the input reads as it did. -/
def chooseRaiseSpec : ChangeSpec := { name := "chooseRaise", fn := fun _ => fun
  | [d1, d2] => { results := [.lit (.bool true)], args := [d1, d2] }
  | _ => none }
def chooseRaiseRow : OpenClaim := { program := "ytfkidjkpgliffaa", sum := "35c92369f7490007737623c142e42bfd22131abcc883c600c9e0a8ba0ba216e7", func := "swarf/swarflaw30.ChooseRaise", spec := "chooseRaise", unfollowed := true, recurses := true, apart := false }
def ChooseRaiseSaid : Prop := chooseRaiseRow.holds Try.pinned (OpenSpec.ofChange chooseRaiseSpec)

/-- ITS FALSE NEIGHBOUR: 'it returns false'. Refute it at one input. -/
def chooseRaiseWrong : ChangeSpec := { name := "chooseRaise", fn := fun _ => fun
  | [d1, d2] => { results := [.lit (.bool false)], args := [d1, d2] }
  | _ => none }
def ChooseRaiseWrongFalsely : Prop := chooseRaiseRow.holds Try.pinned (OpenSpec.ofChange chooseRaiseWrong)

/-- 'swarflaw30.ChooseBound': WHATEVER THE INPUT: true; the input reads as it did. -/
def chooseBoundSpec : ChangeSpec := { name := "chooseBound", fn := fun _ => fun
  | [d1, d2, d3] => { results := [.lit (.bool true)], args := [d1, d2, d3] }
  | _ => none }
def chooseBoundRow : OpenClaim := { program := "ytfkidjkpgliffaa", sum := "35c92369f7490007737623c142e42bfd22131abcc883c600c9e0a8ba0ba216e7", func := "swarf/swarflaw30.ChooseBound", spec := "chooseBound", unfollowed := true, recurses := true, apart := false }
def ChooseBoundSaid : Prop := chooseBoundRow.holds Try.pinned (OpenSpec.ofChange chooseBoundSpec)

/-- ITS FALSE NEIGHBOUR: 'it returns false'. Refute it at one input. -/
def chooseBoundWrong : ChangeSpec := { name := "chooseBound", fn := fun _ => fun
  | [d1, d2, d3] => { results := [.lit (.bool false)], args := [d1, d2, d3] }
  | _ => none }
def ChooseBoundWrongFalsely : Prop := chooseBoundRow.holds Try.pinned (OpenSpec.ofChange chooseBoundWrong)

/-- 'swarflaw30.ChooseCoverable': WHATEVER THE INPUT: true; the input reads as it did. -/
def chooseCoverableSpec : ChangeSpec := { name := "chooseCoverable", fn := fun _ => fun
  | [d1, d2, d3] => { results := [.lit (.bool true)], args := [d1, d2, d3] }
  | _ => none }
def chooseCoverableRow : OpenClaim := { program := "ytfkidjkpgliffaa", sum := "35c92369f7490007737623c142e42bfd22131abcc883c600c9e0a8ba0ba216e7", func := "swarf/swarflaw30.ChooseCoverable", spec := "chooseCoverable", unfollowed := true, recurses := true, apart := false }
def ChooseCoverableSaid : Prop := chooseCoverableRow.holds Try.pinned (OpenSpec.ofChange chooseCoverableSpec)

/-- ITS FALSE NEIGHBOUR: 'it returns false'. Refute it at one input. -/
def chooseCoverableWrong : ChangeSpec := { name := "chooseCoverable", fn := fun _ => fun
  | [d1, d2, d3] => { results := [.lit (.bool false)], args := [d1, d2, d3] }
  | _ => none }
def ChooseCoverableWrongFalsely : Prop := chooseCoverableRow.holds Try.pinned (OpenSpec.ofChange chooseCoverableWrong)

/- THE SECOND FORM. 'bulk': how many values and letters a reading holds, each counted each time it is reached (what is shared counts as often as it is met; a slice's spare places count too). A statement '..UptoSaid' is the law's where the arguments, and the package variables that the reading takes, are together of bulk at most 1048576: NARROWER than '..Said'. Prove '..Said' where nothing that the law and all that it calls make is longer than what came in: it says more and counts as full. Else prove '..UptoSaid'. A law counts once. -/
mutual
def uptoBulk {H : Type} : DataW H → Nat
  | .lit (.string bytes) => bytes.length + 1
  | .lit _ => 1
  | .nil => 1
  | .ptr d => uptoBulk d + 1
  | .slice elems spare => uptoBulkAll elems + uptoBulkAll spare + 1
  | .agg parts => uptoBulkAll parts + 1
  | .iface _ d => uptoBulk d + 1
  | .map entries => uptoBulkEntries entries + 1
  | .held _ => 1
def uptoBulkAll {H : Type} : List (DataW H) → Nat
  | [] => 0
  | d :: r => uptoBulk d + uptoBulkAll r
def uptoBulkEntries {H : Type} : List (Lit × DataW H) → Nat
  | [] => 0
  | x :: r => uptoBulkEntry x + uptoBulkEntries r
def uptoBulkEntry {H : Type} : Lit × DataW H → Nat
  | (.string bytes, d) => bytes.length + uptoBulk d + 1
  | (_, d) => uptoBulk d + 1
 end
def uptoSmall : (H : Type) → List (DataW H) → Bool := fun _ ds => decide (uptoBulkAll ds ≤ 1048576)
def OpenSpec.upto (s : _root_.Go.ChangeSpec) : _root_.Go.OpenSpec := { _root_.Go.OpenSpec.ofChange s with cond := some uptoSmall }

/-- 'swarflaw39.NestNest', WHERE WHAT IT READS IS OF BULK AT MOST 1048576: true; the input reads as it did. -/
def nestNestUptoRow : OpenClaim := { program := "ytfkidjkpgliffaa", sum := "35c92369f7490007737623c142e42bfd22131abcc883c600c9e0a8ba0ba216e7", func := "swarf/swarflaw39.NestNest", spec := "nestNest", unfollowed := true, recurses := true, apart := false, narrowed := true }
def NestNestUptoSaid : Prop := nestNestUptoRow.holds Try.pinned (OpenSpec.upto nestNestSpec)

/-- 'swarflaw39.NestSpots', WHERE WHAT IT READS IS OF BULK AT MOST 1048576: true; the input reads as it did. -/
def nestSpotsUptoRow : OpenClaim := { program := "ytfkidjkpgliffaa", sum := "35c92369f7490007737623c142e42bfd22131abcc883c600c9e0a8ba0ba216e7", func := "swarf/swarflaw39.NestSpots", spec := "nestSpots", unfollowed := true, recurses := true, apart := false, narrowed := true }
def NestSpotsUptoSaid : Prop := nestSpotsUptoRow.holds Try.pinned (OpenSpec.upto nestSpotsSpec)

/-- 'swarflaw39.NestValid', WHERE WHAT IT READS IS OF BULK AT MOST 1048576: true; the input reads as it did. -/
def nestValidUptoRow : OpenClaim := { program := "ytfkidjkpgliffaa", sum := "35c92369f7490007737623c142e42bfd22131abcc883c600c9e0a8ba0ba216e7", func := "swarf/swarflaw39.NestValid", spec := "nestValid", unfollowed := true, recurses := true, apart := false, narrowed := true }
def NestValidUptoSaid : Prop := nestValidUptoRow.holds Try.pinned (OpenSpec.upto nestValidSpec)

/-- 'swarflaw39.NestConsistent', WHERE WHAT IT READS IS OF BULK AT MOST 1048576: true; the input reads as it did. -/
def nestConsistentUptoRow : OpenClaim := { program := "ytfkidjkpgliffaa", sum := "35c92369f7490007737623c142e42bfd22131abcc883c600c9e0a8ba0ba216e7", func := "swarf/swarflaw39.NestConsistent", spec := "nestConsistent", unfollowed := true, recurses := true, apart := false, narrowed := true }
def NestConsistentUptoSaid : Prop := nestConsistentUptoRow.holds Try.pinned (OpenSpec.upto nestConsistentSpec)

/-- 'swarflaw30.ChooseValid', WHERE WHAT IT READS IS OF BULK AT MOST 1048576: true; the input reads as it did. -/
def chooseValidUptoRow : OpenClaim := { program := "ytfkidjkpgliffaa", sum := "35c92369f7490007737623c142e42bfd22131abcc883c600c9e0a8ba0ba216e7", func := "swarf/swarflaw30.ChooseValid", spec := "chooseValid", unfollowed := true, recurses := true, apart := false, narrowed := true }
def ChooseValidUptoSaid : Prop := chooseValidUptoRow.holds Try.pinned (OpenSpec.upto chooseValidSpec)

/-- 'swarflaw30.ChooseBest', WHERE WHAT IT READS IS OF BULK AT MOST 1048576: true; the input reads as it did. -/
def chooseBestUptoRow : OpenClaim := { program := "ytfkidjkpgliffaa", sum := "35c92369f7490007737623c142e42bfd22131abcc883c600c9e0a8ba0ba216e7", func := "swarf/swarflaw30.ChooseBest", spec := "chooseBest", unfollowed := true, recurses := true, apart := false, narrowed := true }
def ChooseBestUptoSaid : Prop := chooseBestUptoRow.holds Try.pinned (OpenSpec.upto chooseBestSpec)

/-- 'swarflaw30.ChooseGreedy', WHERE WHAT IT READS IS OF BULK AT MOST 1048576: true; the input reads as it did. -/
def chooseGreedyUptoRow : OpenClaim := { program := "ytfkidjkpgliffaa", sum := "35c92369f7490007737623c142e42bfd22131abcc883c600c9e0a8ba0ba216e7", func := "swarf/swarflaw30.ChooseGreedy", spec := "chooseGreedy", unfollowed := true, recurses := true, apart := false, narrowed := true }
def ChooseGreedyUptoSaid : Prop := chooseGreedyUptoRow.holds Try.pinned (OpenSpec.upto chooseGreedySpec)

/-- 'swarflaw30.ChoosePrices', WHERE WHAT IT READS IS OF BULK AT MOST 1048576: true; the input reads as it did. -/
def choosePricesUptoRow : OpenClaim := { program := "ytfkidjkpgliffaa", sum := "35c92369f7490007737623c142e42bfd22131abcc883c600c9e0a8ba0ba216e7", func := "swarf/swarflaw30.ChoosePrices", spec := "choosePrices", unfollowed := true, recurses := true, apart := false, narrowed := true }
def ChoosePricesUptoSaid : Prop := choosePricesUptoRow.holds Try.pinned (OpenSpec.upto choosePricesSpec)

/-- 'swarflaw30.ChooseRaise', WHERE WHAT IT READS IS OF BULK AT MOST 1048576: true; the input reads as it did. -/
def chooseRaiseUptoRow : OpenClaim := { program := "ytfkidjkpgliffaa", sum := "35c92369f7490007737623c142e42bfd22131abcc883c600c9e0a8ba0ba216e7", func := "swarf/swarflaw30.ChooseRaise", spec := "chooseRaise", unfollowed := true, recurses := true, apart := false, narrowed := true }
def ChooseRaiseUptoSaid : Prop := chooseRaiseUptoRow.holds Try.pinned (OpenSpec.upto chooseRaiseSpec)

/-- 'swarflaw30.ChooseBound', WHERE WHAT IT READS IS OF BULK AT MOST 1048576: true; the input reads as it did. -/
def chooseBoundUptoRow : OpenClaim := { program := "ytfkidjkpgliffaa", sum := "35c92369f7490007737623c142e42bfd22131abcc883c600c9e0a8ba0ba216e7", func := "swarf/swarflaw30.ChooseBound", spec := "chooseBound", unfollowed := true, recurses := true, apart := false, narrowed := true }
def ChooseBoundUptoSaid : Prop := chooseBoundUptoRow.holds Try.pinned (OpenSpec.upto chooseBoundSpec)

/-- 'swarflaw30.ChooseCoverable', WHERE WHAT IT READS IS OF BULK AT MOST 1048576: true; the input reads as it did. -/
def chooseCoverableUptoRow : OpenClaim := { program := "ytfkidjkpgliffaa", sum := "35c92369f7490007737623c142e42bfd22131abcc883c600c9e0a8ba0ba216e7", func := "swarf/swarflaw30.ChooseCoverable", spec := "chooseCoverable", unfollowed := true, recurses := true, apart := false, narrowed := true }
def ChooseCoverableUptoSaid : Prop := chooseCoverableUptoRow.holds Try.pinned (OpenSpec.upto chooseCoverableSpec)

end Rows
end Go.Proofs.Ytfkidjkpgliffaa
