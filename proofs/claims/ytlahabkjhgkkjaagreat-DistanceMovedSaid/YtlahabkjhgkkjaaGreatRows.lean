/-
  No cell of these rows narrows 'for every input' (looked for: loops, veiled, ifaces, maps, wideKeys, modest, calm, conditions, laid).
  DERIVED. THE GIVEN ROWS OF THIS SEAT. 8 by the template 'for every input the law returns true; each argument reads behind the call as it read before'; 0 by the template 'total and deterministic' (their statements: YtlahabkjhgkkjaaGreatTotals.lean).
  GIVEN WITH THE SEED: the statements are not yours to turn. If you find one false, say at which input.
  Laid BY PROGRAM, IN A SANDBOX (cutbox-rows.mjs): the forced cells as the released guide's own fill.sh prints them over the translation 1c69cf30af75c28a… (all of the seat's roots in one cut). By AI agents, Wed Nov 11 2026. No macro, syntax, notation, axiom, sorry.
-/
import Derived.Test.YtlahabkjhgkkjaaGreatChecked
import GoSem.Claim
import GoSem.ClaimJoined
import GoSem.ClaimMapViews
import Derived.JoinedTies
import Derived.KernelRfl
namespace Go.Proofs.YtlahabkjhgkkjaaGreat
/- THE CELL 'sum', in the pinned program and in every row, IS THE sha256 OF THE DUMP (.gsa) THAT YtlahabkjhgkkjaaGreatProg.lean LOADS. Nothing in Lean hashes anything: it is a label: what it is worth is what the hold of that sum in a sandbox is worth. -/
noncomputable def Tryz.pinned : Pinned := { name := "ytlahabkjhgkkjaagreat", sum := "1c69cf30af75c28a71c98e2957ca8c53244cac0a0bc59f369663423330a36544", checked := Tryz.checked }
namespace Rows
def none {H : Type} : Left H := { results := [], args := [] }

/-- 'swarflaw12.DistanceSquare': WHATEVER THE INPUT: true; the input reads as it did. -/
def distanceSquareSpec : ChangeSpec := { name := "distanceSquare", fn := fun _ => fun
  | [d1, d2] => { results := [.lit (.bool true)], args := [d1, d2] }
  | _ => none }
def distanceSquareRow : OpenClaim := { program := "ytlahabkjhgkkjaagreat", sum := "1c69cf30af75c28a71c98e2957ca8c53244cac0a0bc59f369663423330a36544", func := "swarf/swarflaw12.DistanceSquare", spec := "distanceSquare", unfollowed := true, recurses := true, apart := false }
def DistanceSquareSaid : Prop := distanceSquareRow.holds Tryz.pinned (OpenSpec.ofChange distanceSquareSpec)

/-- ITS FALSE NEIGHBOUR: 'it returns false'. Refute it at one input. -/
def distanceSquareWrong : ChangeSpec := { name := "distanceSquare", fn := fun _ => fun
  | [d1, d2] => { results := [.lit (.bool false)], args := [d1, d2] }
  | _ => none }
def DistanceSquareWrongFalsely : Prop := distanceSquareRow.holds Tryz.pinned (OpenSpec.ofChange distanceSquareWrong)

/-- 'swarflaw12.DistanceCmp': WHATEVER THE INPUT: true; the input reads as it did. -/
def distanceCmpSpec : ChangeSpec := { name := "distanceCmp", fn := fun _ => fun
  | [d1, d2, d3] => { results := [.lit (.bool true)], args := [d1, d2, d3] }
  | _ => none }
def distanceCmpRow : OpenClaim := { program := "ytlahabkjhgkkjaagreat", sum := "1c69cf30af75c28a71c98e2957ca8c53244cac0a0bc59f369663423330a36544", func := "swarf/swarflaw12.DistanceCmp", spec := "distanceCmp", unfollowed := true, recurses := true, apart := false }
def DistanceCmpSaid : Prop := distanceCmpRow.holds Tryz.pinned (OpenSpec.ofChange distanceCmpSpec)

/-- ITS FALSE NEIGHBOUR: 'it returns false'. Refute it at one input. -/
def distanceCmpWrong : ChangeSpec := { name := "distanceCmp", fn := fun _ => fun
  | [d1, d2, d3] => { results := [.lit (.bool false)], args := [d1, d2, d3] }
  | _ => none }
def DistanceCmpWrongFalsely : Prop := distanceCmpRow.holds Tryz.pinned (OpenSpec.ofChange distanceCmpWrong)

/-- 'swarflaw12.DistanceToward': WHATEVER THE INPUT: true; the input reads as it did. -/
def distanceTowardSpec : ChangeSpec := { name := "distanceToward", fn := fun _ => fun
  | [d1, d2] => { results := [.lit (.bool true)], args := [d1, d2] }
  | _ => none }
def distanceTowardRow : OpenClaim := { program := "ytlahabkjhgkkjaagreat", sum := "1c69cf30af75c28a71c98e2957ca8c53244cac0a0bc59f369663423330a36544", func := "swarf/swarflaw12.DistanceToward", spec := "distanceToward", unfollowed := true, recurses := true, apart := false }
def DistanceTowardSaid : Prop := distanceTowardRow.holds Tryz.pinned (OpenSpec.ofChange distanceTowardSpec)

/-- ITS FALSE NEIGHBOUR: 'it returns false'. Refute it at one input. -/
def distanceTowardWrong : ChangeSpec := { name := "distanceToward", fn := fun _ => fun
  | [d1, d2] => { results := [.lit (.bool false)], args := [d1, d2] }
  | _ => none }
def DistanceTowardWrongFalsely : Prop := distanceTowardRow.holds Tryz.pinned (OpenSpec.ofChange distanceTowardWrong)

/-- 'swarflaw12.DistancePieces': WHATEVER THE INPUT: true; the input reads as it did. -/
def distancePiecesSpec : ChangeSpec := { name := "distancePieces", fn := fun _ => fun
  | [d1, d2, d3] => { results := [.lit (.bool true)], args := [d1, d2, d3] }
  | _ => none }
def distancePiecesRow : OpenClaim := { program := "ytlahabkjhgkkjaagreat", sum := "1c69cf30af75c28a71c98e2957ca8c53244cac0a0bc59f369663423330a36544", func := "swarf/swarflaw12.DistancePieces", spec := "distancePieces", unfollowed := true, recurses := true, apart := false }
def DistancePiecesSaid : Prop := distancePiecesRow.holds Tryz.pinned (OpenSpec.ofChange distancePiecesSpec)

/-- ITS FALSE NEIGHBOUR: 'it returns false'. Refute it at one input. -/
def distancePiecesWrong : ChangeSpec := { name := "distancePieces", fn := fun _ => fun
  | [d1, d2, d3] => { results := [.lit (.bool false)], args := [d1, d2, d3] }
  | _ => none }
def DistancePiecesWrongFalsely : Prop := distancePiecesRow.holds Tryz.pinned (OpenSpec.ofChange distancePiecesWrong)

/-- 'swarflaw12.DistanceSegments': WHATEVER THE INPUT: true; the input reads as it did. -/
def distanceSegmentsSpec : ChangeSpec := { name := "distanceSegments", fn := fun _ => fun
  | [d1, d2] => { results := [.lit (.bool true)], args := [d1, d2] }
  | _ => none }
def distanceSegmentsRow : OpenClaim := { program := "ytlahabkjhgkkjaagreat", sum := "1c69cf30af75c28a71c98e2957ca8c53244cac0a0bc59f369663423330a36544", func := "swarf/swarflaw12.DistanceSegments", spec := "distanceSegments", unfollowed := true, recurses := true, apart := false }
def DistanceSegmentsSaid : Prop := distanceSegmentsRow.holds Tryz.pinned (OpenSpec.ofChange distanceSegmentsSpec)

/-- ITS FALSE NEIGHBOUR: 'it returns false'. Refute it at one input. -/
def distanceSegmentsWrong : ChangeSpec := { name := "distanceSegments", fn := fun _ => fun
  | [d1, d2] => { results := [.lit (.bool false)], args := [d1, d2] }
  | _ => none }
def DistanceSegmentsWrongFalsely : Prop := distanceSegmentsRow.holds Tryz.pinned (OpenSpec.ofChange distanceSegmentsWrong)

/-- 'swarflaw12.DistanceNearest': WHATEVER THE INPUT: true; the input reads as it did. -/
def distanceNearestSpec : ChangeSpec := { name := "distanceNearest", fn := fun _ => fun
  | [d1, d2] => { results := [.lit (.bool true)], args := [d1, d2] }
  | _ => none }
def distanceNearestRow : OpenClaim := { program := "ytlahabkjhgkkjaagreat", sum := "1c69cf30af75c28a71c98e2957ca8c53244cac0a0bc59f369663423330a36544", func := "swarf/swarflaw12.DistanceNearest", spec := "distanceNearest", unfollowed := true, recurses := true, apart := false }
def DistanceNearestSaid : Prop := distanceNearestRow.holds Tryz.pinned (OpenSpec.ofChange distanceNearestSpec)

/-- ITS FALSE NEIGHBOUR: 'it returns false'. Refute it at one input. -/
def distanceNearestWrong : ChangeSpec := { name := "distanceNearest", fn := fun _ => fun
  | [d1, d2] => { results := [.lit (.bool false)], args := [d1, d2] }
  | _ => none }
def DistanceNearestWrongFalsely : Prop := distanceNearestRow.holds Tryz.pinned (OpenSpec.ofChange distanceNearestWrong)

/-- 'swarflaw12.DistancePoint': WHATEVER THE INPUT: true; the input reads as it did. -/
def distancePointSpec : ChangeSpec := { name := "distancePoint", fn := fun _ => fun
  | [d1, d2, d3] => { results := [.lit (.bool true)], args := [d1, d2, d3] }
  | _ => none }
def distancePointRow : OpenClaim := { program := "ytlahabkjhgkkjaagreat", sum := "1c69cf30af75c28a71c98e2957ca8c53244cac0a0bc59f369663423330a36544", func := "swarf/swarflaw12.DistancePoint", spec := "distancePoint", unfollowed := true, recurses := true, apart := false }
def DistancePointSaid : Prop := distancePointRow.holds Tryz.pinned (OpenSpec.ofChange distancePointSpec)

/-- ITS FALSE NEIGHBOUR: 'it returns false'. Refute it at one input. -/
def distancePointWrong : ChangeSpec := { name := "distancePoint", fn := fun _ => fun
  | [d1, d2, d3] => { results := [.lit (.bool false)], args := [d1, d2, d3] }
  | _ => none }
def DistancePointWrongFalsely : Prop := distancePointRow.holds Tryz.pinned (OpenSpec.ofChange distancePointWrong)

/-- 'swarflaw12.DistanceMoved': WHATEVER THE INPUT: true; the input reads as it did. -/
def distanceMovedSpec : ChangeSpec := { name := "distanceMoved", fn := fun _ => fun
  | [d1, d2, d3] => { results := [.lit (.bool true)], args := [d1, d2, d3] }
  | _ => none }
def distanceMovedRow : OpenClaim := { program := "ytlahabkjhgkkjaagreat", sum := "1c69cf30af75c28a71c98e2957ca8c53244cac0a0bc59f369663423330a36544", func := "swarf/swarflaw12.DistanceMoved", spec := "distanceMoved", unfollowed := true, recurses := true, apart := false }
def DistanceMovedSaid : Prop := distanceMovedRow.holds Tryz.pinned (OpenSpec.ofChange distanceMovedSpec)

/-- ITS FALSE NEIGHBOUR: 'it returns false'. Refute it at one input. -/
def distanceMovedWrong : ChangeSpec := { name := "distanceMoved", fn := fun _ => fun
  | [d1, d2, d3] => { results := [.lit (.bool false)], args := [d1, d2, d3] }
  | _ => none }
def DistanceMovedWrongFalsely : Prop := distanceMovedRow.holds Tryz.pinned (OpenSpec.ofChange distanceMovedWrong)

/- THE SECOND FORM. 'bulk': how many values and letters a reading holds, each counted each time it is reached (what is shared counts as often as it is met; a slice's spare places count too). A statement '..UptoSaid' is the law's where the arguments, and the package variables that the reading takes, are together of bulk at most 1048576: NARROWER than '..Said'. Prove '..Said' where nothing that the law and all that it calls make is longer than what came in: it says more and counts as full. Else prove '..UptoSaid'. A law counts once. -/
mutual
def uptoBulk {H : Type} : DataW H → Nat
  | .lit (.string bytes) => bytes.length + 1
  | .lit _ => 1
  | .nil => 1
  | .ptr d => uptoBulk d + 1
  | .slice elems spare => uptoBulkAll elems + uptoBulkAll spare + 1
  | .agg parts => uptoBulkAll parts + 1
  | .iface _ d => uptoBulk d + 1
  | .map entries => uptoBulkEntries entries + 1
  | .held _ => 1
def uptoBulkAll {H : Type} : List (DataW H) → Nat
  | [] => 0
  | d :: r => uptoBulk d + uptoBulkAll r
def uptoBulkEntries {H : Type} : List (Lit × DataW H) → Nat
  | [] => 0
  | x :: r => uptoBulkEntry x + uptoBulkEntries r
def uptoBulkEntry {H : Type} : Lit × DataW H → Nat
  | (.string bytes, d) => bytes.length + uptoBulk d + 1
  | (_, d) => uptoBulk d + 1
 end
def uptoSmall : (H : Type) → List (DataW H) → Bool := fun _ ds => decide (uptoBulkAll ds ≤ 1048576)
def OpenSpec.upto (s : _root_.Go.ChangeSpec) : _root_.Go.OpenSpec := { _root_.Go.OpenSpec.ofChange s with cond := some uptoSmall }

/-- 'swarflaw12.DistanceSquare', WHERE WHAT IT READS IS OF BULK AT MOST 1048576: true; the input reads as it did. -/
def distanceSquareUptoRow : OpenClaim := { program := "ytlahabkjhgkkjaagreat", sum := "1c69cf30af75c28a71c98e2957ca8c53244cac0a0bc59f369663423330a36544", func := "swarf/swarflaw12.DistanceSquare", spec := "distanceSquare", unfollowed := true, recurses := true, apart := false, narrowed := true }
def DistanceSquareUptoSaid : Prop := distanceSquareUptoRow.holds Tryz.pinned (OpenSpec.upto distanceSquareSpec)

/-- 'swarflaw12.DistanceCmp', WHERE WHAT IT READS IS OF BULK AT MOST 1048576: true; the input reads as it did. -/
def distanceCmpUptoRow : OpenClaim := { program := "ytlahabkjhgkkjaagreat", sum := "1c69cf30af75c28a71c98e2957ca8c53244cac0a0bc59f369663423330a36544", func := "swarf/swarflaw12.DistanceCmp", spec := "distanceCmp", unfollowed := true, recurses := true, apart := false, narrowed := true }
def DistanceCmpUptoSaid : Prop := distanceCmpUptoRow.holds Tryz.pinned (OpenSpec.upto distanceCmpSpec)

/-- 'swarflaw12.DistanceToward', WHERE WHAT IT READS IS OF BULK AT MOST 1048576: true; the input reads as it did. -/
def distanceTowardUptoRow : OpenClaim := { program := "ytlahabkjhgkkjaagreat", sum := "1c69cf30af75c28a71c98e2957ca8c53244cac0a0bc59f369663423330a36544", func := "swarf/swarflaw12.DistanceToward", spec := "distanceToward", unfollowed := true, recurses := true, apart := false, narrowed := true }
def DistanceTowardUptoSaid : Prop := distanceTowardUptoRow.holds Tryz.pinned (OpenSpec.upto distanceTowardSpec)

/-- 'swarflaw12.DistancePieces', WHERE WHAT IT READS IS OF BULK AT MOST 1048576: true; the input reads as it did. -/
def distancePiecesUptoRow : OpenClaim := { program := "ytlahabkjhgkkjaagreat", sum := "1c69cf30af75c28a71c98e2957ca8c53244cac0a0bc59f369663423330a36544", func := "swarf/swarflaw12.DistancePieces", spec := "distancePieces", unfollowed := true, recurses := true, apart := false, narrowed := true }
def DistancePiecesUptoSaid : Prop := distancePiecesUptoRow.holds Tryz.pinned (OpenSpec.upto distancePiecesSpec)

/-- 'swarflaw12.DistanceSegments', WHERE WHAT IT READS IS OF BULK AT MOST 1048576: true; the input reads as it did. -/
def distanceSegmentsUptoRow : OpenClaim := { program := "ytlahabkjhgkkjaagreat", sum := "1c69cf30af75c28a71c98e2957ca8c53244cac0a0bc59f369663423330a36544", func := "swarf/swarflaw12.DistanceSegments", spec := "distanceSegments", unfollowed := true, recurses := true, apart := false, narrowed := true }
def DistanceSegmentsUptoSaid : Prop := distanceSegmentsUptoRow.holds Tryz.pinned (OpenSpec.upto distanceSegmentsSpec)

/-- 'swarflaw12.DistanceNearest', WHERE WHAT IT READS IS OF BULK AT MOST 1048576: true; the input reads as it did. -/
def distanceNearestUptoRow : OpenClaim := { program := "ytlahabkjhgkkjaagreat", sum := "1c69cf30af75c28a71c98e2957ca8c53244cac0a0bc59f369663423330a36544", func := "swarf/swarflaw12.DistanceNearest", spec := "distanceNearest", unfollowed := true, recurses := true, apart := false, narrowed := true }
def DistanceNearestUptoSaid : Prop := distanceNearestUptoRow.holds Tryz.pinned (OpenSpec.upto distanceNearestSpec)

/-- 'swarflaw12.DistancePoint', WHERE WHAT IT READS IS OF BULK AT MOST 1048576: true; the input reads as it did. -/
def distancePointUptoRow : OpenClaim := { program := "ytlahabkjhgkkjaagreat", sum := "1c69cf30af75c28a71c98e2957ca8c53244cac0a0bc59f369663423330a36544", func := "swarf/swarflaw12.DistancePoint", spec := "distancePoint", unfollowed := true, recurses := true, apart := false, narrowed := true }
def DistancePointUptoSaid : Prop := distancePointUptoRow.holds Tryz.pinned (OpenSpec.upto distancePointSpec)

/-- 'swarflaw12.DistanceMoved', WHERE WHAT IT READS IS OF BULK AT MOST 1048576: true; the input reads as it did. -/
def distanceMovedUptoRow : OpenClaim := { program := "ytlahabkjhgkkjaagreat", sum := "1c69cf30af75c28a71c98e2957ca8c53244cac0a0bc59f369663423330a36544", func := "swarf/swarflaw12.DistanceMoved", spec := "distanceMoved", unfollowed := true, recurses := true, apart := false, narrowed := true }
def DistanceMovedUptoSaid : Prop := distanceMovedUptoRow.holds Tryz.pinned (OpenSpec.upto distanceMovedSpec)

end Rows
end Go.Proofs.YtlahabkjhgkkjaaGreat
