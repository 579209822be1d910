/-
  No cell of these rows narrows 'for every input' (looked for: loops, veiled, ifaces, maps, wideKeys, modest, calm, conditions, laid).
  DERIVED. THE GIVEN ROWS OF THIS SEAT. 8 by the template 'for every input the law returns true; each argument reads behind the call as it read before'; 0 by the template 'total and deterministic' (their statements: YtnkndpoojnflmaaGreatTotals.lean).
  GIVEN WITH THE SEED: the statements are not yours to turn. If you find one false, say at which input.
  Laid BY PROGRAM, IN A SANDBOX (cutbox-rows.mjs): the forced cells as the released guide's own fill.sh prints them over the translation 70757d0d22b1ce34… (all of the seat's roots in one cut). By AI agents, Wed Nov 11 2026. No macro, syntax, notation, axiom, sorry.
-/
import Derived.Test.YtnkndpoojnflmaaGreatChecked
import GoSem.Claim
import GoSem.ClaimJoined
import GoSem.ClaimMapViews
import Derived.JoinedTies
import Derived.KernelRfl
namespace Go.Proofs.YtnkndpoojnflmaaGreat
/- THE CELL 'sum', in the pinned program and in every row, IS THE sha256 OF THE DUMP (.gsa) THAT YtnkndpoojnflmaaGreatProg.lean LOADS. Nothing in Lean hashes anything: it is a label: what it is worth is what the hold of that sum in a sandbox is worth. -/
noncomputable def Tryz.pinned : Pinned := { name := "ytnkndpoojnflmaagreat", sum := "70757d0d22b1ce3456f9cda03ebc36c0a90442aeae55a82e040f07e684c1c865", checked := Tryz.checked }
namespace Rows
def none {H : Type} : Left H := { results := [], args := [] }

/-- 'swarflaw13.ClearanceCmp': WHATEVER THE INPUT: true; the input reads as it did. -/
def clearanceCmpSpec : ChangeSpec := { name := "clearanceCmp", fn := fun _ => fun
  | [d1, d2, d3] => { results := [.lit (.bool true)], args := [d1, d2, d3] }
  | _ => none }
def clearanceCmpRow : OpenClaim := { program := "ytnkndpoojnflmaagreat", sum := "70757d0d22b1ce3456f9cda03ebc36c0a90442aeae55a82e040f07e684c1c865", func := "swarf/swarflaw13.ClearanceCmp", spec := "clearanceCmp", unfollowed := true, recurses := true, apart := false }
def ClearanceCmpSaid : Prop := clearanceCmpRow.holds Tryz.pinned (OpenSpec.ofChange clearanceCmpSpec)

/-- ITS FALSE NEIGHBOUR: 'it returns false'. Refute it at one input. -/
def clearanceCmpWrong : ChangeSpec := { name := "clearanceCmp", fn := fun _ => fun
  | [d1, d2, d3] => { results := [.lit (.bool false)], args := [d1, d2, d3] }
  | _ => none }
def ClearanceCmpWrongFalsely : Prop := clearanceCmpRow.holds Tryz.pinned (OpenSpec.ofChange clearanceCmpWrong)

/-- 'swarflaw13.ClearanceSymmetric': WHATEVER THE INPUT: true; the input reads as it did. -/
def clearanceSymmetricSpec : ChangeSpec := { name := "clearanceSymmetric", fn := fun _ => fun
  | [d1, d2, d3] => { results := [.lit (.bool true)], args := [d1, d2, d3] }
  | _ => none }
def clearanceSymmetricRow : OpenClaim := { program := "ytnkndpoojnflmaagreat", sum := "70757d0d22b1ce3456f9cda03ebc36c0a90442aeae55a82e040f07e684c1c865", func := "swarf/swarflaw13.ClearanceSymmetric", spec := "clearanceSymmetric", unfollowed := true, recurses := true, apart := false }
def ClearanceSymmetricSaid : Prop := clearanceSymmetricRow.holds Tryz.pinned (OpenSpec.ofChange clearanceSymmetricSpec)

/-- ITS FALSE NEIGHBOUR: 'it returns false'. Refute it at one input. -/
def clearanceSymmetricWrong : ChangeSpec := { name := "clearanceSymmetric", fn := fun _ => fun
  | [d1, d2, d3] => { results := [.lit (.bool false)], args := [d1, d2, d3] }
  | _ => none }
def ClearanceSymmetricWrongFalsely : Prop := clearanceSymmetricRow.holds Tryz.pinned (OpenSpec.ofChange clearanceSymmetricWrong)

/-- 'swarflaw13.ClearanceMoved': WHATEVER THE INPUT: true; the input reads as it did. -/
def clearanceMovedSpec : ChangeSpec := { name := "clearanceMoved", fn := fun _ => fun
  | [d1, d2, d3] => { results := [.lit (.bool true)], args := [d1, d2, d3] }
  | _ => none }
def clearanceMovedRow : OpenClaim := { program := "ytnkndpoojnflmaagreat", sum := "70757d0d22b1ce3456f9cda03ebc36c0a90442aeae55a82e040f07e684c1c865", func := "swarf/swarflaw13.ClearanceMoved", spec := "clearanceMoved", unfollowed := true, recurses := true, apart := false }
def ClearanceMovedSaid : Prop := clearanceMovedRow.holds Tryz.pinned (OpenSpec.ofChange clearanceMovedSpec)

/-- ITS FALSE NEIGHBOUR: 'it returns false'. Refute it at one input. -/
def clearanceMovedWrong : ChangeSpec := { name := "clearanceMoved", fn := fun _ => fun
  | [d1, d2, d3] => { results := [.lit (.bool false)], args := [d1, d2, d3] }
  | _ => none }
def ClearanceMovedWrongFalsely : Prop := clearanceMovedRow.holds Tryz.pinned (OpenSpec.ofChange clearanceMovedWrong)

/-- 'swarflaw13.ClearanceParts': WHATEVER THE INPUT: true; the input reads as it did. -/
def clearancePartsSpec : ChangeSpec := { name := "clearanceParts", fn := fun _ => fun
  | [d1, d2, d3] => { results := [.lit (.bool true)], args := [d1, d2, d3] }
  | _ => none }
def clearancePartsRow : OpenClaim := { program := "ytnkndpoojnflmaagreat", sum := "70757d0d22b1ce3456f9cda03ebc36c0a90442aeae55a82e040f07e684c1c865", func := "swarf/swarflaw13.ClearanceParts", spec := "clearanceParts", unfollowed := true, recurses := true, apart := false }
def ClearancePartsSaid : Prop := clearancePartsRow.holds Tryz.pinned (OpenSpec.ofChange clearancePartsSpec)

/-- ITS FALSE NEIGHBOUR: 'it returns false'. Refute it at one input. -/
def clearancePartsWrong : ChangeSpec := { name := "clearanceParts", fn := fun _ => fun
  | [d1, d2, d3] => { results := [.lit (.bool false)], args := [d1, d2, d3] }
  | _ => none }
def ClearancePartsWrongFalsely : Prop := clearancePartsRow.holds Tryz.pinned (OpenSpec.ofChange clearancePartsWrong)

/-- 'swarflaw13.ClearanceTriangle': WHATEVER THE INPUT: true; the input reads as it did. -/
def clearanceTriangleSpec : ChangeSpec := { name := "clearanceTriangle", fn := fun _ => fun
  | [d1, d2, d3] => { results := [.lit (.bool true)], args := [d1, d2, d3] }
  | _ => none }
def clearanceTriangleRow : OpenClaim := { program := "ytnkndpoojnflmaagreat", sum := "70757d0d22b1ce3456f9cda03ebc36c0a90442aeae55a82e040f07e684c1c865", func := "swarf/swarflaw13.ClearanceTriangle", spec := "clearanceTriangle", unfollowed := true, recurses := true, apart := false }
def ClearanceTriangleSaid : Prop := clearanceTriangleRow.holds Tryz.pinned (OpenSpec.ofChange clearanceTriangleSpec)

/-- ITS FALSE NEIGHBOUR: 'it returns false'. Refute it at one input. -/
def clearanceTriangleWrong : ChangeSpec := { name := "clearanceTriangle", fn := fun _ => fun
  | [d1, d2, d3] => { results := [.lit (.bool false)], args := [d1, d2, d3] }
  | _ => none }
def ClearanceTriangleWrongFalsely : Prop := clearanceTriangleRow.holds Tryz.pinned (OpenSpec.ofChange clearanceTriangleWrong)

/-- 'swarflaw13.ClearanceMeet': WHATEVER THE INPUT: true; the input reads as it did. -/
def clearanceMeetSpec : ChangeSpec := { name := "clearanceMeet", fn := fun _ => fun
  | [d1, d2] => { results := [.lit (.bool true)], args := [d1, d2] }
  | _ => none }
def clearanceMeetRow : OpenClaim := { program := "ytnkndpoojnflmaagreat", sum := "70757d0d22b1ce3456f9cda03ebc36c0a90442aeae55a82e040f07e684c1c865", func := "swarf/swarflaw13.ClearanceMeet", spec := "clearanceMeet", unfollowed := true, recurses := true, apart := false }
def ClearanceMeetSaid : Prop := clearanceMeetRow.holds Tryz.pinned (OpenSpec.ofChange clearanceMeetSpec)

/-- ITS FALSE NEIGHBOUR: 'it returns false'. Refute it at one input. -/
def clearanceMeetWrong : ChangeSpec := { name := "clearanceMeet", fn := fun _ => fun
  | [d1, d2] => { results := [.lit (.bool false)], args := [d1, d2] }
  | _ => none }
def ClearanceMeetWrongFalsely : Prop := clearanceMeetRow.holds Tryz.pinned (OpenSpec.ofChange clearanceMeetWrong)

/-- 'swarflaw13.ClearanceLists': WHATEVER THE INPUT: true; the input reads as it did. -/
def clearanceListsSpec : ChangeSpec := { name := "clearanceLists", fn := fun _ => fun
  | [d1, d2, d3] => { results := [.lit (.bool true)], args := [d1, d2, d3] }
  | _ => none }
def clearanceListsRow : OpenClaim := { program := "ytnkndpoojnflmaagreat", sum := "70757d0d22b1ce3456f9cda03ebc36c0a90442aeae55a82e040f07e684c1c865", func := "swarf/swarflaw13.ClearanceLists", spec := "clearanceLists", unfollowed := true, recurses := true, apart := false }
def ClearanceListsSaid : Prop := clearanceListsRow.holds Tryz.pinned (OpenSpec.ofChange clearanceListsSpec)

/-- ITS FALSE NEIGHBOUR: 'it returns false'. Refute it at one input. -/
def clearanceListsWrong : ChangeSpec := { name := "clearanceLists", fn := fun _ => fun
  | [d1, d2, d3] => { results := [.lit (.bool false)], args := [d1, d2, d3] }
  | _ => none }
def ClearanceListsWrongFalsely : Prop := clearanceListsRow.holds Tryz.pinned (OpenSpec.ofChange clearanceListsWrong)

/-- 'swarflaw13.ClearancePath': WHATEVER THE INPUT: true; the input reads as it did. -/
def clearancePathSpec : ChangeSpec := { name := "clearancePath", fn := fun _ => fun
  | [d1, d2, d3] => { results := [.lit (.bool true)], args := [d1, d2, d3] }
  | _ => none }
def clearancePathRow : OpenClaim := { program := "ytnkndpoojnflmaagreat", sum := "70757d0d22b1ce3456f9cda03ebc36c0a90442aeae55a82e040f07e684c1c865", func := "swarf/swarflaw13.ClearancePath", spec := "clearancePath", unfollowed := true, recurses := true, apart := false }
def ClearancePathSaid : Prop := clearancePathRow.holds Tryz.pinned (OpenSpec.ofChange clearancePathSpec)

/-- ITS FALSE NEIGHBOUR: 'it returns false'. Refute it at one input. -/
def clearancePathWrong : ChangeSpec := { name := "clearancePath", fn := fun _ => fun
  | [d1, d2, d3] => { results := [.lit (.bool false)], args := [d1, d2, d3] }
  | _ => none }
def ClearancePathWrongFalsely : Prop := clearancePathRow.holds Tryz.pinned (OpenSpec.ofChange clearancePathWrong)

/- THE SECOND FORM. 'bulk': how many values and letters a reading holds, each counted each time it is reached (what is shared counts as often as it is met; a slice's spare places count too). A statement '..UptoSaid' is the law's where the arguments, and the package variables that the reading takes, are together of bulk at most 1048576: NARROWER than '..Said'. Prove '..Said' where nothing that the law and all that it calls make is longer than what came in: it says more and counts as full. Else prove '..UptoSaid'. A law counts once. -/
mutual
def uptoBulk {H : Type} : DataW H → Nat
  | .lit (.string bytes) => bytes.length + 1
  | .lit _ => 1
  | .nil => 1
  | .ptr d => uptoBulk d + 1
  | .slice elems spare => uptoBulkAll elems + uptoBulkAll spare + 1
  | .agg parts => uptoBulkAll parts + 1
  | .iface _ d => uptoBulk d + 1
  | .map entries => uptoBulkEntries entries + 1
  | .held _ => 1
def uptoBulkAll {H : Type} : List (DataW H) → Nat
  | [] => 0
  | d :: r => uptoBulk d + uptoBulkAll r
def uptoBulkEntries {H : Type} : List (Lit × DataW H) → Nat
  | [] => 0
  | x :: r => uptoBulkEntry x + uptoBulkEntries r
def uptoBulkEntry {H : Type} : Lit × DataW H → Nat
  | (.string bytes, d) => bytes.length + uptoBulk d + 1
  | (_, d) => uptoBulk d + 1
 end
def uptoSmall : (H : Type) → List (DataW H) → Bool := fun _ ds => decide (uptoBulkAll ds ≤ 1048576)
def OpenSpec.upto (s : _root_.Go.ChangeSpec) : _root_.Go.OpenSpec := { _root_.Go.OpenSpec.ofChange s with cond := some uptoSmall }

/-- 'swarflaw13.ClearanceCmp', WHERE WHAT IT READS IS OF BULK AT MOST 1048576: true; the input reads as it did. -/
def clearanceCmpUptoRow : OpenClaim := { program := "ytnkndpoojnflmaagreat", sum := "70757d0d22b1ce3456f9cda03ebc36c0a90442aeae55a82e040f07e684c1c865", func := "swarf/swarflaw13.ClearanceCmp", spec := "clearanceCmp", unfollowed := true, recurses := true, apart := false, narrowed := true }
def ClearanceCmpUptoSaid : Prop := clearanceCmpUptoRow.holds Tryz.pinned (OpenSpec.upto clearanceCmpSpec)

/-- 'swarflaw13.ClearanceSymmetric', WHERE WHAT IT READS IS OF BULK AT MOST 1048576: true; the input reads as it did. -/
def clearanceSymmetricUptoRow : OpenClaim := { program := "ytnkndpoojnflmaagreat", sum := "70757d0d22b1ce3456f9cda03ebc36c0a90442aeae55a82e040f07e684c1c865", func := "swarf/swarflaw13.ClearanceSymmetric", spec := "clearanceSymmetric", unfollowed := true, recurses := true, apart := false, narrowed := true }
def ClearanceSymmetricUptoSaid : Prop := clearanceSymmetricUptoRow.holds Tryz.pinned (OpenSpec.upto clearanceSymmetricSpec)

/-- 'swarflaw13.ClearanceMoved', WHERE WHAT IT READS IS OF BULK AT MOST 1048576: true; the input reads as it did. -/
def clearanceMovedUptoRow : OpenClaim := { program := "ytnkndpoojnflmaagreat", sum := "70757d0d22b1ce3456f9cda03ebc36c0a90442aeae55a82e040f07e684c1c865", func := "swarf/swarflaw13.ClearanceMoved", spec := "clearanceMoved", unfollowed := true, recurses := true, apart := false, narrowed := true }
def ClearanceMovedUptoSaid : Prop := clearanceMovedUptoRow.holds Tryz.pinned (OpenSpec.upto clearanceMovedSpec)

/-- 'swarflaw13.ClearanceParts', WHERE WHAT IT READS IS OF BULK AT MOST 1048576: true; the input reads as it did. -/
def clearancePartsUptoRow : OpenClaim := { program := "ytnkndpoojnflmaagreat", sum := "70757d0d22b1ce3456f9cda03ebc36c0a90442aeae55a82e040f07e684c1c865", func := "swarf/swarflaw13.ClearanceParts", spec := "clearanceParts", unfollowed := true, recurses := true, apart := false, narrowed := true }
def ClearancePartsUptoSaid : Prop := clearancePartsUptoRow.holds Tryz.pinned (OpenSpec.upto clearancePartsSpec)

/-- 'swarflaw13.ClearanceTriangle', WHERE WHAT IT READS IS OF BULK AT MOST 1048576: true; the input reads as it did. -/
def clearanceTriangleUptoRow : OpenClaim := { program := "ytnkndpoojnflmaagreat", sum := "70757d0d22b1ce3456f9cda03ebc36c0a90442aeae55a82e040f07e684c1c865", func := "swarf/swarflaw13.ClearanceTriangle", spec := "clearanceTriangle", unfollowed := true, recurses := true, apart := false, narrowed := true }
def ClearanceTriangleUptoSaid : Prop := clearanceTriangleUptoRow.holds Tryz.pinned (OpenSpec.upto clearanceTriangleSpec)

/-- 'swarflaw13.ClearanceMeet', WHERE WHAT IT READS IS OF BULK AT MOST 1048576: true; the input reads as it did. -/
def clearanceMeetUptoRow : OpenClaim := { program := "ytnkndpoojnflmaagreat", sum := "70757d0d22b1ce3456f9cda03ebc36c0a90442aeae55a82e040f07e684c1c865", func := "swarf/swarflaw13.ClearanceMeet", spec := "clearanceMeet", unfollowed := true, recurses := true, apart := false, narrowed := true }
def ClearanceMeetUptoSaid : Prop := clearanceMeetUptoRow.holds Tryz.pinned (OpenSpec.upto clearanceMeetSpec)

/-- 'swarflaw13.ClearanceLists', WHERE WHAT IT READS IS OF BULK AT MOST 1048576: true; the input reads as it did. -/
def clearanceListsUptoRow : OpenClaim := { program := "ytnkndpoojnflmaagreat", sum := "70757d0d22b1ce3456f9cda03ebc36c0a90442aeae55a82e040f07e684c1c865", func := "swarf/swarflaw13.ClearanceLists", spec := "clearanceLists", unfollowed := true, recurses := true, apart := false, narrowed := true }
def ClearanceListsUptoSaid : Prop := clearanceListsUptoRow.holds Tryz.pinned (OpenSpec.upto clearanceListsSpec)

/-- 'swarflaw13.ClearancePath', WHERE WHAT IT READS IS OF BULK AT MOST 1048576: true; the input reads as it did. -/
def clearancePathUptoRow : OpenClaim := { program := "ytnkndpoojnflmaagreat", sum := "70757d0d22b1ce3456f9cda03ebc36c0a90442aeae55a82e040f07e684c1c865", func := "swarf/swarflaw13.ClearancePath", spec := "clearancePath", unfollowed := true, recurses := true, apart := false, narrowed := true }
def ClearancePathUptoSaid : Prop := clearancePathUptoRow.holds Tryz.pinned (OpenSpec.upto clearancePathSpec)

end Rows
end Go.Proofs.YtnkndpoojnflmaaGreat
