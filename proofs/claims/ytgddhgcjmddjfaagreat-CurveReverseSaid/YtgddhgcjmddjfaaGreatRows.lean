/-
  No cell of these rows narrows 'for every input' (looked for: loops, veiled, ifaces, maps, wideKeys, modest, calm, conditions, laid).
  DERIVED. THE GIVEN ROWS OF THIS SEAT. 6 by the template 'for every input the law returns true; each argument reads behind the call as it read before'; 0 by the template 'total and deterministic' (their statements: YtgddhgcjmddjfaaGreatTotals.lean).
  GIVEN WITH THE SEED: the statements are not yours to turn. If you find one false, say at which input.
  Laid BY PROGRAM, IN A SANDBOX (cutbox-rows.mjs): the forced cells as the released guide's own fill.sh prints them over the translation 0a47dc57eb3ec160… (all of the seat's roots in one cut). By AI agents, Wed Nov 11 2026. No macro, syntax, notation, axiom, sorry.
-/
import Derived.Test.YtgddhgcjmddjfaaGreatChecked
import GoSem.Claim
import GoSem.ClaimJoined
import GoSem.ClaimMapViews
import Derived.JoinedTies
import Derived.KernelRfl
namespace Go.Proofs.YtgddhgcjmddjfaaGreat
/- THE CELL 'sum', in the pinned program and in every row, IS THE sha256 OF THE DUMP (.gsa) THAT YtgddhgcjmddjfaaGreatProg.lean LOADS. Nothing in Lean hashes anything: it is a label: what it is worth is what the hold of that sum in a sandbox is worth. -/
noncomputable def Tryz.pinned : Pinned := { name := "ytgddhgcjmddjfaagreat", sum := "0a47dc57eb3ec1605be8e7067d737b137e4b47ff9397a7ac44546d9f84844e5e", checked := Tryz.checked }
namespace Rows
def none {H : Type} : Left H := { results := [], args := [] }

/-- 'swarflaw10.CurveOn': WHATEVER THE INPUT: true; the input reads as it did. -/
def curveOnSpec : ChangeSpec := { name := "curveOn", fn := fun _ => fun
  | [d1, d2, d3] => { results := [.lit (.bool true)], args := [d1, d2, d3] }
  | _ => none }
def curveOnRow : OpenClaim := { program := "ytgddhgcjmddjfaagreat", sum := "0a47dc57eb3ec1605be8e7067d737b137e4b47ff9397a7ac44546d9f84844e5e", func := "swarf/swarflaw10.CurveOn", spec := "curveOn", unfollowed := true, recurses := true, apart := false }
def CurveOnSaid : Prop := curveOnRow.holds Tryz.pinned (OpenSpec.ofChange curveOnSpec)

/-- ITS FALSE NEIGHBOUR: 'it returns false'. Refute it at one input. -/
def curveOnWrong : ChangeSpec := { name := "curveOn", fn := fun _ => fun
  | [d1, d2, d3] => { results := [.lit (.bool false)], args := [d1, d2, d3] }
  | _ => none }
def CurveOnWrongFalsely : Prop := curveOnRow.holds Tryz.pinned (OpenSpec.ofChange curveOnWrong)

/-- 'swarflaw10.CurveSplit': WHATEVER THE INPUT: true; the input reads as it did. -/
def curveSplitSpec : ChangeSpec := { name := "curveSplit", fn := fun _ => fun
  | [d1, d2, d3] => { results := [.lit (.bool true)], args := [d1, d2, d3] }
  | _ => none }
def curveSplitRow : OpenClaim := { program := "ytgddhgcjmddjfaagreat", sum := "0a47dc57eb3ec1605be8e7067d737b137e4b47ff9397a7ac44546d9f84844e5e", func := "swarf/swarflaw10.CurveSplit", spec := "curveSplit", unfollowed := true, recurses := true, apart := false }
def CurveSplitSaid : Prop := curveSplitRow.holds Tryz.pinned (OpenSpec.ofChange curveSplitSpec)

/-- ITS FALSE NEIGHBOUR: 'it returns false'. Refute it at one input. -/
def curveSplitWrong : ChangeSpec := { name := "curveSplit", fn := fun _ => fun
  | [d1, d2, d3] => { results := [.lit (.bool false)], args := [d1, d2, d3] }
  | _ => none }
def CurveSplitWrongFalsely : Prop := curveSplitRow.holds Tryz.pinned (OpenSpec.ofChange curveSplitWrong)

/-- 'swarflaw10.CurveMeet': WHATEVER THE INPUT: true; the input reads as it did. -/
def curveMeetSpec : ChangeSpec := { name := "curveMeet", fn := fun _ => fun
  | [d1, d2, d3] => { results := [.lit (.bool true)], args := [d1, d2, d3] }
  | _ => none }
def curveMeetRow : OpenClaim := { program := "ytgddhgcjmddjfaagreat", sum := "0a47dc57eb3ec1605be8e7067d737b137e4b47ff9397a7ac44546d9f84844e5e", func := "swarf/swarflaw10.CurveMeet", spec := "curveMeet", unfollowed := true, recurses := true, apart := false }
def CurveMeetSaid : Prop := curveMeetRow.holds Tryz.pinned (OpenSpec.ofChange curveMeetSpec)

/-- ITS FALSE NEIGHBOUR: 'it returns false'. Refute it at one input. -/
def curveMeetWrong : ChangeSpec := { name := "curveMeet", fn := fun _ => fun
  | [d1, d2, d3] => { results := [.lit (.bool false)], args := [d1, d2, d3] }
  | _ => none }
def CurveMeetWrongFalsely : Prop := curveMeetRow.holds Tryz.pinned (OpenSpec.ofChange curveMeetWrong)

/-- 'swarflaw10.CurveSymmetric': WHATEVER THE INPUT: true; the input reads as it did. -/
def curveSymmetricSpec : ChangeSpec := { name := "curveSymmetric", fn := fun _ => fun
  | [d1, d2] => { results := [.lit (.bool true)], args := [d1, d2] }
  | _ => none }
def curveSymmetricRow : OpenClaim := { program := "ytgddhgcjmddjfaagreat", sum := "0a47dc57eb3ec1605be8e7067d737b137e4b47ff9397a7ac44546d9f84844e5e", func := "swarf/swarflaw10.CurveSymmetric", spec := "curveSymmetric", unfollowed := true, recurses := true, apart := false }
def CurveSymmetricSaid : Prop := curveSymmetricRow.holds Tryz.pinned (OpenSpec.ofChange curveSymmetricSpec)

/-- ITS FALSE NEIGHBOUR: 'it returns false'. Refute it at one input. -/
def curveSymmetricWrong : ChangeSpec := { name := "curveSymmetric", fn := fun _ => fun
  | [d1, d2] => { results := [.lit (.bool false)], args := [d1, d2] }
  | _ => none }
def CurveSymmetricWrongFalsely : Prop := curveSymmetricRow.holds Tryz.pinned (OpenSpec.ofChange curveSymmetricWrong)

/-- 'swarflaw10.CurveReverse': WHATEVER THE INPUT: true; the input reads as it did. -/
def curveReverseSpec : ChangeSpec := { name := "curveReverse", fn := fun _ => fun
  | [d1, d2] => { results := [.lit (.bool true)], args := [d1, d2] }
  | _ => none }
def curveReverseRow : OpenClaim := { program := "ytgddhgcjmddjfaagreat", sum := "0a47dc57eb3ec1605be8e7067d737b137e4b47ff9397a7ac44546d9f84844e5e", func := "swarf/swarflaw10.CurveReverse", spec := "curveReverse", unfollowed := true, recurses := true, apart := false }
def CurveReverseSaid : Prop := curveReverseRow.holds Tryz.pinned (OpenSpec.ofChange curveReverseSpec)

/-- ITS FALSE NEIGHBOUR: 'it returns false'. Refute it at one input. -/
def curveReverseWrong : ChangeSpec := { name := "curveReverse", fn := fun _ => fun
  | [d1, d2] => { results := [.lit (.bool false)], args := [d1, d2] }
  | _ => none }
def CurveReverseWrongFalsely : Prop := curveReverseRow.holds Tryz.pinned (OpenSpec.ofChange curveReverseWrong)

/-- 'swarflaw10.CurveOrder': WHATEVER THE INPUT: true; the input reads as it did. -/
def curveOrderSpec : ChangeSpec := { name := "curveOrder", fn := fun _ => fun
  | [d1, d2, d3] => { results := [.lit (.bool true)], args := [d1, d2, d3] }
  | _ => none }
def curveOrderRow : OpenClaim := { program := "ytgddhgcjmddjfaagreat", sum := "0a47dc57eb3ec1605be8e7067d737b137e4b47ff9397a7ac44546d9f84844e5e", func := "swarf/swarflaw10.CurveOrder", spec := "curveOrder", unfollowed := true, recurses := true, apart := false }
def CurveOrderSaid : Prop := curveOrderRow.holds Tryz.pinned (OpenSpec.ofChange curveOrderSpec)

/-- ITS FALSE NEIGHBOUR: 'it returns false'. Refute it at one input. -/
def curveOrderWrong : ChangeSpec := { name := "curveOrder", fn := fun _ => fun
  | [d1, d2, d3] => { results := [.lit (.bool false)], args := [d1, d2, d3] }
  | _ => none }
def CurveOrderWrongFalsely : Prop := curveOrderRow.holds Tryz.pinned (OpenSpec.ofChange curveOrderWrong)

/- THE SECOND FORM. 'bulk': how many values and letters a reading holds, each counted each time it is reached (what is shared counts as often as it is met; a slice's spare places count too). A statement '..UptoSaid' is the law's where the arguments, and the package variables that the reading takes, are together of bulk at most 1048576: NARROWER than '..Said'. Prove '..Said' where nothing that the law and all that it calls make is longer than what came in: it says more and counts as full. Else prove '..UptoSaid'. A law counts once. -/
mutual
def uptoBulk {H : Type} : DataW H → Nat
  | .lit (.string bytes) => bytes.length + 1
  | .lit _ => 1
  | .nil => 1
  | .ptr d => uptoBulk d + 1
  | .slice elems spare => uptoBulkAll elems + uptoBulkAll spare + 1
  | .agg parts => uptoBulkAll parts + 1
  | .iface _ d => uptoBulk d + 1
  | .map entries => uptoBulkEntries entries + 1
  | .held _ => 1
def uptoBulkAll {H : Type} : List (DataW H) → Nat
  | [] => 0
  | d :: r => uptoBulk d + uptoBulkAll r
def uptoBulkEntries {H : Type} : List (Lit × DataW H) → Nat
  | [] => 0
  | x :: r => uptoBulkEntry x + uptoBulkEntries r
def uptoBulkEntry {H : Type} : Lit × DataW H → Nat
  | (.string bytes, d) => bytes.length + uptoBulk d + 1
  | (_, d) => uptoBulk d + 1
 end
def uptoSmall : (H : Type) → List (DataW H) → Bool := fun _ ds => decide (uptoBulkAll ds ≤ 1048576)
def OpenSpec.upto (s : _root_.Go.ChangeSpec) : _root_.Go.OpenSpec := { _root_.Go.OpenSpec.ofChange s with cond := some uptoSmall }

/-- 'swarflaw10.CurveOn', WHERE WHAT IT READS IS OF BULK AT MOST 1048576: true; the input reads as it did. -/
def curveOnUptoRow : OpenClaim := { program := "ytgddhgcjmddjfaagreat", sum := "0a47dc57eb3ec1605be8e7067d737b137e4b47ff9397a7ac44546d9f84844e5e", func := "swarf/swarflaw10.CurveOn", spec := "curveOn", unfollowed := true, recurses := true, apart := false, narrowed := true }
def CurveOnUptoSaid : Prop := curveOnUptoRow.holds Tryz.pinned (OpenSpec.upto curveOnSpec)

/-- 'swarflaw10.CurveSplit', WHERE WHAT IT READS IS OF BULK AT MOST 1048576: true; the input reads as it did. -/
def curveSplitUptoRow : OpenClaim := { program := "ytgddhgcjmddjfaagreat", sum := "0a47dc57eb3ec1605be8e7067d737b137e4b47ff9397a7ac44546d9f84844e5e", func := "swarf/swarflaw10.CurveSplit", spec := "curveSplit", unfollowed := true, recurses := true, apart := false, narrowed := true }
def CurveSplitUptoSaid : Prop := curveSplitUptoRow.holds Tryz.pinned (OpenSpec.upto curveSplitSpec)

/-- 'swarflaw10.CurveMeet', WHERE WHAT IT READS IS OF BULK AT MOST 1048576: true; the input reads as it did. -/
def curveMeetUptoRow : OpenClaim := { program := "ytgddhgcjmddjfaagreat", sum := "0a47dc57eb3ec1605be8e7067d737b137e4b47ff9397a7ac44546d9f84844e5e", func := "swarf/swarflaw10.CurveMeet", spec := "curveMeet", unfollowed := true, recurses := true, apart := false, narrowed := true }
def CurveMeetUptoSaid : Prop := curveMeetUptoRow.holds Tryz.pinned (OpenSpec.upto curveMeetSpec)

/-- 'swarflaw10.CurveSymmetric', WHERE WHAT IT READS IS OF BULK AT MOST 1048576: true; the input reads as it did. -/
def curveSymmetricUptoRow : OpenClaim := { program := "ytgddhgcjmddjfaagreat", sum := "0a47dc57eb3ec1605be8e7067d737b137e4b47ff9397a7ac44546d9f84844e5e", func := "swarf/swarflaw10.CurveSymmetric", spec := "curveSymmetric", unfollowed := true, recurses := true, apart := false, narrowed := true }
def CurveSymmetricUptoSaid : Prop := curveSymmetricUptoRow.holds Tryz.pinned (OpenSpec.upto curveSymmetricSpec)

/-- 'swarflaw10.CurveReverse', WHERE WHAT IT READS IS OF BULK AT MOST 1048576: true; the input reads as it did. -/
def curveReverseUptoRow : OpenClaim := { program := "ytgddhgcjmddjfaagreat", sum := "0a47dc57eb3ec1605be8e7067d737b137e4b47ff9397a7ac44546d9f84844e5e", func := "swarf/swarflaw10.CurveReverse", spec := "curveReverse", unfollowed := true, recurses := true, apart := false, narrowed := true }
def CurveReverseUptoSaid : Prop := curveReverseUptoRow.holds Tryz.pinned (OpenSpec.upto curveReverseSpec)

/-- 'swarflaw10.CurveOrder', WHERE WHAT IT READS IS OF BULK AT MOST 1048576: true; the input reads as it did. -/
def curveOrderUptoRow : OpenClaim := { program := "ytgddhgcjmddjfaagreat", sum := "0a47dc57eb3ec1605be8e7067d737b137e4b47ff9397a7ac44546d9f84844e5e", func := "swarf/swarflaw10.CurveOrder", spec := "curveOrder", unfollowed := true, recurses := true, apart := false, narrowed := true }
def CurveOrderUptoSaid : Prop := curveOrderUptoRow.holds Tryz.pinned (OpenSpec.upto curveOrderSpec)

end Rows
end Go.Proofs.YtgddhgcjmddjfaaGreat
