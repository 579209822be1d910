/-
  No cell of these rows narrows 'for every input' (looked for: loops, veiled, ifaces, maps, wideKeys, modest, calm, conditions, laid).
  DERIVED. THE GIVEN ROWS OF THIS SEAT. 4 by the template 'for every input the law returns true; each argument reads behind the call as it read before'; 0 by the template 'total and deterministic' (their statements: YtcaiedfkohigjaaGreatTotals.lean).
  GIVEN WITH THE SEED: the statements are not yours to turn. If you find one false, say at which input.
  Laid BY PROGRAM, IN A SANDBOX (cutbox-rows.mjs): the forced cells as the released guide's own fill.sh prints them over the translation c9b802d2b3df4d7f… (all of the seat's roots in one cut). By AI agents, Wed Nov 11 2026. No macro, syntax, notation, axiom, sorry.
-/
import Derived.Test.YtcaiedfkohigjaaGreatChecked
import GoSem.Claim
import GoSem.ClaimJoined
import GoSem.ClaimMapViews
import Derived.JoinedTies
import Derived.KernelRfl
namespace Go.Proofs.YtcaiedfkohigjaaGreat
/- THE CELL 'sum', in the pinned program and in every row, IS THE sha256 OF THE DUMP (.gsa) THAT YtcaiedfkohigjaaGreatProg.lean LOADS. Nothing in Lean hashes anything: it is a label: what it is worth is what the hold of that sum in a sandbox is worth. -/
noncomputable def Tryz.pinned : Pinned := { name := "ytcaiedfkohigjaagreat", sum := "c9b802d2b3df4d7f89111cb0c6b21c5c40e6f66bf5e500d7f4b479d96cf1dc43", checked := Tryz.checked }
namespace Rows
def none {H : Type} : Left H := { results := [], args := [] }

/-- 'swarflaw36.TabsOn': WHATEVER THE INPUT: true; the input reads as it did. -/
def tabsOnSpec : ChangeSpec := { name := "tabsOn", fn := fun _ => fun
  | [d1, d2, d3] => { results := [.lit (.bool true)], args := [d1, d2, d3] }
  | _ => none }
def tabsOnRow : OpenClaim := { program := "ytcaiedfkohigjaagreat", sum := "c9b802d2b3df4d7f89111cb0c6b21c5c40e6f66bf5e500d7f4b479d96cf1dc43", func := "swarf/swarflaw36.TabsOn", spec := "tabsOn", unfollowed := true, recurses := true, apart := false }
def TabsOnSaid : Prop := tabsOnRow.holds Tryz.pinned (OpenSpec.ofChange tabsOnSpec)

/-- ITS FALSE NEIGHBOUR: 'it returns false'. Refute it at one input. -/
def tabsOnWrong : ChangeSpec := { name := "tabsOn", fn := fun _ => fun
  | [d1, d2, d3] => { results := [.lit (.bool false)], args := [d1, d2, d3] }
  | _ => none }
def TabsOnWrongFalsely : Prop := tabsOnRow.holds Tryz.pinned (OpenSpec.ofChange tabsOnWrong)

/-- 'swarflaw36.TabsValid': WHATEVER THE INPUT: true; the input reads as it did. -/
def tabsValidSpec : ChangeSpec := { name := "tabsValid", fn := fun _ => fun
  | [d1, d2] => { results := [.lit (.bool true)], args := [d1, d2] }
  | _ => none }
def tabsValidRow : OpenClaim := { program := "ytcaiedfkohigjaagreat", sum := "c9b802d2b3df4d7f89111cb0c6b21c5c40e6f66bf5e500d7f4b479d96cf1dc43", func := "swarf/swarflaw36.TabsValid", spec := "tabsValid", unfollowed := true, recurses := true, apart := false }
def TabsValidSaid : Prop := tabsValidRow.holds Tryz.pinned (OpenSpec.ofChange tabsValidSpec)

/-- ITS FALSE NEIGHBOUR: 'it returns false'. Refute it at one input. -/
def tabsValidWrong : ChangeSpec := { name := "tabsValid", fn := fun _ => fun
  | [d1, d2] => { results := [.lit (.bool false)], args := [d1, d2] }
  | _ => none }
def TabsValidWrongFalsely : Prop := tabsValidRow.holds Tryz.pinned (OpenSpec.ofChange tabsValidWrong)

/-- 'swarflaw36.TabsBridged': WHATEVER THE INPUT: true; the input reads as it did. -/
def tabsBridgedSpec : ChangeSpec := { name := "tabsBridged", fn := fun _ => fun
  | [d1, d2, d3] => { results := [.lit (.bool true)], args := [d1, d2, d3] }
  | _ => none }
def tabsBridgedRow : OpenClaim := { program := "ytcaiedfkohigjaagreat", sum := "c9b802d2b3df4d7f89111cb0c6b21c5c40e6f66bf5e500d7f4b479d96cf1dc43", func := "swarf/swarflaw36.TabsBridged", spec := "tabsBridged", unfollowed := true, recurses := true, apart := false }
def TabsBridgedSaid : Prop := tabsBridgedRow.holds Tryz.pinned (OpenSpec.ofChange tabsBridgedSpec)

/-- ITS FALSE NEIGHBOUR: 'it returns false'. Refute it at one input. -/
def tabsBridgedWrong : ChangeSpec := { name := "tabsBridged", fn := fun _ => fun
  | [d1, d2, d3] => { results := [.lit (.bool false)], args := [d1, d2, d3] }
  | _ => none }
def TabsBridgedWrongFalsely : Prop := tabsBridgedRow.holds Tryz.pinned (OpenSpec.ofChange tabsBridgedWrong)

/-- 'swarflaw36.TabsCut': WHATEVER THE INPUT: true; the input reads as it did. -/
def tabsCutSpec : ChangeSpec := { name := "tabsCut", fn := fun _ => fun
  | [d1, d2, d3] => { results := [.lit (.bool true)], args := [d1, d2, d3] }
  | _ => none }
def tabsCutRow : OpenClaim := { program := "ytcaiedfkohigjaagreat", sum := "c9b802d2b3df4d7f89111cb0c6b21c5c40e6f66bf5e500d7f4b479d96cf1dc43", func := "swarf/swarflaw36.TabsCut", spec := "tabsCut", unfollowed := true, recurses := true, apart := false }
def TabsCutSaid : Prop := tabsCutRow.holds Tryz.pinned (OpenSpec.ofChange tabsCutSpec)

/-- ITS FALSE NEIGHBOUR: 'it returns false'. Refute it at one input. -/
def tabsCutWrong : ChangeSpec := { name := "tabsCut", fn := fun _ => fun
  | [d1, d2, d3] => { results := [.lit (.bool false)], args := [d1, d2, d3] }
  | _ => none }
def TabsCutWrongFalsely : Prop := tabsCutRow.holds Tryz.pinned (OpenSpec.ofChange tabsCutWrong)

/- THE SECOND FORM. 'bulk': how many values and letters a reading holds, each counted each time it is reached (what is shared counts as often as it is met; a slice's spare places count too). A statement '..UptoSaid' is the law's where the arguments, and the package variables that the reading takes, are together of bulk at most 1048576: NARROWER than '..Said'. Prove '..Said' where nothing that the law and all that it calls make is longer than what came in: it says more and counts as full. Else prove '..UptoSaid'. A law counts once. -/
mutual
def uptoBulk {H : Type} : DataW H → Nat
  | .lit (.string bytes) => bytes.length + 1
  | .lit _ => 1
  | .nil => 1
  | .ptr d => uptoBulk d + 1
  | .slice elems spare => uptoBulkAll elems + uptoBulkAll spare + 1
  | .agg parts => uptoBulkAll parts + 1
  | .iface _ d => uptoBulk d + 1
  | .map entries => uptoBulkEntries entries + 1
  | .held _ => 1
def uptoBulkAll {H : Type} : List (DataW H) → Nat
  | [] => 0
  | d :: r => uptoBulk d + uptoBulkAll r
def uptoBulkEntries {H : Type} : List (Lit × DataW H) → Nat
  | [] => 0
  | x :: r => uptoBulkEntry x + uptoBulkEntries r
def uptoBulkEntry {H : Type} : Lit × DataW H → Nat
  | (.string bytes, d) => bytes.length + uptoBulk d + 1
  | (_, d) => uptoBulk d + 1
 end
def uptoSmall : (H : Type) → List (DataW H) → Bool := fun _ ds => decide (uptoBulkAll ds ≤ 1048576)
def OpenSpec.upto (s : _root_.Go.ChangeSpec) : _root_.Go.OpenSpec := { _root_.Go.OpenSpec.ofChange s with cond := some uptoSmall }

/-- 'swarflaw36.TabsOn', WHERE WHAT IT READS IS OF BULK AT MOST 1048576: true; the input reads as it did. -/
def tabsOnUptoRow : OpenClaim := { program := "ytcaiedfkohigjaagreat", sum := "c9b802d2b3df4d7f89111cb0c6b21c5c40e6f66bf5e500d7f4b479d96cf1dc43", func := "swarf/swarflaw36.TabsOn", spec := "tabsOn", unfollowed := true, recurses := true, apart := false, narrowed := true }
def TabsOnUptoSaid : Prop := tabsOnUptoRow.holds Tryz.pinned (OpenSpec.upto tabsOnSpec)

/-- 'swarflaw36.TabsValid', WHERE WHAT IT READS IS OF BULK AT MOST 1048576: true; the input reads as it did. -/
def tabsValidUptoRow : OpenClaim := { program := "ytcaiedfkohigjaagreat", sum := "c9b802d2b3df4d7f89111cb0c6b21c5c40e6f66bf5e500d7f4b479d96cf1dc43", func := "swarf/swarflaw36.TabsValid", spec := "tabsValid", unfollowed := true, recurses := true, apart := false, narrowed := true }
def TabsValidUptoSaid : Prop := tabsValidUptoRow.holds Tryz.pinned (OpenSpec.upto tabsValidSpec)

/-- 'swarflaw36.TabsBridged', WHERE WHAT IT READS IS OF BULK AT MOST 1048576: true; the input reads as it did. -/
def tabsBridgedUptoRow : OpenClaim := { program := "ytcaiedfkohigjaagreat", sum := "c9b802d2b3df4d7f89111cb0c6b21c5c40e6f66bf5e500d7f4b479d96cf1dc43", func := "swarf/swarflaw36.TabsBridged", spec := "tabsBridged", unfollowed := true, recurses := true, apart := false, narrowed := true }
def TabsBridgedUptoSaid : Prop := tabsBridgedUptoRow.holds Tryz.pinned (OpenSpec.upto tabsBridgedSpec)

/-- 'swarflaw36.TabsCut', WHERE WHAT IT READS IS OF BULK AT MOST 1048576: true; the input reads as it did. -/
def tabsCutUptoRow : OpenClaim := { program := "ytcaiedfkohigjaagreat", sum := "c9b802d2b3df4d7f89111cb0c6b21c5c40e6f66bf5e500d7f4b479d96cf1dc43", func := "swarf/swarflaw36.TabsCut", spec := "tabsCut", unfollowed := true, recurses := true, apart := false, narrowed := true }
def TabsCutUptoSaid : Prop := tabsCutUptoRow.holds Tryz.pinned (OpenSpec.upto tabsCutSpec)

end Rows
end Go.Proofs.YtcaiedfkohigjaaGreat
