/-
  DERIVED. GIVEN WITH THE SEED: THE CARDS: each row of YtmnlppieefomnaaGreatDoorRows.lean that lists a variable, with what it lists TIED to the program's text (the seventh form; the later family's looks); each row that meets fmt, with fmt's text TOLD by the authors' own Lean function (tested against real Go, not proved from fmt's source: count such statements apart). THE CARD IS WHAT COUNTS. Prove the row's statement (the work); the ties are given (YtmnlppieefomnaaGreatDoorTie.lean); close each card by the builder's one call (the guide's Derived/Test/ToyasCard.lean, 'card_holds'). Laid BY PROGRAM, IN A SANDBOX (cutbox-door.mjs). By AI agents, Wed Nov 11 2026. No macro, syntax, notation, axiom, sorry.
-/
import Derived.Test.YtmnlppieefomnaaGreatDoorRows
import GoSem.ClaimSeven
namespace Go.Proofs.YtmnlppieefomnaaGreatDoor
namespace Rows

/-- THE TIED CARD OF 'swarflaw35.DrillCenter'. -/
def drillCenterCard : Claim7 := { stood := { row := drillCenterRow, standIns := [], harness := (true, "80b14d914ac28153da399a1557cd717b9806262dda83e00fefbfe33b90538386"), looks := false }, kinds := [], alts := [], laidByText := true, laidKinds := [.mapped], laidTests := true, laidLooks := .later }
def DrillCenterCardSaid : Prop := Claim7.holds Tryz.pinned (.plain (OpenSpec.ofChange drillCenterSpec)) drillCenterCard

/-- THE SECOND FORM's CARD OF 'swarflaw35.DrillCenter'. -/
def drillCenterUptoCard : Claim7 := { stood := { row := drillCenterUptoRow, standIns := [], harness := (true, "80b14d914ac28153da399a1557cd717b9806262dda83e00fefbfe33b90538386"), looks := false }, kinds := [], alts := [], laidByText := true, laidKinds := [.mapped], laidTests := true, laidLooks := .later }
def DrillCenterUptoCardSaid : Prop := Claim7.holds Tryz.pinned (.plain (OpenSpec.upto drillCenterSpec)) drillCenterUptoCard
end Rows
end Go.Proofs.YtmnlppieefomnaaGreatDoor
