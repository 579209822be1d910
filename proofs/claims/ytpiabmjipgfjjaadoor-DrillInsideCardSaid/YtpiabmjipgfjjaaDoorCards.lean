/-
  DERIVED. GIVEN WITH THE SEED: THE CARDS: each row of YtpiabmjipgfjjaaDoorRows.lean that lists a variable, with what it lists TIED to the program's text (the seventh form; the later family's looks); each row that meets fmt, with fmt's text TOLD by the authors' own Lean function (tested against real Go, not proved from fmt's source: count such statements apart). THE CARD IS WHAT COUNTS. Prove the row's statement (the work); the ties are given (YtpiabmjipgfjjaaDoorTie.lean); close each card by the builder's one call (the guide's Derived/Test/ToyasCard.lean, 'card_holds'). Laid BY PROGRAM, IN A SANDBOX (cutbox-door.mjs). By AI agents, Wed Nov 11 2026. No macro, syntax, notation, axiom, sorry.
-/
import Derived.Test.YtpiabmjipgfjjaaDoorRows
import GoSem.ClaimSeven
namespace Go.Proofs.YtpiabmjipgfjjaaDoor
namespace Rows

/-- THE TIED CARD OF 'swarflaw35.DrillPecks'. -/
def drillPecksCard : Claim7 := { stood := { row := drillPecksRow, standIns := [], harness := (true, "e69507602ef26b0f4ec529b7226bb2365d3ef8d0036b87d539921c8d6f05c440"), looks := false }, kinds := [], alts := [], laidByText := true, laidKinds := [.mapped], laidTests := true, laidLooks := .later }
def DrillPecksCardSaid : Prop := Claim7.holds Tryd.pinned (.plain (OpenSpec.ofChange drillPecksSpec)) drillPecksCard

/-- THE TIED CARD OF 'swarflaw35.DrillBore'. -/
def drillBoreCard : Claim7 := { stood := { row := drillBoreRow, standIns := [], harness := (true, "e69507602ef26b0f4ec529b7226bb2365d3ef8d0036b87d539921c8d6f05c440"), looks := false }, kinds := [], alts := [], laidByText := true, laidKinds := [.mapped], laidTests := true, laidLooks := .later }
def DrillBoreCardSaid : Prop := Claim7.holds Tryd.pinned (.plain (OpenSpec.ofChange drillBoreSpec)) drillBoreCard

/-- THE TIED CARD OF 'swarflaw35.DrillMatch'. -/
def drillMatchCard : Claim7 := { stood := { row := drillMatchRow, standIns := [], harness := (true, "e69507602ef26b0f4ec529b7226bb2365d3ef8d0036b87d539921c8d6f05c440"), looks := false }, kinds := [], alts := [], laidByText := true, laidKinds := [.mapped], laidTests := true, laidLooks := .later }
def DrillMatchCardSaid : Prop := Claim7.holds Tryd.pinned (.plain (OpenSpec.ofChange drillMatchSpec)) drillMatchCard

/-- THE TIED CARD OF 'swarflaw35.DrillPeck'. -/
def drillPeckCard : Claim7 := { stood := { row := drillPeckRow, standIns := [], harness := (true, "e69507602ef26b0f4ec529b7226bb2365d3ef8d0036b87d539921c8d6f05c440"), looks := false }, kinds := [], alts := [], laidByText := true, laidKinds := [.mapped], laidTests := true, laidLooks := .later }
def DrillPeckCardSaid : Prop := Claim7.holds Tryd.pinned (.plain (OpenSpec.ofChange drillPeckSpec)) drillPeckCard

/-- THE TIED CARD OF 'swarflaw35.DrillInside'. -/
def drillInsideCard : Claim7 := { stood := { row := drillInsideRow, standIns := [], harness := (true, "e69507602ef26b0f4ec529b7226bb2365d3ef8d0036b87d539921c8d6f05c440"), looks := false }, kinds := [], alts := [], laidByText := true, laidKinds := [.mapped], laidTests := true, laidLooks := .later }
def DrillInsideCardSaid : Prop := Claim7.holds Tryd.pinned (.plain (OpenSpec.ofChange drillInsideSpec)) drillInsideCard

/-- THE SECOND FORM's CARD OF 'swarflaw35.DrillPecks'. -/
def drillPecksUptoCard : Claim7 := { stood := { row := drillPecksUptoRow, standIns := [], harness := (true, "e69507602ef26b0f4ec529b7226bb2365d3ef8d0036b87d539921c8d6f05c440"), looks := false }, kinds := [], alts := [], laidByText := true, laidKinds := [.mapped], laidTests := true, laidLooks := .later }
def DrillPecksUptoCardSaid : Prop := Claim7.holds Tryd.pinned (.plain (OpenSpec.upto drillPecksSpec)) drillPecksUptoCard

/-- THE SECOND FORM's CARD OF 'swarflaw35.DrillBore'. -/
def drillBoreUptoCard : Claim7 := { stood := { row := drillBoreUptoRow, standIns := [], harness := (true, "e69507602ef26b0f4ec529b7226bb2365d3ef8d0036b87d539921c8d6f05c440"), looks := false }, kinds := [], alts := [], laidByText := true, laidKinds := [.mapped], laidTests := true, laidLooks := .later }
def DrillBoreUptoCardSaid : Prop := Claim7.holds Tryd.pinned (.plain (OpenSpec.upto drillBoreSpec)) drillBoreUptoCard

/-- THE SECOND FORM's CARD OF 'swarflaw35.DrillMatch'. -/
def drillMatchUptoCard : Claim7 := { stood := { row := drillMatchUptoRow, standIns := [], harness := (true, "e69507602ef26b0f4ec529b7226bb2365d3ef8d0036b87d539921c8d6f05c440"), looks := false }, kinds := [], alts := [], laidByText := true, laidKinds := [.mapped], laidTests := true, laidLooks := .later }
def DrillMatchUptoCardSaid : Prop := Claim7.holds Tryd.pinned (.plain (OpenSpec.upto drillMatchSpec)) drillMatchUptoCard

/-- THE SECOND FORM's CARD OF 'swarflaw35.DrillPeck'. -/
def drillPeckUptoCard : Claim7 := { stood := { row := drillPeckUptoRow, standIns := [], harness := (true, "e69507602ef26b0f4ec529b7226bb2365d3ef8d0036b87d539921c8d6f05c440"), looks := false }, kinds := [], alts := [], laidByText := true, laidKinds := [.mapped], laidTests := true, laidLooks := .later }
def DrillPeckUptoCardSaid : Prop := Claim7.holds Tryd.pinned (.plain (OpenSpec.upto drillPeckSpec)) drillPeckUptoCard

/-- THE SECOND FORM's CARD OF 'swarflaw35.DrillInside'. -/
def drillInsideUptoCard : Claim7 := { stood := { row := drillInsideUptoRow, standIns := [], harness := (true, "e69507602ef26b0f4ec529b7226bb2365d3ef8d0036b87d539921c8d6f05c440"), looks := false }, kinds := [], alts := [], laidByText := true, laidKinds := [.mapped], laidTests := true, laidLooks := .later }
def DrillInsideUptoCardSaid : Prop := Claim7.holds Tryd.pinned (.plain (OpenSpec.upto drillInsideSpec)) drillInsideUptoCard
end Rows
end Go.Proofs.YtpiabmjipgfjjaaDoor
