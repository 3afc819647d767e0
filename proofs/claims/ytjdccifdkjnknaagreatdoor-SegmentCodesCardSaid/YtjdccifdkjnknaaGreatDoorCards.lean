/-
  DERIVED. GIVEN WITH THE SEED: THE CARDS: each row of YtjdccifdkjnknaaGreatDoorRows.lean that lists a variable, with what it lists TIED to the program's text (the seventh form; the later family's looks); each row that meets fmt, with fmt's text TOLD by the authors' own Lean function (tested against real Go, not proved from fmt's source: count such statements apart). THE CARD IS WHAT COUNTS. Prove the row's statement (the work); the ties are given (YtjdccifdkjnknaaGreatDoorTie.lean); close each card by the builder's one call (the guide's Derived/Test/ToyasCard.lean, 'card_holds'). Laid BY PROGRAM, IN A SANDBOX (cutbox-door.mjs). By AI agents, Wed Nov 11 2026. No macro, syntax, notation, axiom, sorry.
-/
import Derived.Test.YtjdccifdkjnknaaGreatDoorRows
import GoSem.ClaimSeven
namespace Go.Proofs.YtjdccifdkjnknaaGreatDoor
namespace Rows

/-- THE TIED CARD OF 'tesseraelaw13.SegmentGrows'. -/
def segmentGrowsCard : Claim7 := { stood := { row := segmentGrowsRow, standIns := [], harness := (true, "0e15c2cce5cb4ecae375540570872f960644ea47968b23246ba89e3d427928c9"), looks := true }, kinds := [], alts := [], laidByText := true, laidKinds := [.handle, .sentinel, .sentinel, .sentinel], laidTests := true, laidLooks := .later }
def SegmentGrowsCardSaid : Prop := Claim7.holds Tryz.pinned (.plain (OpenSpec.ofChange segmentGrowsSpec)) segmentGrowsCard

/-- THE TIED CARD OF 'tesseraelaw13.SegmentBack'. -/
def segmentBackCard : Claim7 := { stood := { row := segmentBackRow, standIns := [], harness := (true, "0e15c2cce5cb4ecae375540570872f960644ea47968b23246ba89e3d427928c9"), looks := true }, kinds := [], alts := [], laidByText := true, laidKinds := [.handle, .sentinel, .sentinel, .sentinel], laidTests := true, laidLooks := .later }
def SegmentBackCardSaid : Prop := Claim7.holds Tryz.pinned (.plain (OpenSpec.ofChange segmentBackSpec)) segmentBackCard

/-- THE TIED CARD OF 'tesseraelaw13.SegmentSchemas'. -/
def segmentSchemasCard : Claim7 := { stood := { row := segmentSchemasRow, standIns := [], harness := (true, "0e15c2cce5cb4ecae375540570872f960644ea47968b23246ba89e3d427928c9"), looks := true }, kinds := [], alts := [], laidByText := true, laidKinds := [.handle, .sentinel, .sentinel, .sentinel], laidTests := true, laidLooks := .later }
def SegmentSchemasCardSaid : Prop := Claim7.holds Tryz.pinned (.plain (OpenSpec.ofChange segmentSchemasSpec)) segmentSchemasCard

/-- THE TIED CARD OF 'tesseraelaw13.SegmentCodes'. -/
def segmentCodesCard : Claim7 := { stood := { row := segmentCodesRow, standIns := [], harness := (true, "0e15c2cce5cb4ecae375540570872f960644ea47968b23246ba89e3d427928c9"), looks := true }, kinds := [], alts := [], laidByText := true, laidKinds := [.handle, .sentinel, .sentinel, .sentinel], laidTests := true, laidLooks := .later }
def SegmentCodesCardSaid : Prop := Claim7.holds Tryz.pinned (.plain (OpenSpec.ofChange segmentCodesSpec)) segmentCodesCard

/-- THE SECOND FORM's CARD OF 'tesseraelaw13.SegmentGrows'. -/
def segmentGrowsUptoCard : Claim7 := { stood := { row := segmentGrowsUptoRow, standIns := [], harness := (true, "0e15c2cce5cb4ecae375540570872f960644ea47968b23246ba89e3d427928c9"), looks := true }, kinds := [], alts := [], laidByText := true, laidKinds := [.handle, .sentinel, .sentinel, .sentinel], laidTests := true, laidLooks := .later }
def SegmentGrowsUptoCardSaid : Prop := Claim7.holds Tryz.pinned (.plain (OpenSpec.upto segmentGrowsSpec)) segmentGrowsUptoCard

/-- THE SECOND FORM's CARD OF 'tesseraelaw13.SegmentBack'. -/
def segmentBackUptoCard : Claim7 := { stood := { row := segmentBackUptoRow, standIns := [], harness := (true, "0e15c2cce5cb4ecae375540570872f960644ea47968b23246ba89e3d427928c9"), looks := true }, kinds := [], alts := [], laidByText := true, laidKinds := [.handle, .sentinel, .sentinel, .sentinel], laidTests := true, laidLooks := .later }
def SegmentBackUptoCardSaid : Prop := Claim7.holds Tryz.pinned (.plain (OpenSpec.upto segmentBackSpec)) segmentBackUptoCard

/-- THE SECOND FORM's CARD OF 'tesseraelaw13.SegmentSchemas'. -/
def segmentSchemasUptoCard : Claim7 := { stood := { row := segmentSchemasUptoRow, standIns := [], harness := (true, "0e15c2cce5cb4ecae375540570872f960644ea47968b23246ba89e3d427928c9"), looks := true }, kinds := [], alts := [], laidByText := true, laidKinds := [.handle, .sentinel, .sentinel, .sentinel], laidTests := true, laidLooks := .later }
def SegmentSchemasUptoCardSaid : Prop := Claim7.holds Tryz.pinned (.plain (OpenSpec.upto segmentSchemasSpec)) segmentSchemasUptoCard

/-- THE SECOND FORM's CARD OF 'tesseraelaw13.SegmentCodes'. -/
def segmentCodesUptoCard : Claim7 := { stood := { row := segmentCodesUptoRow, standIns := [], harness := (true, "0e15c2cce5cb4ecae375540570872f960644ea47968b23246ba89e3d427928c9"), looks := true }, kinds := [], alts := [], laidByText := true, laidKinds := [.handle, .sentinel, .sentinel, .sentinel], laidTests := true, laidLooks := .later }
def SegmentCodesUptoCardSaid : Prop := Claim7.holds Tryz.pinned (.plain (OpenSpec.upto segmentCodesSpec)) segmentCodesUptoCard
end Rows
end Go.Proofs.YtjdccifdkjnknaaGreatDoor
