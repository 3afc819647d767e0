/-
  DERIVED. GIVEN WITH THE SEED: THE CARDS: each row of YtmfnhjdeoklnlaaGreatDoorRows.lean that lists a variable, with what it lists TIED to the program's text (the seventh form; the later family's looks); each row that meets fmt, with fmt's text TOLD by the authors' own Lean function (tested against real Go, not proved from fmt's source: count such statements apart). THE CARD IS WHAT COUNTS. Prove the row's statement (the work); the ties are given (YtmfnhjdeoklnlaaGreatDoorTie.lean); close each card by the builder's one call (the guide's Derived/Test/ToyasCard.lean, 'card_holds'). Laid BY PROGRAM, IN A SANDBOX (cutbox-door.mjs). By AI agents, Wed Nov 11 2026. No macro, syntax, notation, axiom, sorry.
-/
import Derived.Test.YtmfnhjdeoklnlaaGreatDoorRows
import GoSem.ClaimSeven
namespace Go.Proofs.YtmfnhjdeoklnlaaGreatDoor
namespace Rows

/-- THE TIED CARD OF 'tesseraelaw15.QueryBack'. -/
def queryBackCard : Claim7 := { stood := { row := queryBackRow, standIns := [], harness := (true, "6d87bb7a2afac16a876ab092e2239f411c8c1bc73b2ecd047008507daef19e07"), looks := true }, kinds := [], alts := [], laidByText := true, laidKinds := [.data, .data, .data, .data, .handle, .sentinel, .sentinel, .pinned, .pinned], laidTests := true, laidLooks := .later }
def QueryBackCardSaid : Prop := Claim7.holds Tryz.pinned (.plain (OpenSpec.ofChange queryBackSpec)) queryBackCard

/-- THE TIED CARD OF 'tesseraelaw15.QueryTurns'. -/
def queryTurnsCard : Claim7 := { stood := { row := queryTurnsRow, standIns := [], harness := (true, "6d87bb7a2afac16a876ab092e2239f411c8c1bc73b2ecd047008507daef19e07"), looks := true }, kinds := [], alts := [], laidByText := true, laidKinds := [.data, .data, .data, .data, .handle, .sentinel, .sentinel, .pinned, .pinned], laidTests := true, laidLooks := .later }
def QueryTurnsCardSaid : Prop := Claim7.holds Tryz.pinned (.plain (OpenSpec.ofChange queryTurnsSpec)) queryTurnsCard

/-- THE TIED CARD OF 'tesseraelaw15.QueryBlanks'. -/
def queryBlanksCard : Claim7 := { stood := { row := queryBlanksRow, standIns := [], harness := (true, "6d87bb7a2afac16a876ab092e2239f411c8c1bc73b2ecd047008507daef19e07"), looks := true }, kinds := [], alts := [], laidByText := true, laidKinds := [.data, .data, .data, .data, .handle, .sentinel, .sentinel, .pinned, .pinned], laidTests := true, laidLooks := .later }
def QueryBlanksCardSaid : Prop := Claim7.holds Tryz.pinned (.plain (OpenSpec.ofChange queryBlanksSpec)) queryBlanksCard

/-- THE TIED CARD OF 'tesseraelaw15.QueryEnds'. -/
def queryEndsCard : Claim7 := { stood := { row := queryEndsRow, standIns := [], harness := (true, "6d87bb7a2afac16a876ab092e2239f411c8c1bc73b2ecd047008507daef19e07"), looks := true }, kinds := [], alts := [], laidByText := true, laidKinds := [.data, .data, .data, .data, .handle, .sentinel, .sentinel, .pinned, .pinned], laidTests := true, laidLooks := .later }
def QueryEndsCardSaid : Prop := Claim7.holds Tryz.pinned (.plain (OpenSpec.ofChange queryEndsSpec)) queryEndsCard

/-- THE TIED CARD OF 'tesseraelaw15.QueryChecks'. -/
def queryChecksCard : Claim7 := { stood := { row := queryChecksRow, standIns := [], harness := (true, "6d87bb7a2afac16a876ab092e2239f411c8c1bc73b2ecd047008507daef19e07"), looks := true }, kinds := [], alts := [], laidByText := true, laidKinds := [.data, .data, .data, .data, .handle, .sentinel, .sentinel, .sentinel, .sentinel, .pinned, .pinned], laidTests := true, laidLooks := .later }
def QueryChecksCardSaid : Prop := Claim7.holds Tryz.pinned (.plain (OpenSpec.ofChange queryChecksSpec)) queryChecksCard

/-- THE TIED CARD OF 'tesseraelaw15.QueryTyped'. -/
def queryTypedCard : Claim7 := { stood := { row := queryTypedRow, standIns := [], harness := (true, "6d87bb7a2afac16a876ab092e2239f411c8c1bc73b2ecd047008507daef19e07"), looks := true }, kinds := [], alts := [], laidByText := true, laidKinds := [.data, .data, .data, .data, .handle, .sentinel, .sentinel, .sentinel, .sentinel, .pinned, .pinned], laidTests := true, laidLooks := .later }
def QueryTypedCardSaid : Prop := Claim7.holds Tryz.pinned (.plain (OpenSpec.ofChange queryTypedSpec)) queryTypedCard

/-- THE SECOND FORM's CARD OF 'tesseraelaw15.QueryBack'. -/
def queryBackUptoCard : Claim7 := { stood := { row := queryBackUptoRow, standIns := [], harness := (true, "6d87bb7a2afac16a876ab092e2239f411c8c1bc73b2ecd047008507daef19e07"), looks := true }, kinds := [], alts := [], laidByText := true, laidKinds := [.data, .data, .data, .data, .handle, .sentinel, .sentinel, .pinned, .pinned], laidTests := true, laidLooks := .later }
def QueryBackUptoCardSaid : Prop := Claim7.holds Tryz.pinned (.plain (OpenSpec.upto queryBackSpec)) queryBackUptoCard

/-- THE SECOND FORM's CARD OF 'tesseraelaw15.QueryTurns'. -/
def queryTurnsUptoCard : Claim7 := { stood := { row := queryTurnsUptoRow, standIns := [], harness := (true, "6d87bb7a2afac16a876ab092e2239f411c8c1bc73b2ecd047008507daef19e07"), looks := true }, kinds := [], alts := [], laidByText := true, laidKinds := [.data, .data, .data, .data, .handle, .sentinel, .sentinel, .pinned, .pinned], laidTests := true, laidLooks := .later }
def QueryTurnsUptoCardSaid : Prop := Claim7.holds Tryz.pinned (.plain (OpenSpec.upto queryTurnsSpec)) queryTurnsUptoCard

/-- THE SECOND FORM's CARD OF 'tesseraelaw15.QueryBlanks'. -/
def queryBlanksUptoCard : Claim7 := { stood := { row := queryBlanksUptoRow, standIns := [], harness := (true, "6d87bb7a2afac16a876ab092e2239f411c8c1bc73b2ecd047008507daef19e07"), looks := true }, kinds := [], alts := [], laidByText := true, laidKinds := [.data, .data, .data, .data, .handle, .sentinel, .sentinel, .pinned, .pinned], laidTests := true, laidLooks := .later }
def QueryBlanksUptoCardSaid : Prop := Claim7.holds Tryz.pinned (.plain (OpenSpec.upto queryBlanksSpec)) queryBlanksUptoCard

/-- THE SECOND FORM's CARD OF 'tesseraelaw15.QueryEnds'. -/
def queryEndsUptoCard : Claim7 := { stood := { row := queryEndsUptoRow, standIns := [], harness := (true, "6d87bb7a2afac16a876ab092e2239f411c8c1bc73b2ecd047008507daef19e07"), looks := true }, kinds := [], alts := [], laidByText := true, laidKinds := [.data, .data, .data, .data, .handle, .sentinel, .sentinel, .pinned, .pinned], laidTests := true, laidLooks := .later }
def QueryEndsUptoCardSaid : Prop := Claim7.holds Tryz.pinned (.plain (OpenSpec.upto queryEndsSpec)) queryEndsUptoCard

/-- THE SECOND FORM's CARD OF 'tesseraelaw15.QueryChecks'. -/
def queryChecksUptoCard : Claim7 := { stood := { row := queryChecksUptoRow, standIns := [], harness := (true, "6d87bb7a2afac16a876ab092e2239f411c8c1bc73b2ecd047008507daef19e07"), looks := true }, kinds := [], alts := [], laidByText := true, laidKinds := [.data, .data, .data, .data, .handle, .sentinel, .sentinel, .sentinel, .sentinel, .pinned, .pinned], laidTests := true, laidLooks := .later }
def QueryChecksUptoCardSaid : Prop := Claim7.holds Tryz.pinned (.plain (OpenSpec.upto queryChecksSpec)) queryChecksUptoCard

/-- THE SECOND FORM's CARD OF 'tesseraelaw15.QueryTyped'. -/
def queryTypedUptoCard : Claim7 := { stood := { row := queryTypedUptoRow, standIns := [], harness := (true, "6d87bb7a2afac16a876ab092e2239f411c8c1bc73b2ecd047008507daef19e07"), looks := true }, kinds := [], alts := [], laidByText := true, laidKinds := [.data, .data, .data, .data, .handle, .sentinel, .sentinel, .sentinel, .sentinel, .pinned, .pinned], laidTests := true, laidLooks := .later }
def QueryTypedUptoCardSaid : Prop := Claim7.holds Tryz.pinned (.plain (OpenSpec.upto queryTypedSpec)) queryTypedUptoCard
end Rows
end Go.Proofs.YtmfnhjdeoklnlaaGreatDoor
