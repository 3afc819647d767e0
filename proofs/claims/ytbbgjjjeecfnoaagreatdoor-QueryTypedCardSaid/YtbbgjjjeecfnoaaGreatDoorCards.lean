/-
  DERIVED. GIVEN WITH THE SEED: THE CARDS: each row of YtbbgjjjeecfnoaaGreatDoorRows.lean that lists a variable, with what it lists TIED to the program's text (the seventh form; the later family's looks); each row that meets fmt, with fmt's text TOLD by the authors' own Lean function (tested against real Go, not proved from fmt's source: count such statements apart). THE CARD IS WHAT COUNTS. Prove the row's statement (the work); the ties are given (YtbbgjjjeecfnoaaGreatDoorTie.lean); close each card by the builder's one call (the guide's Derived/Test/ToyasCard.lean, 'card_holds'). Laid BY PROGRAM, IN A SANDBOX (cutbox-door.mjs). By AI agents, Wed Nov 11 2026. No macro, syntax, notation, axiom, sorry.
-/
import Derived.Test.YtbbgjjjeecfnoaaGreatDoorRows
import GoSem.ClaimSeven
namespace Go.Proofs.YtbbgjjjeecfnoaaGreatDoor
namespace Rows

/-- THE TIED CARD OF 'tesseraelaw16.GroupParts'. -/
def groupPartsCard : Claim7 := { stood := { row := groupPartsRow, standIns := [], harness := (true, "9a5c8ccae750f72ceb9b4871c85d10274d05bac0dc72ed9a5dcfece3a066be1f"), looks := true }, kinds := [], alts := [], laidByText := true, laidKinds := [.data, .data, .data, .data, .handle, .sentinel, .sentinel, .pinned, .pinned, .pinned, .pinned, .pinned, .pinned], laidTests := true, laidLooks := .later }
def GroupPartsCardSaid : Prop := Claim7.holds Tryz.pinned (.plain (OpenSpec.ofChange groupPartsSpec)) groupPartsCard

/-- THE TIED CARD OF 'tesseraelaw16.GroupGrain'. -/
def groupGrainCard : Claim7 := { stood := { row := groupGrainRow, standIns := [], harness := (true, "9a5c8ccae750f72ceb9b4871c85d10274d05bac0dc72ed9a5dcfece3a066be1f"), looks := true }, kinds := [], alts := [], laidByText := true, laidKinds := [.data, .data, .data, .data, .handle, .sentinel, .sentinel, .pinned, .pinned, .pinned, .pinned, .pinned, .pinned], laidTests := true, laidLooks := .later }
def GroupGrainCardSaid : Prop := Claim7.holds Tryz.pinned (.plain (OpenSpec.ofChange groupGrainSpec)) groupGrainCard

/-- THE TIED CARD OF 'tesseraelaw16.GroupTotals'. -/
def groupTotalsCard : Claim7 := { stood := { row := groupTotalsRow, standIns := [], harness := (true, "9a5c8ccae750f72ceb9b4871c85d10274d05bac0dc72ed9a5dcfece3a066be1f"), looks := true }, kinds := [], alts := [], laidByText := true, laidKinds := [.data, .data, .data, .data, .handle, .sentinel, .sentinel, .pinned, .pinned, .pinned, .pinned, .pinned, .pinned], laidTests := true, laidLooks := .later }
def GroupTotalsCardSaid : Prop := Claim7.holds Tryz.pinned (.plain (OpenSpec.ofChange groupTotalsSpec)) groupTotalsCard

/-- THE TIED CARD OF 'tesseraelaw16.GroupMerges'. -/
def groupMergesCard : Claim7 := { stood := { row := groupMergesRow, standIns := [], harness := (true, "9a5c8ccae750f72ceb9b4871c85d10274d05bac0dc72ed9a5dcfece3a066be1f"), looks := true }, kinds := [], alts := [], laidByText := true, laidKinds := [.data, .data, .data, .data, .handle, .sentinel, .sentinel, .pinned, .pinned, .pinned, .pinned, .pinned, .pinned], laidTests := true, laidLooks := .later }
def GroupMergesCardSaid : Prop := Claim7.holds Tryz.pinned (.plain (OpenSpec.ofChange groupMergesSpec)) groupMergesCard

/-- THE TIED CARD OF 'tesseraelaw17.CubeCounts'. -/
def cubeCountsCard : Claim7 := { stood := { row := cubeCountsRow, standIns := [], harness := (true, "9a5c8ccae750f72ceb9b4871c85d10274d05bac0dc72ed9a5dcfece3a066be1f"), looks := true }, kinds := [], alts := [], laidByText := true, laidKinds := [.data, .data, .data, .data, .handle, .sentinel, .sentinel, .pinned, .pinned, .pinned, .pinned, .pinned, .pinned], laidTests := true, laidLooks := .later }
def CubeCountsCardSaid : Prop := Claim7.holds Tryz.pinned (.plain (OpenSpec.ofChange cubeCountsSpec)) cubeCountsCard

/-- THE TIED CARD OF 'tesseraelaw17.CubeRollup'. -/
def cubeRollupCard : Claim7 := { stood := { row := cubeRollupRow, standIns := [], harness := (true, "9a5c8ccae750f72ceb9b4871c85d10274d05bac0dc72ed9a5dcfece3a066be1f"), looks := true }, kinds := [], alts := [], laidByText := true, laidKinds := [.data, .data, .data, .data, .handle, .sentinel, .sentinel, .pinned, .pinned, .pinned, .pinned, .pinned, .pinned], laidTests := true, laidLooks := .later }
def CubeRollupCardSaid : Prop := Claim7.holds Tryz.pinned (.plain (OpenSpec.ofChange cubeRollupSpec)) cubeRollupCard

/-- THE TIED CARD OF 'tesseraelaw17.CubePlain'. -/
def cubePlainCard : Claim7 := { stood := { row := cubePlainRow, standIns := [], harness := (true, "9a5c8ccae750f72ceb9b4871c85d10274d05bac0dc72ed9a5dcfece3a066be1f"), looks := true }, kinds := [], alts := [], laidByText := true, laidKinds := [.data, .data, .data, .data, .handle, .sentinel, .sentinel, .pinned, .pinned, .pinned, .pinned, .pinned, .pinned], laidTests := true, laidLooks := .later }
def CubePlainCardSaid : Prop := Claim7.holds Tryz.pinned (.plain (OpenSpec.ofChange cubePlainSpec)) cubePlainCard

/-- THE TIED CARD OF 'tesseraelaw15.QueryTyped'. -/
def queryTypedCard : Claim7 := { stood := { row := queryTypedRow, standIns := [], harness := (true, "9a5c8ccae750f72ceb9b4871c85d10274d05bac0dc72ed9a5dcfece3a066be1f"), looks := true }, kinds := [], alts := [], laidByText := true, laidKinds := [.data, .data, .data, .data, .handle, .sentinel, .sentinel, .sentinel, .sentinel, .pinned, .pinned], laidTests := true, laidLooks := .later }
def QueryTypedCardSaid : Prop := Claim7.holds Tryz.pinned (.plain (OpenSpec.ofChange queryTypedSpec)) queryTypedCard

/-- THE SECOND FORM's CARD OF 'tesseraelaw16.GroupParts'. -/
def groupPartsUptoCard : Claim7 := { stood := { row := groupPartsUptoRow, standIns := [], harness := (true, "9a5c8ccae750f72ceb9b4871c85d10274d05bac0dc72ed9a5dcfece3a066be1f"), looks := true }, kinds := [], alts := [], laidByText := true, laidKinds := [.data, .data, .data, .data, .handle, .sentinel, .sentinel, .pinned, .pinned, .pinned, .pinned, .pinned, .pinned], laidTests := true, laidLooks := .later }
def GroupPartsUptoCardSaid : Prop := Claim7.holds Tryz.pinned (.plain (OpenSpec.upto groupPartsSpec)) groupPartsUptoCard

/-- THE SECOND FORM's CARD OF 'tesseraelaw16.GroupGrain'. -/
def groupGrainUptoCard : Claim7 := { stood := { row := groupGrainUptoRow, standIns := [], harness := (true, "9a5c8ccae750f72ceb9b4871c85d10274d05bac0dc72ed9a5dcfece3a066be1f"), looks := true }, kinds := [], alts := [], laidByText := true, laidKinds := [.data, .data, .data, .data, .handle, .sentinel, .sentinel, .pinned, .pinned, .pinned, .pinned, .pinned, .pinned], laidTests := true, laidLooks := .later }
def GroupGrainUptoCardSaid : Prop := Claim7.holds Tryz.pinned (.plain (OpenSpec.upto groupGrainSpec)) groupGrainUptoCard

/-- THE SECOND FORM's CARD OF 'tesseraelaw16.GroupTotals'. -/
def groupTotalsUptoCard : Claim7 := { stood := { row := groupTotalsUptoRow, standIns := [], harness := (true, "9a5c8ccae750f72ceb9b4871c85d10274d05bac0dc72ed9a5dcfece3a066be1f"), looks := true }, kinds := [], alts := [], laidByText := true, laidKinds := [.data, .data, .data, .data, .handle, .sentinel, .sentinel, .pinned, .pinned, .pinned, .pinned, .pinned, .pinned], laidTests := true, laidLooks := .later }
def GroupTotalsUptoCardSaid : Prop := Claim7.holds Tryz.pinned (.plain (OpenSpec.upto groupTotalsSpec)) groupTotalsUptoCard

/-- THE SECOND FORM's CARD OF 'tesseraelaw16.GroupMerges'. -/
def groupMergesUptoCard : Claim7 := { stood := { row := groupMergesUptoRow, standIns := [], harness := (true, "9a5c8ccae750f72ceb9b4871c85d10274d05bac0dc72ed9a5dcfece3a066be1f"), looks := true }, kinds := [], alts := [], laidByText := true, laidKinds := [.data, .data, .data, .data, .handle, .sentinel, .sentinel, .pinned, .pinned, .pinned, .pinned, .pinned, .pinned], laidTests := true, laidLooks := .later }
def GroupMergesUptoCardSaid : Prop := Claim7.holds Tryz.pinned (.plain (OpenSpec.upto groupMergesSpec)) groupMergesUptoCard

/-- THE SECOND FORM's CARD OF 'tesseraelaw17.CubeCounts'. -/
def cubeCountsUptoCard : Claim7 := { stood := { row := cubeCountsUptoRow, standIns := [], harness := (true, "9a5c8ccae750f72ceb9b4871c85d10274d05bac0dc72ed9a5dcfece3a066be1f"), looks := true }, kinds := [], alts := [], laidByText := true, laidKinds := [.data, .data, .data, .data, .handle, .sentinel, .sentinel, .pinned, .pinned, .pinned, .pinned, .pinned, .pinned], laidTests := true, laidLooks := .later }
def CubeCountsUptoCardSaid : Prop := Claim7.holds Tryz.pinned (.plain (OpenSpec.upto cubeCountsSpec)) cubeCountsUptoCard

/-- THE SECOND FORM's CARD OF 'tesseraelaw17.CubeRollup'. -/
def cubeRollupUptoCard : Claim7 := { stood := { row := cubeRollupUptoRow, standIns := [], harness := (true, "9a5c8ccae750f72ceb9b4871c85d10274d05bac0dc72ed9a5dcfece3a066be1f"), looks := true }, kinds := [], alts := [], laidByText := true, laidKinds := [.data, .data, .data, .data, .handle, .sentinel, .sentinel, .pinned, .pinned, .pinned, .pinned, .pinned, .pinned], laidTests := true, laidLooks := .later }
def CubeRollupUptoCardSaid : Prop := Claim7.holds Tryz.pinned (.plain (OpenSpec.upto cubeRollupSpec)) cubeRollupUptoCard

/-- THE SECOND FORM's CARD OF 'tesseraelaw17.CubePlain'. -/
def cubePlainUptoCard : Claim7 := { stood := { row := cubePlainUptoRow, standIns := [], harness := (true, "9a5c8ccae750f72ceb9b4871c85d10274d05bac0dc72ed9a5dcfece3a066be1f"), looks := true }, kinds := [], alts := [], laidByText := true, laidKinds := [.data, .data, .data, .data, .handle, .sentinel, .sentinel, .pinned, .pinned, .pinned, .pinned, .pinned, .pinned], laidTests := true, laidLooks := .later }
def CubePlainUptoCardSaid : Prop := Claim7.holds Tryz.pinned (.plain (OpenSpec.upto cubePlainSpec)) cubePlainUptoCard

/-- THE SECOND FORM's CARD OF 'tesseraelaw15.QueryTyped'. -/
def queryTypedUptoCard : Claim7 := { stood := { row := queryTypedUptoRow, standIns := [], harness := (true, "9a5c8ccae750f72ceb9b4871c85d10274d05bac0dc72ed9a5dcfece3a066be1f"), looks := true }, kinds := [], alts := [], laidByText := true, laidKinds := [.data, .data, .data, .data, .handle, .sentinel, .sentinel, .sentinel, .sentinel, .pinned, .pinned], laidTests := true, laidLooks := .later }
def QueryTypedUptoCardSaid : Prop := Claim7.holds Tryz.pinned (.plain (OpenSpec.upto queryTypedSpec)) queryTypedUptoCard
end Rows
end Go.Proofs.YtbbgjjjeecfnoaaGreatDoor
