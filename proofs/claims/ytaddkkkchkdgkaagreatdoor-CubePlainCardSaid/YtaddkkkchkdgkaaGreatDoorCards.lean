/-
  DERIVED. GIVEN WITH THE SEED: THE CARDS: each row of YtaddkkkchkdgkaaGreatDoorRows.lean that lists a variable, with what it lists TIED to the program's text (the seventh form; the later family's looks); each row that meets fmt, with fmt's text TOLD by the authors' own Lean function (tested against real Go, not proved from fmt's source: count such statements apart). THE CARD IS WHAT COUNTS. Prove the row's statement (the work); the ties are given (YtaddkkkchkdgkaaGreatDoorTie.lean); close each card by the builder's one call (the guide's Derived/Test/ToyasCard.lean, 'card_holds'). Laid BY PROGRAM, IN A SANDBOX (cutbox-door.mjs). By AI agents, Wed Nov 11 2026. No macro, syntax, notation, axiom, sorry.
-/
import Derived.Test.YtaddkkkchkdgkaaGreatDoorRows
import GoSem.ClaimSeven
namespace Go.Proofs.YtaddkkkchkdgkaaGreatDoor
namespace Rows

/-- THE TIED CARD OF 'tesseraelaw16.GroupParts'. -/
def groupPartsCard : Claim7 := { stood := { row := groupPartsRow, standIns := [], harness := (true, "ddf3c281a60bff4e312c076a7b8b93a03966ea39f0bf817a9b09f2f63a0bde71"), looks := true }, kinds := [], alts := [], laidByText := true, laidKinds := [.data, .data, .data, .data, .handle, .sentinel, .sentinel, .pinned, .pinned, .pinned, .pinned, .pinned, .pinned], laidTests := true, laidLooks := .later }
def GroupPartsCardSaid : Prop := Claim7.holds Tryz.pinned (.plain (OpenSpec.ofChange groupPartsSpec)) groupPartsCard

/-- THE TIED CARD OF 'tesseraelaw16.GroupGrain'. -/
def groupGrainCard : Claim7 := { stood := { row := groupGrainRow, standIns := [], harness := (true, "ddf3c281a60bff4e312c076a7b8b93a03966ea39f0bf817a9b09f2f63a0bde71"), looks := true }, kinds := [], alts := [], laidByText := true, laidKinds := [.data, .data, .data, .data, .handle, .sentinel, .sentinel, .pinned, .pinned, .pinned, .pinned, .pinned, .pinned], laidTests := true, laidLooks := .later }
def GroupGrainCardSaid : Prop := Claim7.holds Tryz.pinned (.plain (OpenSpec.ofChange groupGrainSpec)) groupGrainCard

/-- THE TIED CARD OF 'tesseraelaw16.GroupTotals'. -/
def groupTotalsCard : Claim7 := { stood := { row := groupTotalsRow, standIns := [], harness := (true, "ddf3c281a60bff4e312c076a7b8b93a03966ea39f0bf817a9b09f2f63a0bde71"), looks := true }, kinds := [], alts := [], laidByText := true, laidKinds := [.data, .data, .data, .data, .handle, .sentinel, .sentinel, .pinned, .pinned, .pinned, .pinned, .pinned, .pinned], laidTests := true, laidLooks := .later }
def GroupTotalsCardSaid : Prop := Claim7.holds Tryz.pinned (.plain (OpenSpec.ofChange groupTotalsSpec)) groupTotalsCard

/-- THE TIED CARD OF 'tesseraelaw16.GroupMerges'. -/
def groupMergesCard : Claim7 := { stood := { row := groupMergesRow, standIns := [], harness := (true, "ddf3c281a60bff4e312c076a7b8b93a03966ea39f0bf817a9b09f2f63a0bde71"), looks := true }, kinds := [], alts := [], laidByText := true, laidKinds := [.data, .data, .data, .data, .handle, .sentinel, .sentinel, .pinned, .pinned, .pinned, .pinned, .pinned, .pinned], laidTests := true, laidLooks := .later }
def GroupMergesCardSaid : Prop := Claim7.holds Tryz.pinned (.plain (OpenSpec.ofChange groupMergesSpec)) groupMergesCard

/-- THE TIED CARD OF 'tesseraelaw17.CubeCounts'. -/
def cubeCountsCard : Claim7 := { stood := { row := cubeCountsRow, standIns := [], harness := (true, "ddf3c281a60bff4e312c076a7b8b93a03966ea39f0bf817a9b09f2f63a0bde71"), looks := true }, kinds := [], alts := [], laidByText := true, laidKinds := [.data, .data, .data, .data, .handle, .sentinel, .sentinel, .pinned, .pinned, .pinned, .pinned, .pinned, .pinned], laidTests := true, laidLooks := .later }
def CubeCountsCardSaid : Prop := Claim7.holds Tryz.pinned (.plain (OpenSpec.ofChange cubeCountsSpec)) cubeCountsCard

/-- THE TIED CARD OF 'tesseraelaw17.CubeRollup'. -/
def cubeRollupCard : Claim7 := { stood := { row := cubeRollupRow, standIns := [], harness := (true, "ddf3c281a60bff4e312c076a7b8b93a03966ea39f0bf817a9b09f2f63a0bde71"), looks := true }, kinds := [], alts := [], laidByText := true, laidKinds := [.data, .data, .data, .data, .handle, .sentinel, .sentinel, .pinned, .pinned, .pinned, .pinned, .pinned, .pinned], laidTests := true, laidLooks := .later }
def CubeRollupCardSaid : Prop := Claim7.holds Tryz.pinned (.plain (OpenSpec.ofChange cubeRollupSpec)) cubeRollupCard

/-- THE TIED CARD OF 'tesseraelaw17.CubePlain'. -/
def cubePlainCard : Claim7 := { stood := { row := cubePlainRow, standIns := [], harness := (true, "ddf3c281a60bff4e312c076a7b8b93a03966ea39f0bf817a9b09f2f63a0bde71"), looks := true }, kinds := [], alts := [], laidByText := true, laidKinds := [.data, .data, .data, .data, .handle, .sentinel, .sentinel, .pinned, .pinned, .pinned, .pinned, .pinned, .pinned], laidTests := true, laidLooks := .later }
def CubePlainCardSaid : Prop := Claim7.holds Tryz.pinned (.plain (OpenSpec.ofChange cubePlainSpec)) cubePlainCard

/-- THE SECOND FORM's CARD OF 'tesseraelaw16.GroupParts'. -/
def groupPartsUptoCard : Claim7 := { stood := { row := groupPartsUptoRow, standIns := [], harness := (true, "ddf3c281a60bff4e312c076a7b8b93a03966ea39f0bf817a9b09f2f63a0bde71"), looks := true }, kinds := [], alts := [], laidByText := true, laidKinds := [.data, .data, .data, .data, .handle, .sentinel, .sentinel, .pinned, .pinned, .pinned, .pinned, .pinned, .pinned], laidTests := true, laidLooks := .later }
def GroupPartsUptoCardSaid : Prop := Claim7.holds Tryz.pinned (.plain (OpenSpec.upto groupPartsSpec)) groupPartsUptoCard

/-- THE SECOND FORM's CARD OF 'tesseraelaw16.GroupGrain'. -/
def groupGrainUptoCard : Claim7 := { stood := { row := groupGrainUptoRow, standIns := [], harness := (true, "ddf3c281a60bff4e312c076a7b8b93a03966ea39f0bf817a9b09f2f63a0bde71"), looks := true }, kinds := [], alts := [], laidByText := true, laidKinds := [.data, .data, .data, .data, .handle, .sentinel, .sentinel, .pinned, .pinned, .pinned, .pinned, .pinned, .pinned], laidTests := true, laidLooks := .later }
def GroupGrainUptoCardSaid : Prop := Claim7.holds Tryz.pinned (.plain (OpenSpec.upto groupGrainSpec)) groupGrainUptoCard

/-- THE SECOND FORM's CARD OF 'tesseraelaw16.GroupTotals'. -/
def groupTotalsUptoCard : Claim7 := { stood := { row := groupTotalsUptoRow, standIns := [], harness := (true, "ddf3c281a60bff4e312c076a7b8b93a03966ea39f0bf817a9b09f2f63a0bde71"), looks := true }, kinds := [], alts := [], laidByText := true, laidKinds := [.data, .data, .data, .data, .handle, .sentinel, .sentinel, .pinned, .pinned, .pinned, .pinned, .pinned, .pinned], laidTests := true, laidLooks := .later }
def GroupTotalsUptoCardSaid : Prop := Claim7.holds Tryz.pinned (.plain (OpenSpec.upto groupTotalsSpec)) groupTotalsUptoCard

/-- THE SECOND FORM's CARD OF 'tesseraelaw16.GroupMerges'. -/
def groupMergesUptoCard : Claim7 := { stood := { row := groupMergesUptoRow, standIns := [], harness := (true, "ddf3c281a60bff4e312c076a7b8b93a03966ea39f0bf817a9b09f2f63a0bde71"), looks := true }, kinds := [], alts := [], laidByText := true, laidKinds := [.data, .data, .data, .data, .handle, .sentinel, .sentinel, .pinned, .pinned, .pinned, .pinned, .pinned, .pinned], laidTests := true, laidLooks := .later }
def GroupMergesUptoCardSaid : Prop := Claim7.holds Tryz.pinned (.plain (OpenSpec.upto groupMergesSpec)) groupMergesUptoCard

/-- THE SECOND FORM's CARD OF 'tesseraelaw17.CubeCounts'. -/
def cubeCountsUptoCard : Claim7 := { stood := { row := cubeCountsUptoRow, standIns := [], harness := (true, "ddf3c281a60bff4e312c076a7b8b93a03966ea39f0bf817a9b09f2f63a0bde71"), looks := true }, kinds := [], alts := [], laidByText := true, laidKinds := [.data, .data, .data, .data, .handle, .sentinel, .sentinel, .pinned, .pinned, .pinned, .pinned, .pinned, .pinned], laidTests := true, laidLooks := .later }
def CubeCountsUptoCardSaid : Prop := Claim7.holds Tryz.pinned (.plain (OpenSpec.upto cubeCountsSpec)) cubeCountsUptoCard

/-- THE SECOND FORM's CARD OF 'tesseraelaw17.CubeRollup'. -/
def cubeRollupUptoCard : Claim7 := { stood := { row := cubeRollupUptoRow, standIns := [], harness := (true, "ddf3c281a60bff4e312c076a7b8b93a03966ea39f0bf817a9b09f2f63a0bde71"), looks := true }, kinds := [], alts := [], laidByText := true, laidKinds := [.data, .data, .data, .data, .handle, .sentinel, .sentinel, .pinned, .pinned, .pinned, .pinned, .pinned, .pinned], laidTests := true, laidLooks := .later }
def CubeRollupUptoCardSaid : Prop := Claim7.holds Tryz.pinned (.plain (OpenSpec.upto cubeRollupSpec)) cubeRollupUptoCard

/-- THE SECOND FORM's CARD OF 'tesseraelaw17.CubePlain'. -/
def cubePlainUptoCard : Claim7 := { stood := { row := cubePlainUptoRow, standIns := [], harness := (true, "ddf3c281a60bff4e312c076a7b8b93a03966ea39f0bf817a9b09f2f63a0bde71"), looks := true }, kinds := [], alts := [], laidByText := true, laidKinds := [.data, .data, .data, .data, .handle, .sentinel, .sentinel, .pinned, .pinned, .pinned, .pinned, .pinned, .pinned], laidTests := true, laidLooks := .later }
def CubePlainUptoCardSaid : Prop := Claim7.holds Tryz.pinned (.plain (OpenSpec.upto cubePlainSpec)) cubePlainUptoCard
end Rows
end Go.Proofs.YtaddkkkchkdgkaaGreatDoor
