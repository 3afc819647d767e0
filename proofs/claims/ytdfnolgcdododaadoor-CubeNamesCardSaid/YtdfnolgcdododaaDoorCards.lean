/-
  DERIVED. GIVEN WITH THE SEED: THE CARDS: each row of YtdfnolgcdododaaDoorRows.lean that lists a variable, with what it lists TIED to the program's text (the seventh form; the later family's looks); each row that meets fmt, with fmt's text TOLD by the authors' own Lean function (tested against real Go, not proved from fmt's source: count such statements apart). THE CARD IS WHAT COUNTS. Prove the row's statement (the work); the ties are given (YtdfnolgcdododaaDoorTie.lean); close each card by the builder's one call (the guide's Derived/Test/ToyasCard.lean, 'card_holds'). Laid BY PROGRAM, IN A SANDBOX (cutbox-door.mjs). By AI agents, Wed Nov 11 2026. No macro, syntax, notation, axiom, sorry.
-/
import Derived.Test.YtdfnolgcdododaaDoorRows
import GoSem.ClaimSeven
namespace Go.Proofs.YtdfnolgcdododaaDoor
namespace Rows

/-- THE TIED CARD OF 'tesseraelaw14.FilterTruths'. -/
def filterTruthsCard : Claim7 := { stood := { row := filterTruthsRow, standIns := [], harness := (true, "425a4b655d80d1ed827efb1deaf1fe20b985081659582a3aad78a809011760ba"), looks := true }, kinds := [], alts := [], laidByText := true, laidKinds := [.sentinel, .sentinel], laidTests := true, laidLooks := .later }
def FilterTruthsCardSaid : Prop := Claim7.holds Tryd.pinned (.plain (OpenSpec.ofChange filterTruthsSpec)) filterTruthsCard

/-- THE TIED CARD OF 'tesseraelaw14.FilterWords'. -/
def filterWordsCard : Claim7 := { stood := { row := filterWordsRow, standIns := [], harness := (true, "425a4b655d80d1ed827efb1deaf1fe20b985081659582a3aad78a809011760ba"), looks := true }, kinds := [], alts := [], laidByText := true, laidKinds := [.sentinel, .sentinel], laidTests := true, laidLooks := .later }
def FilterWordsCardSaid : Prop := Claim7.holds Tryd.pinned (.plain (OpenSpec.ofChange filterWordsSpec)) filterWordsCard

/-- THE TIED CARD OF 'tesseraelaw14.FilterHolds'. -/
def filterHoldsCard : Claim7 := { stood := { row := filterHoldsRow, standIns := [], harness := (true, "425a4b655d80d1ed827efb1deaf1fe20b985081659582a3aad78a809011760ba"), looks := true }, kinds := [], alts := [], laidByText := true, laidKinds := [.sentinel, .sentinel], laidTests := true, laidLooks := .later }
def FilterHoldsCardSaid : Prop := Claim7.holds Tryd.pinned (.plain (OpenSpec.ofChange filterHoldsSpec)) filterHoldsCard

/-- THE TIED CARD OF 'tesseraelaw14.FilterGrain'. -/
def filterGrainCard : Claim7 := { stood := { row := filterGrainRow, standIns := [], harness := (true, "425a4b655d80d1ed827efb1deaf1fe20b985081659582a3aad78a809011760ba"), looks := true }, kinds := [], alts := [], laidByText := true, laidKinds := [.sentinel, .sentinel], laidTests := true, laidLooks := .later }
def FilterGrainCardSaid : Prop := Claim7.holds Tryd.pinned (.plain (OpenSpec.ofChange filterGrainSpec)) filterGrainCard

/-- THE TIED CARD OF 'tesseraelaw14.FilterParts'. -/
def filterPartsCard : Claim7 := { stood := { row := filterPartsRow, standIns := [], harness := (true, "425a4b655d80d1ed827efb1deaf1fe20b985081659582a3aad78a809011760ba"), looks := true }, kinds := [], alts := [], laidByText := true, laidKinds := [.sentinel, .sentinel], laidTests := true, laidLooks := .later }
def FilterPartsCardSaid : Prop := Claim7.holds Tryd.pinned (.plain (OpenSpec.ofChange filterPartsSpec)) filterPartsCard

/-- THE TIED CARD OF 'tesseraelaw17.CubeAll'. -/
def cubeAllCard : Claim7 := { stood := { row := cubeAllRow, standIns := [], harness := (true, "425a4b655d80d1ed827efb1deaf1fe20b985081659582a3aad78a809011760ba"), looks := true }, kinds := [], alts := [], laidByText := true, laidKinds := [.sentinel, .sentinel], laidTests := true, laidLooks := .later }
def CubeAllCardSaid : Prop := Claim7.holds Tryd.pinned (.plain (OpenSpec.ofChange cubeAllSpec)) cubeAllCard

/-- THE TIED CARD OF 'tesseraelaw17.CubeNames'. -/
def cubeNamesCard : Claim7 := { stood := { row := cubeNamesRow, standIns := [], harness := (true, "425a4b655d80d1ed827efb1deaf1fe20b985081659582a3aad78a809011760ba"), looks := true }, kinds := [], alts := [], laidByText := true, laidKinds := [.sentinel, .sentinel], laidTests := true, laidLooks := .later }
def CubeNamesCardSaid : Prop := Claim7.holds Tryd.pinned (.plain (OpenSpec.ofChange cubeNamesSpec)) cubeNamesCard

/-- THE SECOND FORM's CARD OF 'tesseraelaw14.FilterTruths'. -/
def filterTruthsUptoCard : Claim7 := { stood := { row := filterTruthsUptoRow, standIns := [], harness := (true, "425a4b655d80d1ed827efb1deaf1fe20b985081659582a3aad78a809011760ba"), looks := true }, kinds := [], alts := [], laidByText := true, laidKinds := [.sentinel, .sentinel], laidTests := true, laidLooks := .later }
def FilterTruthsUptoCardSaid : Prop := Claim7.holds Tryd.pinned (.plain (OpenSpec.upto filterTruthsSpec)) filterTruthsUptoCard

/-- THE SECOND FORM's CARD OF 'tesseraelaw14.FilterWords'. -/
def filterWordsUptoCard : Claim7 := { stood := { row := filterWordsUptoRow, standIns := [], harness := (true, "425a4b655d80d1ed827efb1deaf1fe20b985081659582a3aad78a809011760ba"), looks := true }, kinds := [], alts := [], laidByText := true, laidKinds := [.sentinel, .sentinel], laidTests := true, laidLooks := .later }
def FilterWordsUptoCardSaid : Prop := Claim7.holds Tryd.pinned (.plain (OpenSpec.upto filterWordsSpec)) filterWordsUptoCard

/-- THE SECOND FORM's CARD OF 'tesseraelaw14.FilterHolds'. -/
def filterHoldsUptoCard : Claim7 := { stood := { row := filterHoldsUptoRow, standIns := [], harness := (true, "425a4b655d80d1ed827efb1deaf1fe20b985081659582a3aad78a809011760ba"), looks := true }, kinds := [], alts := [], laidByText := true, laidKinds := [.sentinel, .sentinel], laidTests := true, laidLooks := .later }
def FilterHoldsUptoCardSaid : Prop := Claim7.holds Tryd.pinned (.plain (OpenSpec.upto filterHoldsSpec)) filterHoldsUptoCard

/-- THE SECOND FORM's CARD OF 'tesseraelaw14.FilterGrain'. -/
def filterGrainUptoCard : Claim7 := { stood := { row := filterGrainUptoRow, standIns := [], harness := (true, "425a4b655d80d1ed827efb1deaf1fe20b985081659582a3aad78a809011760ba"), looks := true }, kinds := [], alts := [], laidByText := true, laidKinds := [.sentinel, .sentinel], laidTests := true, laidLooks := .later }
def FilterGrainUptoCardSaid : Prop := Claim7.holds Tryd.pinned (.plain (OpenSpec.upto filterGrainSpec)) filterGrainUptoCard

/-- THE SECOND FORM's CARD OF 'tesseraelaw14.FilterParts'. -/
def filterPartsUptoCard : Claim7 := { stood := { row := filterPartsUptoRow, standIns := [], harness := (true, "425a4b655d80d1ed827efb1deaf1fe20b985081659582a3aad78a809011760ba"), looks := true }, kinds := [], alts := [], laidByText := true, laidKinds := [.sentinel, .sentinel], laidTests := true, laidLooks := .later }
def FilterPartsUptoCardSaid : Prop := Claim7.holds Tryd.pinned (.plain (OpenSpec.upto filterPartsSpec)) filterPartsUptoCard

/-- THE SECOND FORM's CARD OF 'tesseraelaw17.CubeAll'. -/
def cubeAllUptoCard : Claim7 := { stood := { row := cubeAllUptoRow, standIns := [], harness := (true, "425a4b655d80d1ed827efb1deaf1fe20b985081659582a3aad78a809011760ba"), looks := true }, kinds := [], alts := [], laidByText := true, laidKinds := [.sentinel, .sentinel], laidTests := true, laidLooks := .later }
def CubeAllUptoCardSaid : Prop := Claim7.holds Tryd.pinned (.plain (OpenSpec.upto cubeAllSpec)) cubeAllUptoCard

/-- THE SECOND FORM's CARD OF 'tesseraelaw17.CubeNames'. -/
def cubeNamesUptoCard : Claim7 := { stood := { row := cubeNamesUptoRow, standIns := [], harness := (true, "425a4b655d80d1ed827efb1deaf1fe20b985081659582a3aad78a809011760ba"), looks := true }, kinds := [], alts := [], laidByText := true, laidKinds := [.sentinel, .sentinel], laidTests := true, laidLooks := .later }
def CubeNamesUptoCardSaid : Prop := Claim7.holds Tryd.pinned (.plain (OpenSpec.upto cubeNamesSpec)) cubeNamesUptoCard
end Rows
end Go.Proofs.YtdfnolgcdododaaDoor
