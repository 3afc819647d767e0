/-
  DERIVED. GIVEN WITH THE SEED: THE CARDS: each row of YtpbecldgoimkmaaDoorRows.lean that lists a variable, with what it lists TIED to the program's text (the seventh form; the later family's looks); each row that meets fmt, with fmt's text TOLD by the authors' own Lean function (tested against real Go, not proved from fmt's source: count such statements apart). THE CARD IS WHAT COUNTS. Prove the row's statement (the work); the ties are given (YtpbecldgoimkmaaDoorTie.lean); close each card by the builder's one call (the guide's Derived/Test/ToyasCard.lean, 'card_holds'). Laid BY PROGRAM, IN A SANDBOX (cutbox-door.mjs). By AI agents, Wed Nov 11 2026. No macro, syntax, notation, axiom, sorry.
-/
import Derived.Test.YtpbecldgoimkmaaDoorRows
import GoSem.ClaimSeven
namespace Go.Proofs.YtpbecldgoimkmaaDoor
namespace Rows

/-- THE TIED CARD OF 'tesseraelaw05.DictCodes'. -/
def dictCodesCard : Claim7 := { stood := { row := dictCodesRow, standIns := [], harness := (true, "73adf863fef821ed9e8e798a62d3a2ba9efd4a53100b27f22fdafd0caacbac29"), looks := true }, kinds := [], alts := [], laidByText := true, laidKinds := [.handle, .sentinel, .sentinel], laidTests := true, laidLooks := .later }
def DictCodesCardSaid : Prop := Claim7.holds Tryd.pinned (.plain (OpenSpec.ofChange dictCodesSpec)) dictCodesCard

/-- THE TIED CARD OF 'tesseraelaw05.DictFinds'. -/
def dictFindsCard : Claim7 := { stood := { row := dictFindsRow, standIns := [], harness := (true, "73adf863fef821ed9e8e798a62d3a2ba9efd4a53100b27f22fdafd0caacbac29"), looks := true }, kinds := [], alts := [], laidByText := true, laidKinds := [.handle, .sentinel, .sentinel], laidTests := true, laidLooks := .later }
def DictFindsCardSaid : Prop := Claim7.holds Tryd.pinned (.plain (OpenSpec.ofChange dictFindsSpec)) dictFindsCard

/-- THE TIED CARD OF 'tesseraelaw05.DictMakes'. -/
def dictMakesCard : Claim7 := { stood := { row := dictMakesRow, standIns := [], harness := (true, "73adf863fef821ed9e8e798a62d3a2ba9efd4a53100b27f22fdafd0caacbac29"), looks := true }, kinds := [], alts := [], laidByText := true, laidKinds := [.handle, .sentinel, .sentinel], laidTests := true, laidLooks := .later }
def DictMakesCardSaid : Prop := Claim7.holds Tryd.pinned (.plain (OpenSpec.ofChange dictMakesSpec)) dictMakesCard

/-- THE TIED CARD OF 'tesseraelaw05.DictBack'. -/
def dictBackCard : Claim7 := { stood := { row := dictBackRow, standIns := [], harness := (true, "73adf863fef821ed9e8e798a62d3a2ba9efd4a53100b27f22fdafd0caacbac29"), looks := true }, kinds := [], alts := [], laidByText := true, laidKinds := [.handle, .sentinel, .sentinel], laidTests := true, laidLooks := .later }
def DictBackCardSaid : Prop := Claim7.holds Tryd.pinned (.plain (OpenSpec.ofChange dictBackSpec)) dictBackCard

/-- THE TIED CARD OF 'tesseraelaw05.DictMany'. -/
def dictManyCard : Claim7 := { stood := { row := dictManyRow, standIns := [], harness := (true, "73adf863fef821ed9e8e798a62d3a2ba9efd4a53100b27f22fdafd0caacbac29"), looks := true }, kinds := [], alts := [], laidByText := true, laidKinds := [.handle, .sentinel, .sentinel], laidTests := true, laidLooks := .later }
def DictManyCardSaid : Prop := Claim7.holds Tryd.pinned (.plain (OpenSpec.ofChange dictManySpec)) dictManyCard

/-- THE TIED CARD OF 'tesseraelaw05.DictRanges'. -/
def dictRangesCard : Claim7 := { stood := { row := dictRangesRow, standIns := [], harness := (true, "73adf863fef821ed9e8e798a62d3a2ba9efd4a53100b27f22fdafd0caacbac29"), looks := true }, kinds := [], alts := [], laidByText := true, laidKinds := [.handle, .sentinel, .sentinel], laidTests := true, laidLooks := .later }
def DictRangesCardSaid : Prop := Claim7.holds Tryd.pinned (.plain (OpenSpec.ofChange dictRangesSpec)) dictRangesCard

/-- THE TIED CARD OF 'tesseraelaw05.DictWords'. -/
def dictWordsCard : Claim7 := { stood := { row := dictWordsRow, standIns := [], harness := (true, "73adf863fef821ed9e8e798a62d3a2ba9efd4a53100b27f22fdafd0caacbac29"), looks := true }, kinds := [], alts := [], laidByText := true, laidKinds := [.handle, .sentinel, .sentinel], laidTests := true, laidLooks := .later }
def DictWordsCardSaid : Prop := Claim7.holds Tryd.pinned (.plain (OpenSpec.ofChange dictWordsSpec)) dictWordsCard

/-- THE SECOND FORM's CARD OF 'tesseraelaw05.DictCodes'. -/
def dictCodesUptoCard : Claim7 := { stood := { row := dictCodesUptoRow, standIns := [], harness := (true, "73adf863fef821ed9e8e798a62d3a2ba9efd4a53100b27f22fdafd0caacbac29"), looks := true }, kinds := [], alts := [], laidByText := true, laidKinds := [.handle, .sentinel, .sentinel], laidTests := true, laidLooks := .later }
def DictCodesUptoCardSaid : Prop := Claim7.holds Tryd.pinned (.plain (OpenSpec.upto dictCodesSpec)) dictCodesUptoCard

/-- THE SECOND FORM's CARD OF 'tesseraelaw05.DictFinds'. -/
def dictFindsUptoCard : Claim7 := { stood := { row := dictFindsUptoRow, standIns := [], harness := (true, "73adf863fef821ed9e8e798a62d3a2ba9efd4a53100b27f22fdafd0caacbac29"), looks := true }, kinds := [], alts := [], laidByText := true, laidKinds := [.handle, .sentinel, .sentinel], laidTests := true, laidLooks := .later }
def DictFindsUptoCardSaid : Prop := Claim7.holds Tryd.pinned (.plain (OpenSpec.upto dictFindsSpec)) dictFindsUptoCard

/-- THE SECOND FORM's CARD OF 'tesseraelaw05.DictMakes'. -/
def dictMakesUptoCard : Claim7 := { stood := { row := dictMakesUptoRow, standIns := [], harness := (true, "73adf863fef821ed9e8e798a62d3a2ba9efd4a53100b27f22fdafd0caacbac29"), looks := true }, kinds := [], alts := [], laidByText := true, laidKinds := [.handle, .sentinel, .sentinel], laidTests := true, laidLooks := .later }
def DictMakesUptoCardSaid : Prop := Claim7.holds Tryd.pinned (.plain (OpenSpec.upto dictMakesSpec)) dictMakesUptoCard

/-- THE SECOND FORM's CARD OF 'tesseraelaw05.DictBack'. -/
def dictBackUptoCard : Claim7 := { stood := { row := dictBackUptoRow, standIns := [], harness := (true, "73adf863fef821ed9e8e798a62d3a2ba9efd4a53100b27f22fdafd0caacbac29"), looks := true }, kinds := [], alts := [], laidByText := true, laidKinds := [.handle, .sentinel, .sentinel], laidTests := true, laidLooks := .later }
def DictBackUptoCardSaid : Prop := Claim7.holds Tryd.pinned (.plain (OpenSpec.upto dictBackSpec)) dictBackUptoCard

/-- THE SECOND FORM's CARD OF 'tesseraelaw05.DictMany'. -/
def dictManyUptoCard : Claim7 := { stood := { row := dictManyUptoRow, standIns := [], harness := (true, "73adf863fef821ed9e8e798a62d3a2ba9efd4a53100b27f22fdafd0caacbac29"), looks := true }, kinds := [], alts := [], laidByText := true, laidKinds := [.handle, .sentinel, .sentinel], laidTests := true, laidLooks := .later }
def DictManyUptoCardSaid : Prop := Claim7.holds Tryd.pinned (.plain (OpenSpec.upto dictManySpec)) dictManyUptoCard

/-- THE SECOND FORM's CARD OF 'tesseraelaw05.DictRanges'. -/
def dictRangesUptoCard : Claim7 := { stood := { row := dictRangesUptoRow, standIns := [], harness := (true, "73adf863fef821ed9e8e798a62d3a2ba9efd4a53100b27f22fdafd0caacbac29"), looks := true }, kinds := [], alts := [], laidByText := true, laidKinds := [.handle, .sentinel, .sentinel], laidTests := true, laidLooks := .later }
def DictRangesUptoCardSaid : Prop := Claim7.holds Tryd.pinned (.plain (OpenSpec.upto dictRangesSpec)) dictRangesUptoCard

/-- THE SECOND FORM's CARD OF 'tesseraelaw05.DictWords'. -/
def dictWordsUptoCard : Claim7 := { stood := { row := dictWordsUptoRow, standIns := [], harness := (true, "73adf863fef821ed9e8e798a62d3a2ba9efd4a53100b27f22fdafd0caacbac29"), looks := true }, kinds := [], alts := [], laidByText := true, laidKinds := [.handle, .sentinel, .sentinel], laidTests := true, laidLooks := .later }
def DictWordsUptoCardSaid : Prop := Claim7.holds Tryd.pinned (.plain (OpenSpec.upto dictWordsSpec)) dictWordsUptoCard
end Rows
end Go.Proofs.YtpbecldgoimkmaaDoor
