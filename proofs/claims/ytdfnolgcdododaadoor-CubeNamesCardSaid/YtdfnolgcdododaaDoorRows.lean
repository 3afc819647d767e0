/-
  NARROWER THAN 'FOR EVERY INPUT', by the rows' own cells (each row's printed sentence says how): FilterTruths: loops, laid · FilterWords: laid · FilterHolds: loops, laid · FilterGrain: loops, laid · FilterParts: laid · CubeAll: loops, laid · CubeNames: loops, laid.
  DERIVED. THE GIVEN ROWS OF THIS SEAT. 7 by the template 'for every input the law returns true; each argument reads behind the call as it read before'; 0 by the template 'total and deterministic' (their statements: YtdfnolgcdododaaDoorTotals.lean).
  GIVEN WITH THE SEED: the statements are not yours to turn. If you find one false, say at which input.
  Laid BY PROGRAM, IN A SANDBOX (cutbox-rows.mjs): the forced cells as the released guide's own fill.sh prints them over the translation 0af8e597d5967a5a… (all of the seat's roots in one cut). By AI agents, Wed Nov 11 2026. No macro, syntax, notation, axiom, sorry.
-/
import Derived.Test.YtdfnolgcdododaaDoorChecked
import GoSem.Claim
import GoSem.ClaimJoined
import GoSem.ClaimMapViews
import Derived.JoinedTies
import Derived.KernelRfl
namespace Go.Proofs.YtdfnolgcdododaaDoor
/- THE CELL 'sum', in the pinned program and in every row, IS THE sha256 OF THE DUMP (.gsa) THAT YtdfnolgcdododaaDoorProg.lean LOADS. Nothing in Lean hashes anything: it is a label: what it is worth is what the hold of that sum in a sandbox is worth. -/
noncomputable def Tryd.pinned : Pinned := { name := "ytdfnolgcdododaadoor", sum := "0af8e597d5967a5aeabf584c602a60f7272dc673212652c07e5efacda5b2d8f5", checked := Tryd.checked }
namespace Rows
def none {H : Type} : Left H := { results := [], args := [] }

/- WHAT THE LISTED PACKAGE-LEVEL VARIABLES READ AS WHEN THE CALL BEGINS. Each datum BY PROGRAM (the guide's laid-datum.mjs) off the statement by which the dump's own 'gosem.cut.vars' lays the variable. In a bare row this is a premise. The card (YtdfnolgcdododaaDoorCards.lean) ties it to the program's text. -/
def laid_tesserae_filter_errNone {H : Type} : DataW H := .iface "*errors.errorString" (.ptr (.agg [.lit (.string [110, 111, 32, 102, 105, 108, 116, 101, 114])]))
def laid_tesserae_filter_errGrain {H : Type} : DataW H := .iface "*errors.errorString" (.ptr (.agg [.lit (.string [116, 111, 111, 32, 102, 105, 110, 101])]))

/-- 'tesseraelaw14.FilterTruths': WHATEVER THE INPUT: true; the input reads as it did. -/
def filterTruthsSpec : ChangeSpec := { name := "filterTruths", fn := fun _ => fun
  | [d1, d2, d3, d4] => { results := [.lit (.bool true)], args := [d1, d2, d3, d4] }
  | _ => none }
def filterTruthsRow : OpenClaim := { program := "ytdfnolgcdododaadoor", sum := "0af8e597d5967a5aeabf584c602a60f7272dc673212652c07e5efacda5b2d8f5", func := "tesserae/tesseraelaw14.FilterTruths", spec := "filterTruths", inPlace := ["internal/reflectlite.TypeOf"], unfollowed := true, recurses := true, named := ["tesserae/filter.errNone", "tesserae/filter.errGrain"], loops := true, apart := false, laid := [("tesserae/filter.errNone", laid_tesserae_filter_errNone), ("tesserae/filter.errGrain", laid_tesserae_filter_errGrain)] }
def FilterTruthsSaid : Prop := filterTruthsRow.holds Tryd.pinned (OpenSpec.ofChange filterTruthsSpec)

/-- ITS FALSE NEIGHBOUR: 'it returns false'. Refute it at one input. -/
def filterTruthsWrong : ChangeSpec := { name := "filterTruths", fn := fun _ => fun
  | [d1, d2, d3, d4] => { results := [.lit (.bool false)], args := [d1, d2, d3, d4] }
  | _ => none }
def FilterTruthsWrongFalsely : Prop := filterTruthsRow.holds Tryd.pinned (OpenSpec.ofChange filterTruthsWrong)

/-- 'tesseraelaw14.FilterWords': WHATEVER THE INPUT: true; the input reads as it did. -/
def filterWordsSpec : ChangeSpec := { name := "filterWords", fn := fun _ => fun
  | [d1, d2, d3, d4] => { results := [.lit (.bool true)], args := [d1, d2, d3, d4] }
  | _ => none }
def filterWordsRow : OpenClaim := { program := "ytdfnolgcdododaadoor", sum := "0af8e597d5967a5aeabf584c602a60f7272dc673212652c07e5efacda5b2d8f5", func := "tesserae/tesseraelaw14.FilterWords", spec := "filterWords", inPlace := ["internal/reflectlite.TypeOf"], unfollowed := true, recurses := true, named := ["tesserae/filter.errNone", "tesserae/filter.errGrain"], apart := false, laid := [("tesserae/filter.errNone", laid_tesserae_filter_errNone), ("tesserae/filter.errGrain", laid_tesserae_filter_errGrain)] }
def FilterWordsSaid : Prop := filterWordsRow.holds Tryd.pinned (OpenSpec.ofChange filterWordsSpec)

/-- ITS FALSE NEIGHBOUR: 'it returns false'. Refute it at one input. -/
def filterWordsWrong : ChangeSpec := { name := "filterWords", fn := fun _ => fun
  | [d1, d2, d3, d4] => { results := [.lit (.bool false)], args := [d1, d2, d3, d4] }
  | _ => none }
def FilterWordsWrongFalsely : Prop := filterWordsRow.holds Tryd.pinned (OpenSpec.ofChange filterWordsWrong)

/-- 'tesseraelaw14.FilterHolds': WHATEVER THE INPUT: true; the input reads as it did. -/
def filterHoldsSpec : ChangeSpec := { name := "filterHolds", fn := fun _ => fun
  | [d1, d2, d3, d4, d5] => { results := [.lit (.bool true)], args := [d1, d2, d3, d4, d5] }
  | _ => none }
def filterHoldsRow : OpenClaim := { program := "ytdfnolgcdododaadoor", sum := "0af8e597d5967a5aeabf584c602a60f7272dc673212652c07e5efacda5b2d8f5", func := "tesserae/tesseraelaw14.FilterHolds", spec := "filterHolds", inPlace := ["internal/reflectlite.TypeOf"], unfollowed := true, recurses := true, named := ["tesserae/filter.errNone", "tesserae/filter.errGrain"], loops := true, apart := false, laid := [("tesserae/filter.errNone", laid_tesserae_filter_errNone), ("tesserae/filter.errGrain", laid_tesserae_filter_errGrain)] }
def FilterHoldsSaid : Prop := filterHoldsRow.holds Tryd.pinned (OpenSpec.ofChange filterHoldsSpec)

/-- ITS FALSE NEIGHBOUR: 'it returns false'. Refute it at one input. -/
def filterHoldsWrong : ChangeSpec := { name := "filterHolds", fn := fun _ => fun
  | [d1, d2, d3, d4, d5] => { results := [.lit (.bool false)], args := [d1, d2, d3, d4, d5] }
  | _ => none }
def FilterHoldsWrongFalsely : Prop := filterHoldsRow.holds Tryd.pinned (OpenSpec.ofChange filterHoldsWrong)

/-- 'tesseraelaw14.FilterGrain': WHATEVER THE INPUT: true; the input reads as it did. -/
def filterGrainSpec : ChangeSpec := { name := "filterGrain", fn := fun _ => fun
  | [d1, d2, d3] => { results := [.lit (.bool true)], args := [d1, d2, d3] }
  | _ => none }
def filterGrainRow : OpenClaim := { program := "ytdfnolgcdododaadoor", sum := "0af8e597d5967a5aeabf584c602a60f7272dc673212652c07e5efacda5b2d8f5", func := "tesserae/tesseraelaw14.FilterGrain", spec := "filterGrain", inPlace := ["internal/reflectlite.TypeOf"], unfollowed := true, recurses := true, named := ["tesserae/filter.errNone", "tesserae/filter.errGrain"], loops := true, apart := false, laid := [("tesserae/filter.errNone", laid_tesserae_filter_errNone), ("tesserae/filter.errGrain", laid_tesserae_filter_errGrain)] }
def FilterGrainSaid : Prop := filterGrainRow.holds Tryd.pinned (OpenSpec.ofChange filterGrainSpec)

/-- ITS FALSE NEIGHBOUR: 'it returns false'. Refute it at one input. -/
def filterGrainWrong : ChangeSpec := { name := "filterGrain", fn := fun _ => fun
  | [d1, d2, d3] => { results := [.lit (.bool false)], args := [d1, d2, d3] }
  | _ => none }
def FilterGrainWrongFalsely : Prop := filterGrainRow.holds Tryd.pinned (OpenSpec.ofChange filterGrainWrong)

/-- 'tesseraelaw14.FilterParts': WHATEVER THE INPUT: true; the input reads as it did. -/
def filterPartsSpec : ChangeSpec := { name := "filterParts", fn := fun _ => fun
  | [d1, d2, d3, d4] => { results := [.lit (.bool true)], args := [d1, d2, d3, d4] }
  | _ => none }
def filterPartsRow : OpenClaim := { program := "ytdfnolgcdododaadoor", sum := "0af8e597d5967a5aeabf584c602a60f7272dc673212652c07e5efacda5b2d8f5", func := "tesserae/tesseraelaw14.FilterParts", spec := "filterParts", inPlace := ["internal/reflectlite.TypeOf"], unfollowed := true, recurses := true, named := ["tesserae/filter.errNone", "tesserae/filter.errGrain"], apart := false, laid := [("tesserae/filter.errNone", laid_tesserae_filter_errNone), ("tesserae/filter.errGrain", laid_tesserae_filter_errGrain)] }
def FilterPartsSaid : Prop := filterPartsRow.holds Tryd.pinned (OpenSpec.ofChange filterPartsSpec)

/-- ITS FALSE NEIGHBOUR: 'it returns false'. Refute it at one input. -/
def filterPartsWrong : ChangeSpec := { name := "filterParts", fn := fun _ => fun
  | [d1, d2, d3, d4] => { results := [.lit (.bool false)], args := [d1, d2, d3, d4] }
  | _ => none }
def FilterPartsWrongFalsely : Prop := filterPartsRow.holds Tryd.pinned (OpenSpec.ofChange filterPartsWrong)

/-- 'tesseraelaw17.CubeAll': WHATEVER THE INPUT: true; the input reads as it did. -/
def cubeAllSpec : ChangeSpec := { name := "cubeAll", fn := fun _ => fun
  | [d1, d2] => { results := [.lit (.bool true)], args := [d1, d2] }
  | _ => none }
def cubeAllRow : OpenClaim := { program := "ytdfnolgcdododaadoor", sum := "0af8e597d5967a5aeabf584c602a60f7272dc673212652c07e5efacda5b2d8f5", func := "tesserae/tesseraelaw17.CubeAll", spec := "cubeAll", inPlace := ["internal/reflectlite.TypeOf"], unfollowed := true, recurses := true, named := ["tesserae/filter.errNone", "tesserae/filter.errGrain"], loops := true, apart := false, laid := [("tesserae/filter.errNone", laid_tesserae_filter_errNone), ("tesserae/filter.errGrain", laid_tesserae_filter_errGrain)] }
def CubeAllSaid : Prop := cubeAllRow.holds Tryd.pinned (OpenSpec.ofChange cubeAllSpec)

/-- ITS FALSE NEIGHBOUR: 'it returns false'. Refute it at one input. -/
def cubeAllWrong : ChangeSpec := { name := "cubeAll", fn := fun _ => fun
  | [d1, d2] => { results := [.lit (.bool false)], args := [d1, d2] }
  | _ => none }
def CubeAllWrongFalsely : Prop := cubeAllRow.holds Tryd.pinned (OpenSpec.ofChange cubeAllWrong)

/-- 'tesseraelaw17.CubeNames': WHATEVER THE INPUT: true; the input reads as it did. -/
def cubeNamesSpec : ChangeSpec := { name := "cubeNames", fn := fun _ => fun
  | [d1, d2, d3] => { results := [.lit (.bool true)], args := [d1, d2, d3] }
  | _ => none }
def cubeNamesRow : OpenClaim := { program := "ytdfnolgcdododaadoor", sum := "0af8e597d5967a5aeabf584c602a60f7272dc673212652c07e5efacda5b2d8f5", func := "tesserae/tesseraelaw17.CubeNames", spec := "cubeNames", inPlace := ["internal/reflectlite.TypeOf"], unfollowed := true, recurses := true, named := ["tesserae/filter.errNone", "tesserae/filter.errGrain"], loops := true, apart := false, laid := [("tesserae/filter.errNone", laid_tesserae_filter_errNone), ("tesserae/filter.errGrain", laid_tesserae_filter_errGrain)] }
def CubeNamesSaid : Prop := cubeNamesRow.holds Tryd.pinned (OpenSpec.ofChange cubeNamesSpec)

/-- ITS FALSE NEIGHBOUR: 'it returns false'. Refute it at one input. -/
def cubeNamesWrong : ChangeSpec := { name := "cubeNames", fn := fun _ => fun
  | [d1, d2, d3] => { results := [.lit (.bool false)], args := [d1, d2, d3] }
  | _ => none }
def CubeNamesWrongFalsely : Prop := cubeNamesRow.holds Tryd.pinned (OpenSpec.ofChange cubeNamesWrong)

/- THE SECOND FORM. 'bulk': how many values and letters a reading holds, each counted each time it is reached (what is shared counts as often as it is met; a slice's spare places count too). A statement '..UptoSaid' is the law's where the arguments, and the package variables that the reading takes, are together of bulk at most 1048576: NARROWER than '..Said'. Prove '..Said' where nothing that the law and all that it calls make is longer than what came in: it says more and counts as full. Else prove '..UptoSaid'. A law counts once. -/
mutual
def uptoBulk {H : Type} : DataW H → Nat
  | .lit (.string bytes) => bytes.length + 1
  | .lit _ => 1
  | .nil => 1
  | .ptr d => uptoBulk d + 1
  | .slice elems spare => uptoBulkAll elems + uptoBulkAll spare + 1
  | .agg parts => uptoBulkAll parts + 1
  | .iface _ d => uptoBulk d + 1
  | .map entries => uptoBulkEntries entries + 1
  | .held _ => 1
def uptoBulkAll {H : Type} : List (DataW H) → Nat
  | [] => 0
  | d :: r => uptoBulk d + uptoBulkAll r
def uptoBulkEntries {H : Type} : List (Lit × DataW H) → Nat
  | [] => 0
  | x :: r => uptoBulkEntry x + uptoBulkEntries r
def uptoBulkEntry {H : Type} : Lit × DataW H → Nat
  | (.string bytes, d) => bytes.length + uptoBulk d + 1
  | (_, d) => uptoBulk d + 1
 end
def uptoSmall : (H : Type) → List (DataW H) → Bool := fun _ ds => decide (uptoBulkAll ds ≤ 1048576)
def OpenSpec.upto (s : _root_.Go.ChangeSpec) : _root_.Go.OpenSpec := { _root_.Go.OpenSpec.ofChange s with cond := some uptoSmall }

/-- 'tesseraelaw14.FilterTruths', WHERE WHAT IT READS IS OF BULK AT MOST 1048576: true; the input reads as it did. -/
def filterTruthsUptoRow : OpenClaim := { program := "ytdfnolgcdododaadoor", sum := "0af8e597d5967a5aeabf584c602a60f7272dc673212652c07e5efacda5b2d8f5", func := "tesserae/tesseraelaw14.FilterTruths", spec := "filterTruths", inPlace := ["internal/reflectlite.TypeOf"], unfollowed := true, recurses := true, named := ["tesserae/filter.errNone", "tesserae/filter.errGrain"], loops := true, apart := false, laid := [("tesserae/filter.errNone", laid_tesserae_filter_errNone), ("tesserae/filter.errGrain", laid_tesserae_filter_errGrain)], narrowed := true }
def FilterTruthsUptoSaid : Prop := filterTruthsUptoRow.holds Tryd.pinned (OpenSpec.upto filterTruthsSpec)

/-- 'tesseraelaw14.FilterWords', WHERE WHAT IT READS IS OF BULK AT MOST 1048576: true; the input reads as it did. -/
def filterWordsUptoRow : OpenClaim := { program := "ytdfnolgcdododaadoor", sum := "0af8e597d5967a5aeabf584c602a60f7272dc673212652c07e5efacda5b2d8f5", func := "tesserae/tesseraelaw14.FilterWords", spec := "filterWords", inPlace := ["internal/reflectlite.TypeOf"], unfollowed := true, recurses := true, named := ["tesserae/filter.errNone", "tesserae/filter.errGrain"], apart := false, laid := [("tesserae/filter.errNone", laid_tesserae_filter_errNone), ("tesserae/filter.errGrain", laid_tesserae_filter_errGrain)], narrowed := true }
def FilterWordsUptoSaid : Prop := filterWordsUptoRow.holds Tryd.pinned (OpenSpec.upto filterWordsSpec)

/-- 'tesseraelaw14.FilterHolds', WHERE WHAT IT READS IS OF BULK AT MOST 1048576: true; the input reads as it did. -/
def filterHoldsUptoRow : OpenClaim := { program := "ytdfnolgcdododaadoor", sum := "0af8e597d5967a5aeabf584c602a60f7272dc673212652c07e5efacda5b2d8f5", func := "tesserae/tesseraelaw14.FilterHolds", spec := "filterHolds", inPlace := ["internal/reflectlite.TypeOf"], unfollowed := true, recurses := true, named := ["tesserae/filter.errNone", "tesserae/filter.errGrain"], loops := true, apart := false, laid := [("tesserae/filter.errNone", laid_tesserae_filter_errNone), ("tesserae/filter.errGrain", laid_tesserae_filter_errGrain)], narrowed := true }
def FilterHoldsUptoSaid : Prop := filterHoldsUptoRow.holds Tryd.pinned (OpenSpec.upto filterHoldsSpec)

/-- 'tesseraelaw14.FilterGrain', WHERE WHAT IT READS IS OF BULK AT MOST 1048576: true; the input reads as it did. -/
def filterGrainUptoRow : OpenClaim := { program := "ytdfnolgcdododaadoor", sum := "0af8e597d5967a5aeabf584c602a60f7272dc673212652c07e5efacda5b2d8f5", func := "tesserae/tesseraelaw14.FilterGrain", spec := "filterGrain", inPlace := ["internal/reflectlite.TypeOf"], unfollowed := true, recurses := true, named := ["tesserae/filter.errNone", "tesserae/filter.errGrain"], loops := true, apart := false, laid := [("tesserae/filter.errNone", laid_tesserae_filter_errNone), ("tesserae/filter.errGrain", laid_tesserae_filter_errGrain)], narrowed := true }
def FilterGrainUptoSaid : Prop := filterGrainUptoRow.holds Tryd.pinned (OpenSpec.upto filterGrainSpec)

/-- 'tesseraelaw14.FilterParts', WHERE WHAT IT READS IS OF BULK AT MOST 1048576: true; the input reads as it did. -/
def filterPartsUptoRow : OpenClaim := { program := "ytdfnolgcdododaadoor", sum := "0af8e597d5967a5aeabf584c602a60f7272dc673212652c07e5efacda5b2d8f5", func := "tesserae/tesseraelaw14.FilterParts", spec := "filterParts", inPlace := ["internal/reflectlite.TypeOf"], unfollowed := true, recurses := true, named := ["tesserae/filter.errNone", "tesserae/filter.errGrain"], apart := false, laid := [("tesserae/filter.errNone", laid_tesserae_filter_errNone), ("tesserae/filter.errGrain", laid_tesserae_filter_errGrain)], narrowed := true }
def FilterPartsUptoSaid : Prop := filterPartsUptoRow.holds Tryd.pinned (OpenSpec.upto filterPartsSpec)

/-- 'tesseraelaw17.CubeAll', WHERE WHAT IT READS IS OF BULK AT MOST 1048576: true; the input reads as it did. -/
def cubeAllUptoRow : OpenClaim := { program := "ytdfnolgcdododaadoor", sum := "0af8e597d5967a5aeabf584c602a60f7272dc673212652c07e5efacda5b2d8f5", func := "tesserae/tesseraelaw17.CubeAll", spec := "cubeAll", inPlace := ["internal/reflectlite.TypeOf"], unfollowed := true, recurses := true, named := ["tesserae/filter.errNone", "tesserae/filter.errGrain"], loops := true, apart := false, laid := [("tesserae/filter.errNone", laid_tesserae_filter_errNone), ("tesserae/filter.errGrain", laid_tesserae_filter_errGrain)], narrowed := true }
def CubeAllUptoSaid : Prop := cubeAllUptoRow.holds Tryd.pinned (OpenSpec.upto cubeAllSpec)

/-- 'tesseraelaw17.CubeNames', WHERE WHAT IT READS IS OF BULK AT MOST 1048576: true; the input reads as it did. -/
def cubeNamesUptoRow : OpenClaim := { program := "ytdfnolgcdododaadoor", sum := "0af8e597d5967a5aeabf584c602a60f7272dc673212652c07e5efacda5b2d8f5", func := "tesserae/tesseraelaw17.CubeNames", spec := "cubeNames", inPlace := ["internal/reflectlite.TypeOf"], unfollowed := true, recurses := true, named := ["tesserae/filter.errNone", "tesserae/filter.errGrain"], loops := true, apart := false, laid := [("tesserae/filter.errNone", laid_tesserae_filter_errNone), ("tesserae/filter.errGrain", laid_tesserae_filter_errGrain)], narrowed := true }
def CubeNamesUptoSaid : Prop := cubeNamesUptoRow.holds Tryd.pinned (OpenSpec.upto cubeNamesSpec)

end Rows
end Go.Proofs.YtdfnolgcdododaaDoor
