/-
  NARROWER THAN 'FOR EVERY INPUT', by the rows' own cells (each row's printed sentence says how): SegmentGrows: laid · SegmentBack: laid · SegmentSchemas: laid · SegmentCodes: laid.
  DERIVED. THE GIVEN ROWS OF THIS SEAT. 4 by the template 'for every input the law returns true; each argument reads behind the call as it read before'; 0 by the template 'total and deterministic' (their statements: YtjdccifdkjnknaaGreatDoorTotals.lean).
  GIVEN WITH THE SEED: the statements are not yours to turn. If you find one false, say at which input.
  Laid BY PROGRAM, IN A SANDBOX (cutbox-rows.mjs): the forced cells as the released guide's own fill.sh prints them over the translation d73a10d873033c9f… (all of the seat's roots in one cut). By AI agents, Wed Nov 11 2026. No macro, syntax, notation, axiom, sorry.
-/
import Derived.Test.YtjdccifdkjnknaaGreatDoorChecked
import GoSem.Claim
import GoSem.ClaimJoined
import GoSem.ClaimMapViews
import Derived.JoinedTies
import Derived.KernelRfl
namespace Go.Proofs.YtjdccifdkjnknaaGreatDoor
/- THE CELL 'sum', in the pinned program and in every row, IS THE sha256 OF THE DUMP (.gsa) THAT YtjdccifdkjnknaaGreatDoorProg.lean LOADS. Nothing in Lean hashes anything: it is a label: what it is worth is what the hold of that sum in a sandbox is worth. -/
noncomputable def Tryz.pinned : Pinned := { name := "ytjdccifdkjnknaagreatdoor", sum := "d73a10d873033c9f674d3a602711da5060c8f10b9e781d0ee3d5f8ad67384027", checked := Tryz.checked }
namespace Rows
def none {H : Type} : Left H := { results := [], args := [] }

/- WHAT THE LISTED PACKAGE-LEVEL VARIABLES READ AS WHEN THE CALL BEGINS. Each datum BY PROGRAM (the guide's laid-datum.mjs) off the statement by which the dump's own 'gosem.cut.vars' lays the variable. In a bare row this is a premise. The card (YtjdccifdkjnknaaGreatDoorCards.lean) ties it to the program's text. -/
def laid_errors_errorType {H : Type} : DataW H := .iface "internal/reflectlite.rtype" (.agg [.ptr (.lit (.string [101, 114, 114, 111, 114]))])
def laid_tesserae_varint_errMore {H : Type} : DataW H := .iface "*errors.errorString" (.ptr (.agg [.lit (.string [109, 111, 114, 101])]))
def laid_tesserae_varint_errNone {H : Type} : DataW H := .iface "*errors.errorString" (.ptr (.agg [.lit (.string [110, 111, 32, 118, 97, 114, 105, 110, 116])]))
def laid_tesserae_segment_errNone {H : Type} : DataW H := .iface "*errors.errorString" (.ptr (.agg [.lit (.string [110, 111, 32, 115, 101, 103, 109, 101, 110, 116])]))

/-- 'tesseraelaw13.SegmentGrows': WHATEVER THE INPUT: true; the input reads as it did. -/
def segmentGrowsSpec : ChangeSpec := { name := "segmentGrows", fn := fun _ => fun
  | [d1, d2, d3] => { results := [.lit (.bool true)], args := [d1, d2, d3] }
  | _ => none }
def segmentGrowsRow : OpenClaim := { program := "ytjdccifdkjnknaagreatdoor", sum := "d73a10d873033c9f674d3a602711da5060c8f10b9e781d0ee3d5f8ad67384027", func := "tesserae/tesseraelaw13.SegmentGrows", spec := "segmentGrows", inPlace := ["internal/bytealg.abigen_runtime_cmpstring", "math/bits.Add64", "internal/abi.NoEscape", "internal/reflectlite.TypeOf", "internal/reflectlite.ValueOf", "(internal/reflectlite.Value).Type", "(internal/reflectlite.Value).IsNil", "(internal/reflectlite.Value).Elem", "(internal/reflectlite.Value).Set"], unfollowed := true, recurses := true, named := ["tesserae/segment.errNone", "tesserae/varint.errNone", "tesserae/varint.errMore", "errors.errorType"], apart := false, laid := [("errors.errorType", laid_errors_errorType), ("tesserae/varint.errMore", laid_tesserae_varint_errMore), ("tesserae/varint.errNone", laid_tesserae_varint_errNone), ("tesserae/segment.errNone", laid_tesserae_segment_errNone)] }
def SegmentGrowsSaid : Prop := segmentGrowsRow.holds Tryz.pinned (OpenSpec.ofChange segmentGrowsSpec)

/-- ITS FALSE NEIGHBOUR: 'it returns false'. Refute it at one input. -/
def segmentGrowsWrong : ChangeSpec := { name := "segmentGrows", fn := fun _ => fun
  | [d1, d2, d3] => { results := [.lit (.bool false)], args := [d1, d2, d3] }
  | _ => none }
def SegmentGrowsWrongFalsely : Prop := segmentGrowsRow.holds Tryz.pinned (OpenSpec.ofChange segmentGrowsWrong)

/-- 'tesseraelaw13.SegmentBack': WHATEVER THE INPUT: true; the input reads as it did. -/
def segmentBackSpec : ChangeSpec := { name := "segmentBack", fn := fun _ => fun
  | [d1, d2, d3] => { results := [.lit (.bool true)], args := [d1, d2, d3] }
  | _ => none }
def segmentBackRow : OpenClaim := { program := "ytjdccifdkjnknaagreatdoor", sum := "d73a10d873033c9f674d3a602711da5060c8f10b9e781d0ee3d5f8ad67384027", func := "tesserae/tesseraelaw13.SegmentBack", spec := "segmentBack", inPlace := ["internal/bytealg.abigen_runtime_cmpstring", "math/bits.Add64", "internal/abi.NoEscape", "internal/reflectlite.TypeOf", "internal/reflectlite.ValueOf", "(internal/reflectlite.Value).Type", "(internal/reflectlite.Value).IsNil", "(internal/reflectlite.Value).Elem", "(internal/reflectlite.Value).Set"], unfollowed := true, recurses := true, named := ["tesserae/segment.errNone", "tesserae/varint.errNone", "tesserae/varint.errMore", "errors.errorType"], apart := false, laid := [("errors.errorType", laid_errors_errorType), ("tesserae/varint.errMore", laid_tesserae_varint_errMore), ("tesserae/varint.errNone", laid_tesserae_varint_errNone), ("tesserae/segment.errNone", laid_tesserae_segment_errNone)] }
def SegmentBackSaid : Prop := segmentBackRow.holds Tryz.pinned (OpenSpec.ofChange segmentBackSpec)

/-- ITS FALSE NEIGHBOUR: 'it returns false'. Refute it at one input. -/
def segmentBackWrong : ChangeSpec := { name := "segmentBack", fn := fun _ => fun
  | [d1, d2, d3] => { results := [.lit (.bool false)], args := [d1, d2, d3] }
  | _ => none }
def SegmentBackWrongFalsely : Prop := segmentBackRow.holds Tryz.pinned (OpenSpec.ofChange segmentBackWrong)

/-- 'tesseraelaw13.SegmentSchemas': WHATEVER THE INPUT: true; the input reads as it did. -/
def segmentSchemasSpec : ChangeSpec := { name := "segmentSchemas", fn := fun _ => fun
  | [d1, d2, d3] => { results := [.lit (.bool true)], args := [d1, d2, d3] }
  | _ => none }
def segmentSchemasRow : OpenClaim := { program := "ytjdccifdkjnknaagreatdoor", sum := "d73a10d873033c9f674d3a602711da5060c8f10b9e781d0ee3d5f8ad67384027", func := "tesserae/tesseraelaw13.SegmentSchemas", spec := "segmentSchemas", inPlace := ["internal/bytealg.abigen_runtime_cmpstring", "math/bits.Add64", "internal/abi.NoEscape", "internal/reflectlite.TypeOf", "internal/reflectlite.ValueOf", "(internal/reflectlite.Value).Type", "(internal/reflectlite.Value).IsNil", "(internal/reflectlite.Value).Elem", "(internal/reflectlite.Value).Set"], unfollowed := true, recurses := true, named := ["tesserae/segment.errNone", "tesserae/varint.errNone", "tesserae/varint.errMore", "errors.errorType"], apart := false, laid := [("errors.errorType", laid_errors_errorType), ("tesserae/varint.errMore", laid_tesserae_varint_errMore), ("tesserae/varint.errNone", laid_tesserae_varint_errNone), ("tesserae/segment.errNone", laid_tesserae_segment_errNone)] }
def SegmentSchemasSaid : Prop := segmentSchemasRow.holds Tryz.pinned (OpenSpec.ofChange segmentSchemasSpec)

/-- ITS FALSE NEIGHBOUR: 'it returns false'. Refute it at one input. -/
def segmentSchemasWrong : ChangeSpec := { name := "segmentSchemas", fn := fun _ => fun
  | [d1, d2, d3] => { results := [.lit (.bool false)], args := [d1, d2, d3] }
  | _ => none }
def SegmentSchemasWrongFalsely : Prop := segmentSchemasRow.holds Tryz.pinned (OpenSpec.ofChange segmentSchemasWrong)

/-- 'tesseraelaw13.SegmentCodes': WHATEVER THE INPUT: true; the input reads as it did. -/
def segmentCodesSpec : ChangeSpec := { name := "segmentCodes", fn := fun _ => fun
  | [d1, d2, d3] => { results := [.lit (.bool true)], args := [d1, d2, d3] }
  | _ => none }
def segmentCodesRow : OpenClaim := { program := "ytjdccifdkjnknaagreatdoor", sum := "d73a10d873033c9f674d3a602711da5060c8f10b9e781d0ee3d5f8ad67384027", func := "tesserae/tesseraelaw13.SegmentCodes", spec := "segmentCodes", inPlace := ["internal/bytealg.abigen_runtime_cmpstring", "math/bits.Add64", "internal/abi.NoEscape", "internal/reflectlite.TypeOf", "internal/reflectlite.ValueOf", "(internal/reflectlite.Value).Type", "(internal/reflectlite.Value).IsNil", "(internal/reflectlite.Value).Elem", "(internal/reflectlite.Value).Set"], unfollowed := true, recurses := true, named := ["tesserae/segment.errNone", "tesserae/varint.errNone", "tesserae/varint.errMore", "errors.errorType"], apart := false, laid := [("errors.errorType", laid_errors_errorType), ("tesserae/varint.errMore", laid_tesserae_varint_errMore), ("tesserae/varint.errNone", laid_tesserae_varint_errNone), ("tesserae/segment.errNone", laid_tesserae_segment_errNone)] }
def SegmentCodesSaid : Prop := segmentCodesRow.holds Tryz.pinned (OpenSpec.ofChange segmentCodesSpec)

/-- ITS FALSE NEIGHBOUR: 'it returns false'. Refute it at one input. -/
def segmentCodesWrong : ChangeSpec := { name := "segmentCodes", fn := fun _ => fun
  | [d1, d2, d3] => { results := [.lit (.bool false)], args := [d1, d2, d3] }
  | _ => none }
def SegmentCodesWrongFalsely : Prop := segmentCodesRow.holds Tryz.pinned (OpenSpec.ofChange segmentCodesWrong)

/- THE SECOND FORM. 'bulk': how many values and letters a reading holds, each counted each time it is reached (what is shared counts as often as it is met; a slice's spare places count too). A statement '..UptoSaid' is the law's where the arguments, and the package variables that the reading takes, are together of bulk at most 1048576: NARROWER than '..Said'. Prove '..Said' where nothing that the law and all that it calls make is longer than what came in: it says more and counts as full. Else prove '..UptoSaid'. A law counts once. -/
mutual
def uptoBulk {H : Type} : DataW H → Nat
  | .lit (.string bytes) => bytes.length + 1
  | .lit _ => 1
  | .nil => 1
  | .ptr d => uptoBulk d + 1
  | .slice elems spare => uptoBulkAll elems + uptoBulkAll spare + 1
  | .agg parts => uptoBulkAll parts + 1
  | .iface _ d => uptoBulk d + 1
  | .map entries => uptoBulkEntries entries + 1
  | .held _ => 1
def uptoBulkAll {H : Type} : List (DataW H) → Nat
  | [] => 0
  | d :: r => uptoBulk d + uptoBulkAll r
def uptoBulkEntries {H : Type} : List (Lit × DataW H) → Nat
  | [] => 0
  | x :: r => uptoBulkEntry x + uptoBulkEntries r
def uptoBulkEntry {H : Type} : Lit × DataW H → Nat
  | (.string bytes, d) => bytes.length + uptoBulk d + 1
  | (_, d) => uptoBulk d + 1
 end
def uptoSmall : (H : Type) → List (DataW H) → Bool := fun _ ds => decide (uptoBulkAll ds ≤ 1048576)
def OpenSpec.upto (s : _root_.Go.ChangeSpec) : _root_.Go.OpenSpec := { _root_.Go.OpenSpec.ofChange s with cond := some uptoSmall }

/-- 'tesseraelaw13.SegmentGrows', WHERE WHAT IT READS IS OF BULK AT MOST 1048576: true; the input reads as it did. -/
def segmentGrowsUptoRow : OpenClaim := { program := "ytjdccifdkjnknaagreatdoor", sum := "d73a10d873033c9f674d3a602711da5060c8f10b9e781d0ee3d5f8ad67384027", func := "tesserae/tesseraelaw13.SegmentGrows", spec := "segmentGrows", inPlace := ["internal/bytealg.abigen_runtime_cmpstring", "math/bits.Add64", "internal/abi.NoEscape", "internal/reflectlite.TypeOf", "internal/reflectlite.ValueOf", "(internal/reflectlite.Value).Type", "(internal/reflectlite.Value).IsNil", "(internal/reflectlite.Value).Elem", "(internal/reflectlite.Value).Set"], unfollowed := true, recurses := true, named := ["tesserae/segment.errNone", "tesserae/varint.errNone", "tesserae/varint.errMore", "errors.errorType"], apart := false, laid := [("errors.errorType", laid_errors_errorType), ("tesserae/varint.errMore", laid_tesserae_varint_errMore), ("tesserae/varint.errNone", laid_tesserae_varint_errNone), ("tesserae/segment.errNone", laid_tesserae_segment_errNone)], narrowed := true }
def SegmentGrowsUptoSaid : Prop := segmentGrowsUptoRow.holds Tryz.pinned (OpenSpec.upto segmentGrowsSpec)

/-- 'tesseraelaw13.SegmentBack', WHERE WHAT IT READS IS OF BULK AT MOST 1048576: true; the input reads as it did. -/
def segmentBackUptoRow : OpenClaim := { program := "ytjdccifdkjnknaagreatdoor", sum := "d73a10d873033c9f674d3a602711da5060c8f10b9e781d0ee3d5f8ad67384027", func := "tesserae/tesseraelaw13.SegmentBack", spec := "segmentBack", inPlace := ["internal/bytealg.abigen_runtime_cmpstring", "math/bits.Add64", "internal/abi.NoEscape", "internal/reflectlite.TypeOf", "internal/reflectlite.ValueOf", "(internal/reflectlite.Value).Type", "(internal/reflectlite.Value).IsNil", "(internal/reflectlite.Value).Elem", "(internal/reflectlite.Value).Set"], unfollowed := true, recurses := true, named := ["tesserae/segment.errNone", "tesserae/varint.errNone", "tesserae/varint.errMore", "errors.errorType"], apart := false, laid := [("errors.errorType", laid_errors_errorType), ("tesserae/varint.errMore", laid_tesserae_varint_errMore), ("tesserae/varint.errNone", laid_tesserae_varint_errNone), ("tesserae/segment.errNone", laid_tesserae_segment_errNone)], narrowed := true }
def SegmentBackUptoSaid : Prop := segmentBackUptoRow.holds Tryz.pinned (OpenSpec.upto segmentBackSpec)

/-- 'tesseraelaw13.SegmentSchemas', WHERE WHAT IT READS IS OF BULK AT MOST 1048576: true; the input reads as it did. -/
def segmentSchemasUptoRow : OpenClaim := { program := "ytjdccifdkjnknaagreatdoor", sum := "d73a10d873033c9f674d3a602711da5060c8f10b9e781d0ee3d5f8ad67384027", func := "tesserae/tesseraelaw13.SegmentSchemas", spec := "segmentSchemas", inPlace := ["internal/bytealg.abigen_runtime_cmpstring", "math/bits.Add64", "internal/abi.NoEscape", "internal/reflectlite.TypeOf", "internal/reflectlite.ValueOf", "(internal/reflectlite.Value).Type", "(internal/reflectlite.Value).IsNil", "(internal/reflectlite.Value).Elem", "(internal/reflectlite.Value).Set"], unfollowed := true, recurses := true, named := ["tesserae/segment.errNone", "tesserae/varint.errNone", "tesserae/varint.errMore", "errors.errorType"], apart := false, laid := [("errors.errorType", laid_errors_errorType), ("tesserae/varint.errMore", laid_tesserae_varint_errMore), ("tesserae/varint.errNone", laid_tesserae_varint_errNone), ("tesserae/segment.errNone", laid_tesserae_segment_errNone)], narrowed := true }
def SegmentSchemasUptoSaid : Prop := segmentSchemasUptoRow.holds Tryz.pinned (OpenSpec.upto segmentSchemasSpec)

/-- 'tesseraelaw13.SegmentCodes', WHERE WHAT IT READS IS OF BULK AT MOST 1048576: true; the input reads as it did. -/
def segmentCodesUptoRow : OpenClaim := { program := "ytjdccifdkjnknaagreatdoor", sum := "d73a10d873033c9f674d3a602711da5060c8f10b9e781d0ee3d5f8ad67384027", func := "tesserae/tesseraelaw13.SegmentCodes", spec := "segmentCodes", inPlace := ["internal/bytealg.abigen_runtime_cmpstring", "math/bits.Add64", "internal/abi.NoEscape", "internal/reflectlite.TypeOf", "internal/reflectlite.ValueOf", "(internal/reflectlite.Value).Type", "(internal/reflectlite.Value).IsNil", "(internal/reflectlite.Value).Elem", "(internal/reflectlite.Value).Set"], unfollowed := true, recurses := true, named := ["tesserae/segment.errNone", "tesserae/varint.errNone", "tesserae/varint.errMore", "errors.errorType"], apart := false, laid := [("errors.errorType", laid_errors_errorType), ("tesserae/varint.errMore", laid_tesserae_varint_errMore), ("tesserae/varint.errNone", laid_tesserae_varint_errNone), ("tesserae/segment.errNone", laid_tesserae_segment_errNone)], narrowed := true }
def SegmentCodesUptoSaid : Prop := segmentCodesUptoRow.holds Tryz.pinned (OpenSpec.upto segmentCodesSpec)

end Rows
end Go.Proofs.YtjdccifdkjnknaaGreatDoor
