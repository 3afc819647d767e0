/-
  NARROWER THAN 'FOR EVERY INPUT', by the rows' own cells (each row's printed sentence says how): DictCodes: laid · DictFinds: laid · DictMakes: laid · DictBack: laid · DictMany: laid · DictRanges: laid · DictWords: laid.
  DERIVED. THE GIVEN ROWS OF THIS SEAT. 7 by the template 'for every input the law returns true; each argument reads behind the call as it read before'; 0 by the template 'total and deterministic' (their statements: YtpbecldgoimkmaaDoorTotals.lean).
  GIVEN WITH THE SEED: the statements are not yours to turn. If you find one false, say at which input.
  Laid BY PROGRAM, IN A SANDBOX (cutbox-rows.mjs): the forced cells as the released guide's own fill.sh prints them over the translation 8d50851c2d3f8792… (all of the seat's roots in one cut). By AI agents, Wed Nov 11 2026. No macro, syntax, notation, axiom, sorry.
-/
import Derived.Test.YtpbecldgoimkmaaDoorChecked
import GoSem.Claim
import GoSem.ClaimJoined
import GoSem.ClaimMapViews
import Derived.JoinedTies
import Derived.KernelRfl
namespace Go.Proofs.YtpbecldgoimkmaaDoor
/- THE CELL 'sum', in the pinned program and in every row, IS THE sha256 OF THE DUMP (.gsa) THAT YtpbecldgoimkmaaDoorProg.lean LOADS. Nothing in Lean hashes anything: it is a label: what it is worth is what the hold of that sum in a sandbox is worth. -/
noncomputable def Tryd.pinned : Pinned := { name := "ytpbecldgoimkmaadoor", sum := "8d50851c2d3f87921676d21e44ec716dfe9a58131b8ac38b446ed334f000f8fa", checked := Tryd.checked }
namespace Rows
def none {H : Type} : Left H := { results := [], args := [] }

/- WHAT THE LISTED PACKAGE-LEVEL VARIABLES READ AS WHEN THE CALL BEGINS. Each datum BY PROGRAM (the guide's laid-datum.mjs) off the statement by which the dump's own 'gosem.cut.vars' lays the variable. In a bare row this is a premise. The card (YtpbecldgoimkmaaDoorCards.lean) ties it to the program's text. -/
def laid_errors_errorType {H : Type} : DataW H := .iface "internal/reflectlite.rtype" (.agg [.ptr (.lit (.string [101, 114, 114, 111, 114]))])
def laid_tesserae_varint_errMore {H : Type} : DataW H := .iface "*errors.errorString" (.ptr (.agg [.lit (.string [109, 111, 114, 101])]))
def laid_tesserae_varint_errNone {H : Type} : DataW H := .iface "*errors.errorString" (.ptr (.agg [.lit (.string [110, 111, 32, 118, 97, 114, 105, 110, 116])]))

/-- 'tesseraelaw05.DictCodes': WHATEVER THE INPUT: true; the input reads as it did. -/
def dictCodesSpec : ChangeSpec := { name := "dictCodes", fn := fun _ => fun
  | [d1, d2] => { results := [.lit (.bool true)], args := [d1, d2] }
  | _ => none }
def dictCodesRow : OpenClaim := { program := "ytpbecldgoimkmaadoor", sum := "8d50851c2d3f87921676d21e44ec716dfe9a58131b8ac38b446ed334f000f8fa", func := "tesserae/tesseraelaw05.DictCodes", spec := "dictCodes", inPlace := ["internal/abi.NoEscape", "internal/reflectlite.TypeOf", "internal/reflectlite.ValueOf", "(internal/reflectlite.Value).Type", "(internal/reflectlite.Value).IsNil", "(internal/reflectlite.Value).Elem", "(internal/reflectlite.Value).Set"], unfollowed := true, recurses := true, named := ["tesserae/varint.errMore", "tesserae/varint.errNone", "errors.errorType"], apart := false, laid := [("errors.errorType", laid_errors_errorType), ("tesserae/varint.errMore", laid_tesserae_varint_errMore), ("tesserae/varint.errNone", laid_tesserae_varint_errNone)] }
def DictCodesSaid : Prop := dictCodesRow.holds Tryd.pinned (OpenSpec.ofChange dictCodesSpec)

/-- ITS FALSE NEIGHBOUR: 'it returns false'. Refute it at one input. -/
def dictCodesWrong : ChangeSpec := { name := "dictCodes", fn := fun _ => fun
  | [d1, d2] => { results := [.lit (.bool false)], args := [d1, d2] }
  | _ => none }
def DictCodesWrongFalsely : Prop := dictCodesRow.holds Tryd.pinned (OpenSpec.ofChange dictCodesWrong)

/-- 'tesseraelaw05.DictFinds': WHATEVER THE INPUT: true; the input reads as it did. -/
def dictFindsSpec : ChangeSpec := { name := "dictFinds", fn := fun _ => fun
  | [d1, d2, d3, d4] => { results := [.lit (.bool true)], args := [d1, d2, d3, d4] }
  | _ => none }
def dictFindsRow : OpenClaim := { program := "ytpbecldgoimkmaadoor", sum := "8d50851c2d3f87921676d21e44ec716dfe9a58131b8ac38b446ed334f000f8fa", func := "tesserae/tesseraelaw05.DictFinds", spec := "dictFinds", inPlace := ["internal/abi.NoEscape", "internal/reflectlite.TypeOf", "internal/reflectlite.ValueOf", "(internal/reflectlite.Value).Type", "(internal/reflectlite.Value).IsNil", "(internal/reflectlite.Value).Elem", "(internal/reflectlite.Value).Set"], unfollowed := true, recurses := true, named := ["tesserae/varint.errMore", "tesserae/varint.errNone", "errors.errorType"], apart := false, laid := [("errors.errorType", laid_errors_errorType), ("tesserae/varint.errMore", laid_tesserae_varint_errMore), ("tesserae/varint.errNone", laid_tesserae_varint_errNone)] }
def DictFindsSaid : Prop := dictFindsRow.holds Tryd.pinned (OpenSpec.ofChange dictFindsSpec)

/-- ITS FALSE NEIGHBOUR: 'it returns false'. Refute it at one input. -/
def dictFindsWrong : ChangeSpec := { name := "dictFinds", fn := fun _ => fun
  | [d1, d2, d3, d4] => { results := [.lit (.bool false)], args := [d1, d2, d3, d4] }
  | _ => none }
def DictFindsWrongFalsely : Prop := dictFindsRow.holds Tryd.pinned (OpenSpec.ofChange dictFindsWrong)

/-- 'tesseraelaw05.DictMakes': WHATEVER THE INPUT: true; the input reads as it did. -/
def dictMakesSpec : ChangeSpec := { name := "dictMakes", fn := fun _ => fun
  | [d] => { results := [.lit (.bool true)], args := [d] }
  | _ => none }
def dictMakesRow : OpenClaim := { program := "ytpbecldgoimkmaadoor", sum := "8d50851c2d3f87921676d21e44ec716dfe9a58131b8ac38b446ed334f000f8fa", func := "tesserae/tesseraelaw05.DictMakes", spec := "dictMakes", inPlace := ["internal/abi.NoEscape", "internal/reflectlite.TypeOf", "internal/reflectlite.ValueOf", "(internal/reflectlite.Value).Type", "(internal/reflectlite.Value).IsNil", "(internal/reflectlite.Value).Elem", "(internal/reflectlite.Value).Set"], unfollowed := true, recurses := true, named := ["tesserae/varint.errMore", "tesserae/varint.errNone", "errors.errorType"], apart := false, laid := [("errors.errorType", laid_errors_errorType), ("tesserae/varint.errMore", laid_tesserae_varint_errMore), ("tesserae/varint.errNone", laid_tesserae_varint_errNone)] }
def DictMakesSaid : Prop := dictMakesRow.holds Tryd.pinned (OpenSpec.ofChange dictMakesSpec)

/-- ITS FALSE NEIGHBOUR: 'it returns false'. Refute it at one input. -/
def dictMakesWrong : ChangeSpec := { name := "dictMakes", fn := fun _ => fun
  | [d] => { results := [.lit (.bool false)], args := [d] }
  | _ => none }
def DictMakesWrongFalsely : Prop := dictMakesRow.holds Tryd.pinned (OpenSpec.ofChange dictMakesWrong)

/-- 'tesseraelaw05.DictBack': WHATEVER THE INPUT: true; the input reads as it did. -/
def dictBackSpec : ChangeSpec := { name := "dictBack", fn := fun _ => fun
  | [d1, d2] => { results := [.lit (.bool true)], args := [d1, d2] }
  | _ => none }
def dictBackRow : OpenClaim := { program := "ytpbecldgoimkmaadoor", sum := "8d50851c2d3f87921676d21e44ec716dfe9a58131b8ac38b446ed334f000f8fa", func := "tesserae/tesseraelaw05.DictBack", spec := "dictBack", inPlace := ["internal/abi.NoEscape", "internal/reflectlite.TypeOf", "internal/reflectlite.ValueOf", "(internal/reflectlite.Value).Type", "(internal/reflectlite.Value).IsNil", "(internal/reflectlite.Value).Elem", "(internal/reflectlite.Value).Set"], unfollowed := true, recurses := true, named := ["tesserae/varint.errMore", "tesserae/varint.errNone", "errors.errorType"], apart := false, laid := [("errors.errorType", laid_errors_errorType), ("tesserae/varint.errMore", laid_tesserae_varint_errMore), ("tesserae/varint.errNone", laid_tesserae_varint_errNone)] }
def DictBackSaid : Prop := dictBackRow.holds Tryd.pinned (OpenSpec.ofChange dictBackSpec)

/-- ITS FALSE NEIGHBOUR: 'it returns false'. Refute it at one input. -/
def dictBackWrong : ChangeSpec := { name := "dictBack", fn := fun _ => fun
  | [d1, d2] => { results := [.lit (.bool false)], args := [d1, d2] }
  | _ => none }
def DictBackWrongFalsely : Prop := dictBackRow.holds Tryd.pinned (OpenSpec.ofChange dictBackWrong)

/-- 'tesseraelaw05.DictMany': WHATEVER THE INPUT: true; the input reads as it did. -/
def dictManySpec : ChangeSpec := { name := "dictMany", fn := fun _ => fun
  | [d1, d2] => { results := [.lit (.bool true)], args := [d1, d2] }
  | _ => none }
def dictManyRow : OpenClaim := { program := "ytpbecldgoimkmaadoor", sum := "8d50851c2d3f87921676d21e44ec716dfe9a58131b8ac38b446ed334f000f8fa", func := "tesserae/tesseraelaw05.DictMany", spec := "dictMany", inPlace := ["internal/abi.NoEscape", "internal/reflectlite.TypeOf", "internal/reflectlite.ValueOf", "(internal/reflectlite.Value).Type", "(internal/reflectlite.Value).IsNil", "(internal/reflectlite.Value).Elem", "(internal/reflectlite.Value).Set"], unfollowed := true, recurses := true, named := ["tesserae/varint.errMore", "tesserae/varint.errNone", "errors.errorType"], apart := false, laid := [("errors.errorType", laid_errors_errorType), ("tesserae/varint.errMore", laid_tesserae_varint_errMore), ("tesserae/varint.errNone", laid_tesserae_varint_errNone)] }
def DictManySaid : Prop := dictManyRow.holds Tryd.pinned (OpenSpec.ofChange dictManySpec)

/-- ITS FALSE NEIGHBOUR: 'it returns false'. Refute it at one input. -/
def dictManyWrong : ChangeSpec := { name := "dictMany", fn := fun _ => fun
  | [d1, d2] => { results := [.lit (.bool false)], args := [d1, d2] }
  | _ => none }
def DictManyWrongFalsely : Prop := dictManyRow.holds Tryd.pinned (OpenSpec.ofChange dictManyWrong)

/-- 'tesseraelaw05.DictRanges': WHATEVER THE INPUT: true; the input reads as it did. -/
def dictRangesSpec : ChangeSpec := { name := "dictRanges", fn := fun _ => fun
  | [d1, d2, d3] => { results := [.lit (.bool true)], args := [d1, d2, d3] }
  | _ => none }
def dictRangesRow : OpenClaim := { program := "ytpbecldgoimkmaadoor", sum := "8d50851c2d3f87921676d21e44ec716dfe9a58131b8ac38b446ed334f000f8fa", func := "tesserae/tesseraelaw05.DictRanges", spec := "dictRanges", inPlace := ["internal/abi.NoEscape", "internal/reflectlite.TypeOf", "internal/reflectlite.ValueOf", "(internal/reflectlite.Value).Type", "(internal/reflectlite.Value).IsNil", "(internal/reflectlite.Value).Elem", "(internal/reflectlite.Value).Set"], unfollowed := true, recurses := true, named := ["tesserae/varint.errMore", "tesserae/varint.errNone", "errors.errorType"], apart := false, laid := [("errors.errorType", laid_errors_errorType), ("tesserae/varint.errMore", laid_tesserae_varint_errMore), ("tesserae/varint.errNone", laid_tesserae_varint_errNone)] }
def DictRangesSaid : Prop := dictRangesRow.holds Tryd.pinned (OpenSpec.ofChange dictRangesSpec)

/-- ITS FALSE NEIGHBOUR: 'it returns false'. Refute it at one input. -/
def dictRangesWrong : ChangeSpec := { name := "dictRanges", fn := fun _ => fun
  | [d1, d2, d3] => { results := [.lit (.bool false)], args := [d1, d2, d3] }
  | _ => none }
def DictRangesWrongFalsely : Prop := dictRangesRow.holds Tryd.pinned (OpenSpec.ofChange dictRangesWrong)

/-- 'tesseraelaw05.DictWords': WHATEVER THE INPUT: true; the input reads as it did. -/
def dictWordsSpec : ChangeSpec := { name := "dictWords", fn := fun _ => fun
  | [d1, d2] => { results := [.lit (.bool true)], args := [d1, d2] }
  | _ => none }
def dictWordsRow : OpenClaim := { program := "ytpbecldgoimkmaadoor", sum := "8d50851c2d3f87921676d21e44ec716dfe9a58131b8ac38b446ed334f000f8fa", func := "tesserae/tesseraelaw05.DictWords", spec := "dictWords", inPlace := ["internal/abi.NoEscape", "internal/reflectlite.TypeOf", "internal/reflectlite.ValueOf", "(internal/reflectlite.Value).Type", "(internal/reflectlite.Value).IsNil", "(internal/reflectlite.Value).Elem", "(internal/reflectlite.Value).Set"], unfollowed := true, recurses := true, named := ["tesserae/varint.errMore", "tesserae/varint.errNone", "errors.errorType"], apart := false, laid := [("errors.errorType", laid_errors_errorType), ("tesserae/varint.errMore", laid_tesserae_varint_errMore), ("tesserae/varint.errNone", laid_tesserae_varint_errNone)] }
def DictWordsSaid : Prop := dictWordsRow.holds Tryd.pinned (OpenSpec.ofChange dictWordsSpec)

/-- ITS FALSE NEIGHBOUR: 'it returns false'. Refute it at one input. -/
def dictWordsWrong : ChangeSpec := { name := "dictWords", fn := fun _ => fun
  | [d1, d2] => { results := [.lit (.bool false)], args := [d1, d2] }
  | _ => none }
def DictWordsWrongFalsely : Prop := dictWordsRow.holds Tryd.pinned (OpenSpec.ofChange dictWordsWrong)

/- THE SECOND FORM. 'bulk': how many values and letters a reading holds, each counted each time it is reached (what is shared counts as often as it is met; a slice's spare places count too). A statement '..UptoSaid' is the law's where the arguments, and the package variables that the reading takes, are together of bulk at most 1048576: NARROWER than '..Said'. Prove '..Said' where nothing that the law and all that it calls make is longer than what came in: it says more and counts as full. Else prove '..UptoSaid'. A law counts once. -/
mutual
def uptoBulk {H : Type} : DataW H → Nat
  | .lit (.string bytes) => bytes.length + 1
  | .lit _ => 1
  | .nil => 1
  | .ptr d => uptoBulk d + 1
  | .slice elems spare => uptoBulkAll elems + uptoBulkAll spare + 1
  | .agg parts => uptoBulkAll parts + 1
  | .iface _ d => uptoBulk d + 1
  | .map entries => uptoBulkEntries entries + 1
  | .held _ => 1
def uptoBulkAll {H : Type} : List (DataW H) → Nat
  | [] => 0
  | d :: r => uptoBulk d + uptoBulkAll r
def uptoBulkEntries {H : Type} : List (Lit × DataW H) → Nat
  | [] => 0
  | x :: r => uptoBulkEntry x + uptoBulkEntries r
def uptoBulkEntry {H : Type} : Lit × DataW H → Nat
  | (.string bytes, d) => bytes.length + uptoBulk d + 1
  | (_, d) => uptoBulk d + 1
 end
def uptoSmall : (H : Type) → List (DataW H) → Bool := fun _ ds => decide (uptoBulkAll ds ≤ 1048576)
def OpenSpec.upto (s : _root_.Go.ChangeSpec) : _root_.Go.OpenSpec := { _root_.Go.OpenSpec.ofChange s with cond := some uptoSmall }

/-- 'tesseraelaw05.DictCodes', WHERE WHAT IT READS IS OF BULK AT MOST 1048576: true; the input reads as it did. -/
def dictCodesUptoRow : OpenClaim := { program := "ytpbecldgoimkmaadoor", sum := "8d50851c2d3f87921676d21e44ec716dfe9a58131b8ac38b446ed334f000f8fa", func := "tesserae/tesseraelaw05.DictCodes", spec := "dictCodes", inPlace := ["internal/abi.NoEscape", "internal/reflectlite.TypeOf", "internal/reflectlite.ValueOf", "(internal/reflectlite.Value).Type", "(internal/reflectlite.Value).IsNil", "(internal/reflectlite.Value).Elem", "(internal/reflectlite.Value).Set"], unfollowed := true, recurses := true, named := ["tesserae/varint.errMore", "tesserae/varint.errNone", "errors.errorType"], apart := false, laid := [("errors.errorType", laid_errors_errorType), ("tesserae/varint.errMore", laid_tesserae_varint_errMore), ("tesserae/varint.errNone", laid_tesserae_varint_errNone)], narrowed := true }
def DictCodesUptoSaid : Prop := dictCodesUptoRow.holds Tryd.pinned (OpenSpec.upto dictCodesSpec)

/-- 'tesseraelaw05.DictFinds', WHERE WHAT IT READS IS OF BULK AT MOST 1048576: true; the input reads as it did. -/
def dictFindsUptoRow : OpenClaim := { program := "ytpbecldgoimkmaadoor", sum := "8d50851c2d3f87921676d21e44ec716dfe9a58131b8ac38b446ed334f000f8fa", func := "tesserae/tesseraelaw05.DictFinds", spec := "dictFinds", inPlace := ["internal/abi.NoEscape", "internal/reflectlite.TypeOf", "internal/reflectlite.ValueOf", "(internal/reflectlite.Value).Type", "(internal/reflectlite.Value).IsNil", "(internal/reflectlite.Value).Elem", "(internal/reflectlite.Value).Set"], unfollowed := true, recurses := true, named := ["tesserae/varint.errMore", "tesserae/varint.errNone", "errors.errorType"], apart := false, laid := [("errors.errorType", laid_errors_errorType), ("tesserae/varint.errMore", laid_tesserae_varint_errMore), ("tesserae/varint.errNone", laid_tesserae_varint_errNone)], narrowed := true }
def DictFindsUptoSaid : Prop := dictFindsUptoRow.holds Tryd.pinned (OpenSpec.upto dictFindsSpec)

/-- 'tesseraelaw05.DictMakes', WHERE WHAT IT READS IS OF BULK AT MOST 1048576: true; the input reads as it did. -/
def dictMakesUptoRow : OpenClaim := { program := "ytpbecldgoimkmaadoor", sum := "8d50851c2d3f87921676d21e44ec716dfe9a58131b8ac38b446ed334f000f8fa", func := "tesserae/tesseraelaw05.DictMakes", spec := "dictMakes", inPlace := ["internal/abi.NoEscape", "internal/reflectlite.TypeOf", "internal/reflectlite.ValueOf", "(internal/reflectlite.Value).Type", "(internal/reflectlite.Value).IsNil", "(internal/reflectlite.Value).Elem", "(internal/reflectlite.Value).Set"], unfollowed := true, recurses := true, named := ["tesserae/varint.errMore", "tesserae/varint.errNone", "errors.errorType"], apart := false, laid := [("errors.errorType", laid_errors_errorType), ("tesserae/varint.errMore", laid_tesserae_varint_errMore), ("tesserae/varint.errNone", laid_tesserae_varint_errNone)], narrowed := true }
def DictMakesUptoSaid : Prop := dictMakesUptoRow.holds Tryd.pinned (OpenSpec.upto dictMakesSpec)

/-- 'tesseraelaw05.DictBack', WHERE WHAT IT READS IS OF BULK AT MOST 1048576: true; the input reads as it did. -/
def dictBackUptoRow : OpenClaim := { program := "ytpbecldgoimkmaadoor", sum := "8d50851c2d3f87921676d21e44ec716dfe9a58131b8ac38b446ed334f000f8fa", func := "tesserae/tesseraelaw05.DictBack", spec := "dictBack", inPlace := ["internal/abi.NoEscape", "internal/reflectlite.TypeOf", "internal/reflectlite.ValueOf", "(internal/reflectlite.Value).Type", "(internal/reflectlite.Value).IsNil", "(internal/reflectlite.Value).Elem", "(internal/reflectlite.Value).Set"], unfollowed := true, recurses := true, named := ["tesserae/varint.errMore", "tesserae/varint.errNone", "errors.errorType"], apart := false, laid := [("errors.errorType", laid_errors_errorType), ("tesserae/varint.errMore", laid_tesserae_varint_errMore), ("tesserae/varint.errNone", laid_tesserae_varint_errNone)], narrowed := true }
def DictBackUptoSaid : Prop := dictBackUptoRow.holds Tryd.pinned (OpenSpec.upto dictBackSpec)

/-- 'tesseraelaw05.DictMany', WHERE WHAT IT READS IS OF BULK AT MOST 1048576: true; the input reads as it did. -/
def dictManyUptoRow : OpenClaim := { program := "ytpbecldgoimkmaadoor", sum := "8d50851c2d3f87921676d21e44ec716dfe9a58131b8ac38b446ed334f000f8fa", func := "tesserae/tesseraelaw05.DictMany", spec := "dictMany", inPlace := ["internal/abi.NoEscape", "internal/reflectlite.TypeOf", "internal/reflectlite.ValueOf", "(internal/reflectlite.Value).Type", "(internal/reflectlite.Value).IsNil", "(internal/reflectlite.Value).Elem", "(internal/reflectlite.Value).Set"], unfollowed := true, recurses := true, named := ["tesserae/varint.errMore", "tesserae/varint.errNone", "errors.errorType"], apart := false, laid := [("errors.errorType", laid_errors_errorType), ("tesserae/varint.errMore", laid_tesserae_varint_errMore), ("tesserae/varint.errNone", laid_tesserae_varint_errNone)], narrowed := true }
def DictManyUptoSaid : Prop := dictManyUptoRow.holds Tryd.pinned (OpenSpec.upto dictManySpec)

/-- 'tesseraelaw05.DictRanges', WHERE WHAT IT READS IS OF BULK AT MOST 1048576: true; the input reads as it did. -/
def dictRangesUptoRow : OpenClaim := { program := "ytpbecldgoimkmaadoor", sum := "8d50851c2d3f87921676d21e44ec716dfe9a58131b8ac38b446ed334f000f8fa", func := "tesserae/tesseraelaw05.DictRanges", spec := "dictRanges", inPlace := ["internal/abi.NoEscape", "internal/reflectlite.TypeOf", "internal/reflectlite.ValueOf", "(internal/reflectlite.Value).Type", "(internal/reflectlite.Value).IsNil", "(internal/reflectlite.Value).Elem", "(internal/reflectlite.Value).Set"], unfollowed := true, recurses := true, named := ["tesserae/varint.errMore", "tesserae/varint.errNone", "errors.errorType"], apart := false, laid := [("errors.errorType", laid_errors_errorType), ("tesserae/varint.errMore", laid_tesserae_varint_errMore), ("tesserae/varint.errNone", laid_tesserae_varint_errNone)], narrowed := true }
def DictRangesUptoSaid : Prop := dictRangesUptoRow.holds Tryd.pinned (OpenSpec.upto dictRangesSpec)

/-- 'tesseraelaw05.DictWords', WHERE WHAT IT READS IS OF BULK AT MOST 1048576: true; the input reads as it did. -/
def dictWordsUptoRow : OpenClaim := { program := "ytpbecldgoimkmaadoor", sum := "8d50851c2d3f87921676d21e44ec716dfe9a58131b8ac38b446ed334f000f8fa", func := "tesserae/tesseraelaw05.DictWords", spec := "dictWords", inPlace := ["internal/abi.NoEscape", "internal/reflectlite.TypeOf", "internal/reflectlite.ValueOf", "(internal/reflectlite.Value).Type", "(internal/reflectlite.Value).IsNil", "(internal/reflectlite.Value).Elem", "(internal/reflectlite.Value).Set"], unfollowed := true, recurses := true, named := ["tesserae/varint.errMore", "tesserae/varint.errNone", "errors.errorType"], apart := false, laid := [("errors.errorType", laid_errors_errorType), ("tesserae/varint.errMore", laid_tesserae_varint_errMore), ("tesserae/varint.errNone", laid_tesserae_varint_errNone)], narrowed := true }
def DictWordsUptoSaid : Prop := dictWordsUptoRow.holds Tryd.pinned (OpenSpec.upto dictWordsSpec)

end Rows
end Go.Proofs.YtpbecldgoimkmaaDoor
