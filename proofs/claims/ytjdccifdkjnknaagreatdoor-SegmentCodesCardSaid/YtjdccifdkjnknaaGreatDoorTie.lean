/-
  DERIVED. GIVEN WITH THE SEED: THE PROGRAM's TIES (one call each: nine closed facts by the kernel) AND EACH ROW's TIE, after the 31st guide's Derived/Test/Toyas{Tie, Card}.lean. No idea stands in it: it is a product of the set-up. Laid BY PROGRAM, IN A SANDBOX (cutbox-door.mjs). By AI agents, Wed Nov 11 2026. No macro, syntax, notation, axiom, sorry.
-/
import Derived.Test.YtjdccifdkjnknaaGreatDoorRows
import Derived.LaidByTextLater
import Derived.SevenTiedAt
import Derived.LaidSub
import Derived.LaidOnce
namespace Go.Proofs.YtjdccifdkjnknaaGreatDoor
open Go
set_option maxRecDepth 100000
theorem seatTie1 : Tryz.prog.laidByTextLater [("errors.errorType", Rows.laid_errors_errorType), ("tesserae/varint.errMore", Rows.laid_tesserae_varint_errMore), ("tesserae/varint.errNone", Rows.laid_tesserae_varint_errNone), ("tesserae/segment.errNone", Rows.laid_tesserae_segment_errNone)] [.handle, .sentinel, .sentinel, .sentinel] true :=
  Program.laidByTextLater_by_one 73 8 2 (by kernel_rfl) (by kernel_rfl) (by kernel_rfl) (by kernel_rfl) (by kernel_rfl) (by kernel_rfl) (fun _ _ => by kernel_rfl)
theorem noOwnUnsafe : Tryz.pinned.checked.prog.headLifts.contains "ownunsafe" = false := by kernel_rfl
theorem tie : Tryz.prog.laidByTextLater [("errors.errorType", Rows.laid_errors_errorType), ("tesserae/varint.errMore", Rows.laid_tesserae_varint_errMore), ("tesserae/varint.errNone", Rows.laid_tesserae_varint_errNone), ("tesserae/segment.errNone", Rows.laid_tesserae_segment_errNone)] [.handle, .sentinel, .sentinel, .sentinel] true :=
  Program.laidByTextLater.sub seatTie1 ["errors.errorType", "tesserae/varint.errMore", "tesserae/varint.errNone", "tesserae/segment.errNone"] (by kernel_rfl) (by kernel_rfl)
theorem segmentGrows_row_tie : Rows.segmentGrowsRow.laidByTextAt .later Tryz.pinned [.handle, .sentinel, .sentinel, .sentinel] true :=
  OpenClaim.laidByTextAt_later rfl rfl tie noOwnUnsafe
theorem segmentBack_row_tie : Rows.segmentBackRow.laidByTextAt .later Tryz.pinned [.handle, .sentinel, .sentinel, .sentinel] true :=
  OpenClaim.laidByTextAt_later rfl rfl tie noOwnUnsafe
theorem segmentSchemas_row_tie : Rows.segmentSchemasRow.laidByTextAt .later Tryz.pinned [.handle, .sentinel, .sentinel, .sentinel] true :=
  OpenClaim.laidByTextAt_later rfl rfl tie noOwnUnsafe
theorem segmentCodes_row_tie : Rows.segmentCodesRow.laidByTextAt .later Tryz.pinned [.handle, .sentinel, .sentinel, .sentinel] true :=
  OpenClaim.laidByTextAt_later rfl rfl tie noOwnUnsafe
theorem segmentGrowsUpto_row_tie : Rows.segmentGrowsUptoRow.laidByTextAt .later Tryz.pinned [.handle, .sentinel, .sentinel, .sentinel] true :=
  OpenClaim.laidByTextAt_later rfl rfl tie noOwnUnsafe
theorem segmentBackUpto_row_tie : Rows.segmentBackUptoRow.laidByTextAt .later Tryz.pinned [.handle, .sentinel, .sentinel, .sentinel] true :=
  OpenClaim.laidByTextAt_later rfl rfl tie noOwnUnsafe
theorem segmentSchemasUpto_row_tie : Rows.segmentSchemasUptoRow.laidByTextAt .later Tryz.pinned [.handle, .sentinel, .sentinel, .sentinel] true :=
  OpenClaim.laidByTextAt_later rfl rfl tie noOwnUnsafe
theorem segmentCodesUpto_row_tie : Rows.segmentCodesUptoRow.laidByTextAt .later Tryz.pinned [.handle, .sentinel, .sentinel, .sentinel] true :=
  OpenClaim.laidByTextAt_later rfl rfl tie noOwnUnsafe
end Go.Proofs.YtjdccifdkjnknaaGreatDoor
