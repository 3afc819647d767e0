/- What the rows' listed variables give a walk; a world that meets the condition. -/
import Derived.Test.YtpbecldgoimkmaaDoorDL1
import Derived.Test.YtpbecldgoimkmaaDoorRows
import Derived.ChangeSame
import Derived.ChangeVars
import Derived.JoinedOf
import Derived.RowKit
import Derived.RowKitTokens
import Derived.LaidLaws
import Derived.LaidHandle
import Derived.Stop.Joined
import Derived.Stop.LaidTwo
import Derived.Stop.ErrReads
namespace Go.Proofs.YtpbecldgoimkmaaDoor
open Go.ChangeShapes Go.WideShapes Go.RowKit

theorem gEt : Tryd.prog.globalNamed "errors.errorType" = some 0 := by kernel_rfl
theorem gMore : Tryd.prog.globalNamed "tesserae/varint.errMore" = some 1 := by kernel_rfl
theorem gNone : Tryd.prog.globalNamed "tesserae/varint.errNone" = some 2 := by kernel_rfl
theorem gMoreT : (Tryd.prog.globals[1]?).map (·.type) = some 50 := by kernel_rfl
theorem gNoneT : (Tryd.prog.globals[2]?).map (·.type) = some 50 := by kernel_rfl
theorem gRt : (Tryd.prog.cutTypes.find? (·.1 == "internal/reflectlite.rtype")).map (·.2) = some 129 := by kernel_rfl
theorem gOne : ((List.range 184).filter fun t => Tryd.prog.rowNamed t [101, 114, 114, 111, 114]) = [50] := by kernel_rfl
theorem gSize : Tryd.prog.types.size = 184 := by kernel_rfl
theorem gStar : "*" ++ "errors.errorString" = "*errors.errorString" := by decide
theorem gRow (u : TypeId) (h : Tryd.prog.typeName? 3 u = some "*errors.errorString") : u = 153 :=
  typeName_ptr_named (nm := "errors.errorString") (by rw [gStar]; kernel_rfl) (by kernel_rfl) (by decide) u (by rw [gStar]; exact h)
theorem gCells : Tryd.prog.cellsOf 172 = 1 := by kernel_rfl
theorem gCells2 : Tryd.prog.cellsOf 9 = 1 := by kernel_rfl

abbrev laidVars : List (String × DataW Unit) := [("errors.errorType", Rows.laid_errors_errorType), ("tesserae/varint.errMore", Rows.laid_tesserae_varint_errMore), ("tesserae/varint.errNone", Rows.laid_tesserae_varint_errNone)]

theorem vars_of_laid {W : World} (h : laidMetH Tryd.prog laidVars W) : ∃ a0 a1, Vars a0 a1 W := by
  have h' : laidMet Tryd.prog [("tesserae/varint.errMore", Rows.laid_tesserae_varint_errMore), ("tesserae/varint.errNone", Rows.laid_tesserae_varint_errNone)] W ∧ handlesMet Tryd.prog [("errors.errorType", Rows.laid_errors_errorType)] W := h
  obtain ⟨name, u, ty, e1, e2, e3, e4, e5⟩ := h'.2 _ (List.mem_singleton.2 rfl)
  have en : name = [101, 114, 114, 111, 114] := (Option.some.inj e1).symm
  subst en
  obtain rfl := Option.some.inj (gRt.symm.trans e2)
  have hm : ty ∈ (List.range 184).filter fun t => Tryd.prog.rowNamed t [101, 114, 114, 111, 114] := List.mem_filter.2 ⟨List.mem_range.2 (by rw [← gSize]; exact e3), e4⟩
  rw [gOne] at hm
  obtain rfl := List.mem_singleton.1 hm
  have hh : typeHandle Tryd.prog 50 = .pointer (some ⟨3, 50, none⟩) := by kernel_rfl
  rw [hh] at e5
  obtain ⟨a0, a1, s0, s1, c0, c1, t0, t1, hv0, hv1, _, _, _, _, _, _, hne, hb0, hb1⟩ := laid_sentinels2 (r := []) h'.1 gMore gMoreT gNone gNoneT Tryd.underlying50 gRow Tryd.underlying153 Tryd.underlying172 rfl rfl Tryd.underlying9 gCells gCells2
  exact ⟨a0, a1, hne, by simpa using World.var?_cell gEt e5 0, by simpa using World.var?_cell gMore hv0 0, by simpa using World.var?_cell gNone hv1 0, ⟨c0, t0, hb0⟩, ⟨c1, t1, hb1⟩⟩

abbrev moreS : ByteArray := { data := #[109, 111, 114, 101] }
abbrev noneS : ByteArray := { data := #[110, 111, 32, 118, 97, 114, 105, 110, 116] }
noncomputable def low : Nat := (World.holding Tryd.prog default ⟨#[], #[], []⟩).heap.size
noncomputable def laidWorld (os : Os) : World :=
  let w0 := World.holding Tryd.prog os ⟨#[.cells #[.string moreS] 172, .cells #[.string noneS] 172], #[], []⟩
  { w0 with heap := ((w0.heap.modify 0 fun
      | .cells _ t frozen => .cells #[.iface 129 (.agg #[.pointer (some ⟨3, 50, none⟩)])] t frozen
      | o => o).modify 1 fun
      | .cells _ t frozen => .cells #[.iface 153 (.pointer (some ⟨low, 0, none⟩))] t frozen
      | o => o).modify 2 fun
      | .cells _ t frozen => .cells #[.iface 153 (.pointer (some ⟨low + 1, 0, none⟩))] t frozen
      | o => o }
theorem laidWorld_met (os : Os) (args : Array Value) : laidMetH Tryd.prog laidVars ((laidWorld os).forCall (fun _ _ => 0) ⟨#[], args, []⟩).memory :=
  laidMetH_of_parts (laidMet_of_run (ps := [.cell 1 0, .cell low 0, .cell 2 0, .cell (low + 1) 0]) 8 (by kernel_rfl) (by kernel_rfl) (by kernel_rfl)) (by kernel_rfl)
theorem own : ownKnob Tryd.prog.godebug = none := by kernel_rfl
theorem laidOut : laidOutB Tryd.prog = true := by kernel_rfl
end Go.Proofs.YtpbecldgoimkmaaDoor
