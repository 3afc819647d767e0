/- What the rows' listed variables give a walk; a world that meets the condition. -/
import Derived.Test.YtdfnolgcdododaaDoorF20
import Derived.Test.YtdfnolgcdododaaDoorRows
import Derived.ChangeSame
import Derived.ChangeVars
import Derived.JoinedOf
import Derived.RowKit
import Derived.RowKitTokens
import Derived.LaidLaws
import Derived.LaidHandle
import Derived.Stop.Joined
import Derived.Stop.LaidTwo
import Derived.Stop.ErrReads
namespace Go.Proofs.YtdfnolgcdododaaDoor
open Go.ChangeShapes Go.WideShapes Go.RowKit

theorem gNone : Tryd.prog.globalNamed "tesserae/filter.errNone" = some 0 := by kernel_rfl
theorem gGrain : Tryd.prog.globalNamed "tesserae/filter.errGrain" = some 1 := by kernel_rfl
theorem gNoneT : (Tryd.prog.globals[0]?).map (·.type) = some 76 := by kernel_rfl
theorem gGrainT : (Tryd.prog.globals[1]?).map (·.type) = some 76 := by kernel_rfl
theorem gStar : "*" ++ "errors.errorString" = "*errors.errorString" := by decide
theorem gRow (u : TypeId) (h : Tryd.prog.typeName? 3 u = some "*errors.errorString") : u = 181 :=
  typeName_ptr_named (nm := "errors.errorString") (by rw [gStar]; kernel_rfl) (by kernel_rfl) (by decide) u (by rw [gStar]; exact h)
theorem gCells : Tryd.prog.cellsOf 206 = 1 := by kernel_rfl
theorem gCells2 : Tryd.prog.cellsOf 9 = 1 := by kernel_rfl

abbrev laidVars : List (String × DataW Unit) := [("tesserae/filter.errNone", Rows.laid_tesserae_filter_errNone), ("tesserae/filter.errGrain", Rows.laid_tesserae_filter_errGrain)]

theorem vars_of_laid {W : World} (h : laidMetH Tryd.prog laidVars W) : ∃ a0 a1, Vars a0 a1 W := by
  have h1 : laidMet Tryd.prog [("tesserae/filter.errNone", Rows.laid_tesserae_filter_errNone), ("tesserae/filter.errGrain", Rows.laid_tesserae_filter_errGrain)] W := h
  obtain ⟨a0, a1, s0, s1, c0, c1, t0, t1, hv0, hv1, _, _, _, _, _, _, hne, hb0, hb1⟩ := laid_sentinels2 (r := []) h1 gNone gNoneT gGrain gGrainT Tryd.underlying76 gRow Tryd.underlying181 Tryd.underlying206 rfl rfl Tryd.underlying9 gCells gCells2
  exact ⟨a0, a1, hne, by simpa using World.var?_cell gNone hv0 0, by simpa using World.var?_cell gGrain hv1 0, ⟨c0, t0, hb0⟩, ⟨c1, t1, hb1⟩⟩

abbrev noneS : ByteArray := { data := #[110, 111, 32, 102, 105, 108, 116, 101, 114] }
abbrev grainS : ByteArray := { data := #[116, 111, 111, 32, 102, 105, 110, 101] }
noncomputable def low : Nat := (World.holding Tryd.prog default ⟨#[], #[], []⟩).heap.size
noncomputable def laidWorld (os : Os) : World :=
  let w0 := World.holding Tryd.prog os ⟨#[.cells #[.string noneS] 206, .cells #[.string grainS] 206], #[], []⟩
  { w0 with heap := ((w0.heap.modify 0 fun
      | .cells _ t frozen => .cells #[.iface 181 (.pointer (some ⟨low, 0, none⟩))] t frozen
      | o => o).modify 1 fun
      | .cells _ t frozen => .cells #[.iface 181 (.pointer (some ⟨low + 1, 0, none⟩))] t frozen
      | o => o) }
theorem laidWorld_met (os : Os) (args : Array Value) : laidMetH Tryd.prog laidVars ((laidWorld os).forCall (fun _ _ => 0) ⟨#[], args, []⟩).memory :=
  laidMetH_of_parts (laidMet_of_run (ps := [.cell 0 0, .cell low 0, .cell 1 0, .cell (low + 1) 0]) 8 (by kernel_rfl) (by kernel_rfl) (by kernel_rfl)) (by kernel_rfl)
theorem own : ownKnob Tryd.prog.godebug = none := by kernel_rfl
theorem laidOut : laidOutB Tryd.prog = true := by kernel_rfl
end Go.Proofs.YtdfnolgcdododaaDoor
