/- The shelf's contracts at this program: the library's functions that it calls, laid by the kit's own tools. -/
import Derived.Shelf.Small.Strs
import Derived.Shelf.Sort.Plain
import Derived.Shelf.Bits.Mul64
import Derived.Shelf.Strings.BuilderCap
import Derived.Shelf.Slices.Turned
import Derived.Shelf.Slices.Cells
import Derived.Shelf.Slices.In.SortNone
import Derived.Shelf.SlSorted.Search
import Derived.Shelf.Spec.SearchS
import Derived.Test.YtjdccifdkjnknaaGreatDoorProg
set_option linter.defProp false
def zx:=@Go.cell_grown
def qBe:=@Go.Proofs.cell_new_sl
namespace Go.Proofs
open Go.Shelf
def Tryz.lSr:Go.Shelf.Ren:=⟨fun|16=>62|n=>n,fun|3=>3|35=>113|4=>4|38=>161|n=>n,fun|n=>n⟩
theorem Tryz.lS2:Go.Proofs.SlLaysO.n16 Tryz.prog Tryz.lSr:={
 mixed:=by kernel_rfl
 f16:=Tryz.func62.trans (congrArg some (by kernel_rfl))
 t3:=Tryz.underlying3
 a3:=Tryz.isAgg3
 z3:=Tryz.sizeOf3
 v3:=Tryz.zeroValue3
 t4:=Tryz.underlying4
 a4:=Tryz.isAgg4
 z4:=Tryz.sizeOf4
 v4:=Tryz.zeroValue4
 t35:=Tryz.underlying113
 a35:=Tryz.isAgg113
 z35:=Tryz.sizeOf113
 v35:=Tryz.zeroValue113
 t38:=Tryz.underlying161
 a38:=Tryz.isAgg161
 z38:=Tryz.sizeOf161
 v38:=Tryz.zeroValue161 }
def Tryz.lBr:Go.Shelf.Ren:=⟨fun|26=>167|33=>205|34=>206|38=>226|n=>n,fun|24=>22|9=>9|3=>3|4=>4|40=>161|0=>0|n=>n,fun|n=>n⟩
theorem Tryz.lB5:Go.Proofs.Lays2.n26 Tryz.prog Tryz.lBr:={
 mixed:=by kernel_rfl
 f26:=Tryz.func167.trans (congrArg some (by kernel_rfl))
 f33:=Tryz.func205.trans (congrArg some (by kernel_rfl))
 f34:=Tryz.func206.trans (congrArg some (by kernel_rfl))
 f38:=Tryz.func226.trans (congrArg some (by kernel_rfl))
 t0:=Tryz.underlying0
 a0:=Tryz.isAgg0
 z0:=Tryz.sizeOf0
 v0:=Tryz.zeroValue0
 t3:=Tryz.underlying3
 a3:=Tryz.isAgg3
 z3:=Tryz.sizeOf3
 v3:=Tryz.zeroValue3
 t4:=Tryz.underlying4
 a4:=Tryz.isAgg4
 z4:=Tryz.sizeOf4
 v4:=Tryz.zeroValue4
 t9:=Tryz.underlying9
 a9:=Tryz.isAgg9
 z9:=Tryz.sizeOf9
 v9:=Tryz.zeroValue9
 t24:=Tryz.underlying22
 a24:=Tryz.isAgg22
 z24:=Tryz.sizeOf22
 v24:=Tryz.zeroValue22
 t40:=Tryz.underlying161
 a40:=Tryz.isAgg161
 z40:=Tryz.sizeOf161
 v40:=Tryz.zeroValue161 }
