/- The shelf's contracts at this program: the library's functions that it calls, laid by the kit's own tools. -/
import Derived.Shelf.Small.Utf8
import Derived.Shelf.Small.Bits
import Derived.Shelf.Small.Strs
import Derived.Shelf.Small.Wraps
import Derived.Shelf.Strconv.Itoa0
import Derived.Shelf.Strconv.Itoa1
import Derived.Shelf.LaysM
import Derived.Shelf.Strings.Prefix
import Derived.Shelf.Bits.Mul64
import Derived.Shelf.Unicode.DecodeSlow
import Derived.Shelf.SlSorted.Search
import Derived.Test.YtaddkkkchkdgkaaGreatDoorProg
namespace Go.Proofs
open Go.Shelf
def Tryz.lSr:Go.Shelf.Ren:=⟨fun | 16=>59 | n=>n,fun | 3=>3 | 35=>131 | 4=>4 | 38=>115 | n=>n,fun | n=>n⟩
theorem Tryz.laysSearch:Go.Proofs.SlLaysO.n16 Tryz.prog Tryz.lSr:={
 mixed:=by kernel_rfl
 f16:=Tryz.func59.trans (congrArg some (by kernel_rfl))
 t3:=Tryz.underlying3
 a3:=Tryz.isAgg3
 z3:=Tryz.sizeOf3
 v3:=Tryz.zeroValue3
 t4:=Tryz.underlying4
 a4:=Tryz.isAgg4
 z4:=Tryz.sizeOf4
 v4:=Tryz.zeroValue4
 t35:=Tryz.underlying131
 a35:=Tryz.isAgg131
 z35:=Tryz.sizeOf131
 v35:=Tryz.zeroValue131
 t38:=Tryz.underlying115
 a38:=Tryz.isAgg115
 z38:=Tryz.sizeOf115
 v38:=Tryz.zeroValue115 }
end Go.Proofs
