/- The shelf's contracts at this program: the library's functions that it calls, laid by the kit's own tools. -/
import Derived.Shelf.Small.Utf8
import Derived.Shelf.Small.Bits
import Derived.Shelf.Small.Strs
import Derived.Shelf.Small.Wraps
import Derived.Shelf.Utf8.AppendRune
import Derived.Shelf.Strconv.Bsearch
import Derived.Shelf.Strconv.IsPrint
import Derived.Shelf.Strconv.IsPrint16
import Derived.Shelf.Strconv.IsPrint32
import Derived.Shelf.Strconv.Escaped
import Derived.Shelf.Strconv.Quoted
import Derived.Shelf.Strconv.Quote
import Derived.Shelf.Strconv.Itoa0
import Derived.Shelf.Strconv.Itoa1
import Derived.Shelf.LaysM
import Derived.Shelf.Strconv.Itoa2
import Derived.Shelf.Strconv.Itoa3
import Derived.Shelf.Strconv.Itoa4
import Derived.Shelf.Strings.Prefix
import Derived.Shelf.Bits.Mul64
import Derived.Shelf.Unicode.DecodeSlow
import Derived.Shelf.Unicode.DecodeAny
import Derived.Shelf.Slices.Turned
import Derived.Test.YtaddkkkchkdgkaaGreatDoorProg
namespace Go.Proofs
open Go.Shelf
def Tryz.lr3:Go.Shelf.Ren:=⟨fun | 177=>115 | 250=>161 | 289=>198 | 197=>224 | 323=>225 | 260=>233 | 339=>234 | 340=>235 | 242=>236 | 119=>237 | 345=>239 | 346=>240 | 278=>241 | n=>n,fun | 9=>9 | 5=>5 | 4=>4 | 3=>3 | 37=>266 | 21=>21 | 105=>300 | 46=>115 | 119=>315 | 0=>0 | 139=>318 | 138=>317 | 49=>319 | 234=>320 | 131=>170 | 51=>226 | 236=>322 | n=>n,fun | 3=>7 | 4=>8 | 20=>9 | 21=>10 | 22=>11 | 23=>12 | 24=>13 | n=>n⟩
theorem Tryz.lays177:Go.Proofs.Lays.n177 Tryz.prog Tryz.lr3:={
 mixed:=by kernel_rfl
 f119:=Tryz.func237.trans (congrArg some (by kernel_rfl))
 f177:=Tryz.func115.trans (congrArg some (by kernel_rfl))
 f197:=Tryz.func224.trans (congrArg some (by kernel_rfl))
 f242:=Tryz.func236.trans (congrArg some (by kernel_rfl))
 f250:=Tryz.func161.trans (congrArg some (by kernel_rfl))
 f260:=Tryz.func233.trans (congrArg some (by kernel_rfl))
 f278:=Tryz.func241.trans (congrArg some (by kernel_rfl))
 f289:=Tryz.func198.trans (congrArg some (by kernel_rfl))
 f323:=Tryz.func225.trans (congrArg some (by kernel_rfl))
 f339:=Tryz.func234.trans (congrArg some (by kernel_rfl))
 f340:=Tryz.func235.trans (congrArg some (by kernel_rfl))
 f345:=Tryz.func239.trans (congrArg some (by kernel_rfl))
 f346:=Tryz.func240.trans (congrArg some (by kernel_rfl))
 t0:=Tryz.underlying0
 a0:=Tryz.isAgg0
 z0:=Tryz.sizeOf0
 v0:=Tryz.zeroValue0
 t3:=Tryz.underlying3
 a3:=Tryz.isAgg3
 z3:=Tryz.sizeOf3
 v3:=Tryz.zeroValue3
 t4:=Tryz.underlying4
 a4:=Tryz.isAgg4
 z4:=Tryz.sizeOf4
 v4:=Tryz.zeroValue4
 t5:=Tryz.underlying5
 a5:=Tryz.isAgg5
 z5:=Tryz.sizeOf5
 v5:=Tryz.zeroValue5
 t9:=Tryz.underlying9
 a9:=Tryz.isAgg9
 z9:=Tryz.sizeOf9
 v9:=Tryz.zeroValue9
 t21:=Tryz.underlying21
 a21:=Tryz.isAgg21
 z21:=Tryz.sizeOf21
 v21:=Tryz.zeroValue21
 t37:=Tryz.underlying266
 a37:=Tryz.isAgg266
 z37:=Tryz.sizeOf266
 v37:=Tryz.zeroValue266
 t46:=Tryz.underlying115
 a46:=Tryz.isAgg115
 z46:=Tryz.sizeOf115
 v46:=Tryz.zeroValue115
 t49:=Tryz.underlying319
 a49:=Tryz.isAgg319
 z49:=Tryz.sizeOf319
 v49:=Tryz.zeroValue319
 t51:=Tryz.underlying226
 a51:=Tryz.isAgg226
 z51:=Tryz.sizeOf226
 v51:=Tryz.zeroValue226
 t105:=Tryz.underlying300
 a105:=Tryz.isAgg300
 z105:=Tryz.sizeOf300
 v105:=Tryz.zeroValue300
 t119:=Tryz.underlying315
 a119:=Tryz.isAgg315
 z119:=Tryz.sizeOf315
 t131:=Tryz.underlying170
 a131:=Tryz.isAgg170
 z131:=Tryz.sizeOf170
 v131:=Tryz.zeroValue170
 t138:=Tryz.underlying317
 a138:=Tryz.isAgg317
 z138:=Tryz.sizeOf317
 v138:=Tryz.zeroValue317
 t139:=Tryz.underlying318
 a139:=Tryz.isAgg318
 z139:=Tryz.sizeOf318
 v139:=Tryz.zeroValue318
 t234:=Tryz.underlying320
 a234:=Tryz.isAgg320
 z234:=Tryz.sizeOf320
 v234:=Tryz.zeroValue320
 t236:=Tryz.underlying322
 a236:=Tryz.isAgg322
 z236:=Tryz.sizeOf322
 v236:=Tryz.zeroValue322
 g3:=by kernel_rfl
 g4:=by kernel_rfl
 g20:=by kernel_rfl
 g21:=by kernel_rfl
 g22:=by kernel_rfl
 g23:=by kernel_rfl
 g24:=by kernel_rfl }
open Go.RowKit in
theorem Tryz.strconv_Quote (T:Lib.PrintTabs) (s:ByteArray) (w:World) (hlen:10 * s.size + 12≤140737488355328) (hT:Lib.PrintTabsAt 9 10 11 12 T w) (hU:Lib.Utf8Tabs 7 8 w) :
  Calls Tryz.prog 115 #[.string s] w fun e w'=>e = .returned (.string (strOfNums (Lib.quoteZ T s)))∧Below w.heap.size w w':=Any.strconv_Quote Tryz.lays177 (by kernel_rfl) T s w hlen hT hU
end Go.Proofs
