/- The shelf's contracts at this program: the library's functions that it calls, laid by the kit's own tools. -/
import Derived.Shelf.Small.Utf8
import Derived.Shelf.Small.Bits
import Derived.Shelf.Small.Strs
import Derived.Shelf.Small.Wraps
import Derived.Shelf.Strconv.Itoa0
import Derived.Shelf.Strconv.Itoa1
import Derived.Shelf.LaysM
import Derived.Shelf.Strconv.Itoa2
import Derived.Shelf.Strconv.Itoa3
import Derived.Shelf.Strconv.Itoa4
import Derived.Shelf.Strings.Prefix
import Derived.Shelf.Bits.Mul64
import Derived.Shelf.Unicode.DecodeSlow
import Derived.Test.YtaddkkkchkdgkaaGreatDoorProg
namespace Go.Proofs
open Go.Shelf
def Tryz.lays106_ren:Go.Shelf.Ren:=⟨fun | 106=>180 | 213=>211 | 265=>226 | n=>n,fun | 9=>9 | 3=>3 | n=>n,fun | n=>n⟩
theorem Tryz.lays106:Go.Proofs.Lays.n106 Tryz.prog Tryz.lays106_ren:={
 mixed:=by kernel_rfl
 f106:=Tryz.func180.trans (congrArg some (by kernel_rfl))
 f213:=Tryz.func211.trans (congrArg some (by kernel_rfl))
 f265:=Tryz.func226.trans (congrArg some (by kernel_rfl))
 t3:=Tryz.underlying3
 a3:=Tryz.isAgg3
 z3:=Tryz.sizeOf3
 v3:=Tryz.zeroValue3
 t9:=Tryz.underlying9
 a9:=Tryz.isAgg9
 z9:=Tryz.sizeOf9
 v9:=Tryz.zeroValue9 }
open Go.RowKit in
theorem Tryz.strings_Compare (a b:ByteArray) (w:World) :
  Calls Tryz.prog 180 #[.string a,.string b] w fun e w'=>e = .returned (.int .i64 (Lib.compareBytes a.data.toList b.data.toList))∧w'=w:=Any.strings_Compare Tryz.lays106 a b w
def Tryz.lays121_ren:Go.Shelf.Ren:=⟨fun | 121=>114 | 214=>160 | n=>n,fun | 4=>4 | 9=>9 | n=>n,fun | n=>n⟩
theorem Tryz.lays121:Go.Proofs.Lays.n121 Tryz.prog Tryz.lays121_ren:={
 mixed:=by kernel_rfl
 f121:=Tryz.func114.trans (congrArg some (by kernel_rfl))
 f214:=Tryz.func160.trans (congrArg some (by kernel_rfl))
 t4:=Tryz.underlying4
 a4:=Tryz.isAgg4
 z4:=Tryz.sizeOf4
 v4:=Tryz.zeroValue4
 t9:=Tryz.underlying9
 a9:=Tryz.isAgg9
 z9:=Tryz.sizeOf9
 v9:=Tryz.zeroValue9 }
open Go.RowKit in
theorem Tryz.strconv_FormatBool (b:Bool) (w:World) :
  Calls Tryz.prog 114 #[.bool b] w fun e w'=>e = .returned (.string ⟨(Lib.formatBool b).toArray⟩)∧w'=w:=Any.strconv_FormatBool Tryz.lays121 b w
def Tryz.laysM171_ren:Go.Shelf.Ren:=⟨fun | 171=>112 | 243=>158 | 246=>159 | 283=>194 | 284=>195 | 285=>196 | 286=>197 | 129=>153 | 317=>220 | 318=>221 | 319=>222 | 320=>223 | 337=>231 | 338=>232 | n=>n,fun | 3=>3 | 9=>9 | 2=>2 | 4=>4 | 171=>264 | 0=>0 | 53=>58 | 37=>266 | 5=>5 | 173=>267 | 212=>298 | 51=>226 | 20=>20 | 213=>299 | 46=>115 | 232=>313 | 233=>314 | n=>n,fun | 17=>3 | 18=>5 | 19=>6 | n=>n⟩
theorem Tryz.laysM171:Go.Proofs.LaysM.n171 Tryz.prog Tryz.laysM171_ren:={
 mixed:=by kernel_rfl
 f129:=Tryz.func153.trans (congrArg some (by kernel_rfl))
 f171:=Tryz.func112.trans (congrArg some (by kernel_rfl))
 f243:=Tryz.func158.trans (congrArg some (by kernel_rfl))
 f246:=Tryz.func159.trans (congrArg some (by kernel_rfl))
 f283:=Tryz.func194.trans (congrArg some (by kernel_rfl))
 f284:=Tryz.func195.trans (congrArg some (by kernel_rfl))
 f285:=Tryz.func196.trans (congrArg some (by kernel_rfl))
 f286:=Tryz.func197.trans (congrArg some (by kernel_rfl))
 f317:=Tryz.func220.trans (congrArg some (by kernel_rfl))
 f318:=Tryz.func221.trans (congrArg some (by kernel_rfl))
 f319:=Tryz.func222.trans (congrArg some (by kernel_rfl))
 f320:=Tryz.func223.trans (congrArg some (by kernel_rfl))
 f337:=Tryz.func231.trans (congrArg some (by kernel_rfl))
 f338:=Tryz.func232.trans (congrArg some (by kernel_rfl))
 t0:=Tryz.underlying0
 a0:=Tryz.isAgg0
 z0:=Tryz.sizeOf0
 v0:=Tryz.zeroValue0
 t2:=Tryz.underlying2
 a2:=Tryz.isAgg2
 z2:=Tryz.sizeOf2
 v2:=Tryz.zeroValue2
 t3:=Tryz.underlying3
 a3:=Tryz.isAgg3
 z3:=Tryz.sizeOf3
 v3:=Tryz.zeroValue3
 t4:=Tryz.underlying4
 a4:=Tryz.isAgg4
 z4:=Tryz.sizeOf4
 v4:=Tryz.zeroValue4
 t5:=Tryz.underlying5
 a5:=Tryz.isAgg5
 z5:=Tryz.sizeOf5
 v5:=Tryz.zeroValue5
 t9:=Tryz.underlying9
 a9:=Tryz.isAgg9
 z9:=Tryz.sizeOf9
 v9:=Tryz.zeroValue9
 t20:=Tryz.underlying20
 a20:=Tryz.isAgg20
 z20:=Tryz.sizeOf20
 v20:=Tryz.zeroValue20
 t37:=Tryz.underlying266
 a37:=Tryz.isAgg266
 z37:=Tryz.sizeOf266
 v37:=Tryz.zeroValue266
 t46:=Tryz.underlying115
 a46:=Tryz.isAgg115
 z46:=Tryz.sizeOf115
 v46:=Tryz.zeroValue115
 t51:=Tryz.underlying226
 a51:=Tryz.isAgg226
 z51:=Tryz.sizeOf226
 v51:=Tryz.zeroValue226
 t53:=Tryz.underlying58
 a53:=Tryz.isAgg58
 z53:=Tryz.sizeOf58
 v53:=Tryz.zeroValue58
 t171:=Tryz.underlying264
 a171:=Tryz.isAgg264
 z171:=Tryz.sizeOf264
 v171:=Tryz.zeroValue264
 t173:=Tryz.underlying267
 a173:=Tryz.isAgg267
 z173:=Tryz.sizeOf267
 v173:=Tryz.zeroValue267
 t212:=Tryz.underlying298
 a212:=Tryz.isAgg298
 z212:=Tryz.sizeOf298
 v212:=Tryz.zeroValue298
 t213:=Tryz.underlying299
 a213:=Tryz.isAgg299
 z213:=Tryz.sizeOf299
 t232:=Tryz.underlying313
 a232:=Tryz.isAgg313
 z232:=Tryz.sizeOf313
 v232:=Tryz.zeroValue313
 t233:=Tryz.underlying314
 a233:=Tryz.isAgg314
 z233:=Tryz.sizeOf314
 v233:=Tryz.zeroValue314
 g17:=by kernel_rfl
 g18:=by kernel_rfl
 g19:=by kernel_rfl
 i0:=by kernel_rfl
 i2:=by kernel_rfl
 i3:=by kernel_rfl
 i4:=by kernel_rfl
 i5:=by kernel_rfl
 i9:=by kernel_rfl
 i20:=by kernel_rfl
 i37:=by kernel_rfl
 i46:=by kernel_rfl
 i51:=by kernel_rfl
 i53:=by kernel_rfl
 i171:=by kernel_rfl
 i173:=by kernel_rfl
 i212:=by kernel_rfl
 i232:=by kernel_rfl
 i233:=by kernel_rfl
 m17:=by kernel_rfl
 m18:=by kernel_rfl
 m19:=by kernel_rfl }
open Go.RowKit Go.Sort Go.Lib in
theorem Tryz.strconv_Itoa (n : Int) (h0 : -9223372036854775808 ≤ n) (h1 : n ≤ 9223372036854775807) (w : World) (htab : Lib.TabIs Tryz.prog w "internal/strconv.uint64pow10" .u64 Lib.pow10Tab) :
  Calls Tryz.prog 112 #[.int .i64 n] w fun e w'=>e = .returned (.string ⟨(Lib.itoa n).toArray⟩)∧∃ k os,w'=grow (w.drewN k) os:=Any.strconv_Itoa Tryz.laysM171 n h0 h1 w htab
def Tryz.laysM173_ren:Go.Shelf.Ren:=⟨fun | 173=>113 | 246=>159 | 283=>194 | 284=>195 | 285=>196 | 286=>197 | 129=>153 | 317=>220 | 318=>221 | 319=>222 | 320=>223 | 337=>231 | 338=>232 | n=>n,fun | 2=>2 | 3=>3 | 9=>9 | 4=>4 | 171=>264 | 0=>0 | 53=>58 | 37=>266 | 5=>5 | 173=>267 | 212=>298 | 51=>226 | 20=>20 | 213=>299 | 46=>115 | 232=>313 | 233=>314 | n=>n,fun | 17=>3 | 18=>5 | 19=>6 | n=>n⟩
theorem Tryz.laysM173:Go.Proofs.LaysM.n173 Tryz.prog Tryz.laysM173_ren:={
 mixed:=by kernel_rfl
 f129:=Tryz.func153.trans (congrArg some (by kernel_rfl))
 f173:=Tryz.func113.trans (congrArg some (by kernel_rfl))
 f246:=Tryz.func159.trans (congrArg some (by kernel_rfl))
 f283:=Tryz.func194.trans (congrArg some (by kernel_rfl))
 f284:=Tryz.func195.trans (congrArg some (by kernel_rfl))
 f285:=Tryz.func196.trans (congrArg some (by kernel_rfl))
 f286:=Tryz.func197.trans (congrArg some (by kernel_rfl))
 f317:=Tryz.func220.trans (congrArg some (by kernel_rfl))
 f318:=Tryz.func221.trans (congrArg some (by kernel_rfl))
 f319:=Tryz.func222.trans (congrArg some (by kernel_rfl))
 f320:=Tryz.func223.trans (congrArg some (by kernel_rfl))
 f337:=Tryz.func231.trans (congrArg some (by kernel_rfl))
 f338:=Tryz.func232.trans (congrArg some (by kernel_rfl))
 t0:=Tryz.underlying0
 a0:=Tryz.isAgg0
 z0:=Tryz.sizeOf0
 v0:=Tryz.zeroValue0
 t2:=Tryz.underlying2
 a2:=Tryz.isAgg2
 z2:=Tryz.sizeOf2
 v2:=Tryz.zeroValue2
 t3:=Tryz.underlying3
 a3:=Tryz.isAgg3
 z3:=Tryz.sizeOf3
 v3:=Tryz.zeroValue3
 t4:=Tryz.underlying4
 a4:=Tryz.isAgg4
 z4:=Tryz.sizeOf4
 v4:=Tryz.zeroValue4
 t5:=Tryz.underlying5
 a5:=Tryz.isAgg5
 z5:=Tryz.sizeOf5
 v5:=Tryz.zeroValue5
 t9:=Tryz.underlying9
 a9:=Tryz.isAgg9
 z9:=Tryz.sizeOf9
 v9:=Tryz.zeroValue9
 t20:=Tryz.underlying20
 a20:=Tryz.isAgg20
 z20:=Tryz.sizeOf20
 v20:=Tryz.zeroValue20
 t37:=Tryz.underlying266
 a37:=Tryz.isAgg266
 z37:=Tryz.sizeOf266
 v37:=Tryz.zeroValue266
 t46:=Tryz.underlying115
 a46:=Tryz.isAgg115
 z46:=Tryz.sizeOf115
 v46:=Tryz.zeroValue115
 t51:=Tryz.underlying226
 a51:=Tryz.isAgg226
 z51:=Tryz.sizeOf226
 v51:=Tryz.zeroValue226
 t53:=Tryz.underlying58
 a53:=Tryz.isAgg58
 z53:=Tryz.sizeOf58
 v53:=Tryz.zeroValue58
 t171:=Tryz.underlying264
 a171:=Tryz.isAgg264
 z171:=Tryz.sizeOf264
 v171:=Tryz.zeroValue264
 t173:=Tryz.underlying267
 a173:=Tryz.isAgg267
 z173:=Tryz.sizeOf267
 v173:=Tryz.zeroValue267
 t212:=Tryz.underlying298
 a212:=Tryz.isAgg298
 z212:=Tryz.sizeOf298
 v212:=Tryz.zeroValue298
 t213:=Tryz.underlying299
 a213:=Tryz.isAgg299
 z213:=Tryz.sizeOf299
 t232:=Tryz.underlying313
 a232:=Tryz.isAgg313
 z232:=Tryz.sizeOf313
 v232:=Tryz.zeroValue313
 t233:=Tryz.underlying314
 a233:=Tryz.isAgg314
 z233:=Tryz.sizeOf314
 v233:=Tryz.zeroValue314
 g17:=by kernel_rfl
 g18:=by kernel_rfl
 g19:=by kernel_rfl
 i0:=by kernel_rfl
 i2:=by kernel_rfl
 i3:=by kernel_rfl
 i4:=by kernel_rfl
 i5:=by kernel_rfl
 i9:=by kernel_rfl
 i20:=by kernel_rfl
 i37:=by kernel_rfl
 i46:=by kernel_rfl
 i51:=by kernel_rfl
 i53:=by kernel_rfl
 i171:=by kernel_rfl
 i173:=by kernel_rfl
 i212:=by kernel_rfl
 i232:=by kernel_rfl
 i233:=by kernel_rfl
 m17:=by kernel_rfl
 m18:=by kernel_rfl
 m19:=by kernel_rfl }
open Go.RowKit Go.Sort Go.Lib in
theorem Tryz.strconv_FormatInt_10 (n : Int) (h0 : -9223372036854775808 ≤ n) (h1 : n ≤ 9223372036854775807) (w : World) (htab : Lib.TabIs Tryz.prog w "internal/strconv.uint64pow10" .u64 Lib.pow10Tab) :
  Calls Tryz.prog 113 #[.int .i64 n,.int .i64 10] w fun e w'=>e = .returned (.string ⟨(Lib.itoa n).toArray⟩)∧∃ k os,w'=grow (w.drewN k) os:=Any.strconv_FormatInt_10 Tryz.laysM173 n h0 h1 w htab
def Tryz.lays264_ren:Go.Shelf.Ren:=⟨fun | 264=>214 | n=>n,fun | 53=>58 | 46=>115 | n=>n,fun | n=>n⟩
theorem Tryz.lays264:Go.Proofs.Lays.n264 Tryz.prog Tryz.lays264_ren:={
 mixed:=by kernel_rfl
 f264:=Tryz.func214.trans (congrArg some (by kernel_rfl))
 t46:=Tryz.underlying115
 a46:=Tryz.isAgg115
 z46:=Tryz.sizeOf115
 v46:=Tryz.zeroValue115
 t53:=Tryz.underlying58
 a53:=Tryz.isAgg58
 z53:=Tryz.sizeOf58
 v53:=Tryz.zeroValue58 }
open Go.RowKit Go.Lib in
theorem Tryz.bits_Mul64 (x y:Nat) (hx:x < 18446744073709551616) (hy:y < 18446744073709551616) (w:World) :
  Calls Tryz.prog 214 #[.int .u64 x,.int .u64 y] w fun e w'=>e = .returned (.tuple #[.int .u64 ((x * y / 18446744073709551616:Nat):Int),.int .u64 ((x * y % 18446744073709551616:Nat):Int)])∧w'=w:=Any.bits_Mul64 Tryz.lays264 x y hx hy w
end Go.Proofs
