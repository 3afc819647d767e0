/- The shelf's contracts at this program: the library's functions that it calls, laid by the kit's own tools. -/
import Derived.Shelf.Strings.Builder1
import Derived.Shelf.Strings.Builder2
import Derived.Shelf.Strings.OnBuilder
import Derived.Shelf.Small.Utf8
import Derived.Shelf.Small.Bits
import Derived.Shelf.Small.Strs
import Derived.Shelf.Small.Wraps
import Derived.Shelf.Strings.BuilderF
import Derived.Shelf.Strings.BuilderK
import Derived.Shelf.Strings.BuilderRune
import Derived.Shelf.Strconv.Itoa0
import Derived.Shelf.Strconv.Itoa1
import Derived.Shelf.LaysM
import Derived.Shelf.Strconv.Itoa2
import Derived.Shelf.Strconv.Itoa3
import Derived.Shelf.Strconv.Itoa4
import Derived.Shelf.Strconv.ParseIntEmpty
import Derived.Shelf.Strconv.Clone
import Derived.Shelf.Strconv.SyntaxError
import Derived.Shelf.LaysC
import Derived.Shelf.Strconv.ToError
import Derived.Shelf.Strconv.Lower
import Derived.Shelf.Strconv.ParseUint10
import Derived.Shelf.Strconv.ParseUint10Empty
import Derived.Shelf.Strconv.ParseUint10Any
import Derived.Shelf.Strconv.ParseInt10
import Derived.Shelf.Strconv.RangeError
import Derived.Shelf.Strconv.ToErrorRange
import Derived.Shelf.Strconv.ParseUintEmpty
import Derived.Shelf.Strconv.ParseUint10b64
import Derived.Shelf.Strconv.ParseUint10b32
import Derived.Shelf.Strconv.ParseUint10b16
import Derived.Shelf.Strconv.ParseUint10b8
import Derived.Shelf.Strconv.ParseUint10At
import Derived.Shelf.Strconv.ParseInt10At64
import Derived.Shelf.Strconv.ParseInt10At32
import Derived.Shelf.Strconv.ParseInt10At16
import Derived.Shelf.Strconv.ParseInt10At8
import Derived.Shelf.Strconv.ParseInt10All
import Derived.Shelf.Strconv.ParseIntPublic10
import Derived.Shelf.Strconv.ErrVarParseInt
import Derived.Shelf.Strings.Prefix
import Derived.Shelf.Unicode.Latin
import Derived.Shelf.Bits.Mul64
import Derived.Shelf.Unicode.DecodeSlow
import Derived.Shelf.Unicode.DecodeAny
import Derived.Shelf.Unicode.CaseLookup
import Derived.Shelf.Unicode.CaseConvert
import Derived.Shelf.Unicode.CaseTo
import Derived.Shelf.Unicode.CaseLaid
import Derived.Shelf.Strings.MapAny
import Derived.Shelf.Strings.CaseAny
import Derived.Shelf.Slices.Turned
import Derived.Shelf.Slices.Equal
import Derived.Shelf.Slices.Empties2
import Derived.Test.YtbbgjjjeecfnoaaGreatDoorProg
namespace Go.Proofs
open Go.Shelf
def Tryz.lays159_ren:Go.Shelf.Ren:=⟨fun | 159=>293 | 165=>201 | 166=>202 | 167=>316 | 169=>203 | 230=>317 | 204=>318 | 240=>260 | 241=>261 | 197=>314 | 118=>337 | 168=>338 | 270=>339 | 262=>340 | 276=>291 | 277=>292 | 260=>332 | 242=>335 | 313=>350 | 278=>349 | 274=>351 | 275=>352 | n=>n,fun | 9=>9 | 4=>4 | 3=>3 | 5=>5 | 72=>278 | 0=>0 | 76=>280 | 75=>96 | 107=>392 | 70=>275 | 20=>20 | 37=>276 | 127=>335 | 21=>21 | 105=>387 | 164=>218 | 162=>425 | 203=>423 | 119=>414 | 46=>151 | 139=>417 | 138=>416 | 51=>316 | 160=>429 | 208=>435 | 206=>433 | 80=>282 | n=>n,fun | 13=>16 | 3=>9 | 4=>10 | n=>n⟩
theorem Tryz.lays159:Go.Proofs.Lays.n159 Tryz.prog Tryz.lays159_ren:={
 mixed:=by kernel_rfl
 f118:=Tryz.func337.trans (congrArg some (by kernel_rfl))
 f159:=Tryz.func293.trans (congrArg some (by kernel_rfl))
 f165:=Tryz.func201.trans (congrArg some (by kernel_rfl))
 f166:=Tryz.func202.trans (congrArg some (by kernel_rfl))
 f167:=Tryz.func316.trans (congrArg some (by kernel_rfl))
 f168:=Tryz.func338.trans (congrArg some (by kernel_rfl))
 f169:=Tryz.func203.trans (congrArg some (by kernel_rfl))
 f197:=Tryz.func314.trans (congrArg some (by kernel_rfl))
 f204:=Tryz.func318.trans (congrArg some (by kernel_rfl))
 f230:=Tryz.func317.trans (congrArg some (by kernel_rfl))
 f240:=Tryz.func260.trans (congrArg some (by kernel_rfl))
 f241:=Tryz.func261.trans (congrArg some (by kernel_rfl))
 f242:=Tryz.func335.trans (congrArg some (by kernel_rfl))
 f260:=Tryz.func332.trans (congrArg some (by kernel_rfl))
 f262:=Tryz.func340.trans (congrArg some (by kernel_rfl))
 f270:=Tryz.func339.trans (congrArg some (by kernel_rfl))
 f274:=Tryz.func351.trans (congrArg some (by kernel_rfl))
 f275:=Tryz.func352.trans (congrArg some (by kernel_rfl))
 f276:=Tryz.func291.trans (congrArg some (by kernel_rfl))
 f277:=Tryz.func292.trans (congrArg some (by kernel_rfl))
 f278:=Tryz.func349.trans (congrArg some (by kernel_rfl))
 f313:=Tryz.func350.trans (congrArg some (by kernel_rfl))
 t0:=Tryz.underlying0
 a0:=Tryz.isAgg0
 z0:=Tryz.sizeOf0
 v0:=Tryz.zeroValue0
 t3:=Tryz.underlying3
 a3:=Tryz.isAgg3
 z3:=Tryz.sizeOf3
 v3:=Tryz.zeroValue3
 t4:=Tryz.underlying4
 a4:=Tryz.isAgg4
 z4:=Tryz.sizeOf4
 v4:=Tryz.zeroValue4
 t5:=Tryz.underlying5
 a5:=Tryz.isAgg5
 z5:=Tryz.sizeOf5
 v5:=Tryz.zeroValue5
 t9:=Tryz.underlying9
 a9:=Tryz.isAgg9
 z9:=Tryz.sizeOf9
 v9:=Tryz.zeroValue9
 t20:=Tryz.underlying20
 a20:=Tryz.isAgg20
 z20:=Tryz.sizeOf20
 v20:=Tryz.zeroValue20
 t21:=Tryz.underlying21
 a21:=Tryz.isAgg21
 z21:=Tryz.sizeOf21
 v21:=Tryz.zeroValue21
 t37:=Tryz.underlying276
 a37:=Tryz.isAgg276
 z37:=Tryz.sizeOf276
 v37:=Tryz.zeroValue276
 t46:=Tryz.underlying151
 a46:=Tryz.isAgg151
 z46:=Tryz.sizeOf151
 v46:=Tryz.zeroValue151
 t51:=Tryz.underlying316
 a51:=Tryz.isAgg316
 z51:=Tryz.sizeOf316
 v51:=Tryz.zeroValue316
 t70:=Tryz.underlying275
 a70:=Tryz.isAgg275
 z70:=Tryz.sizeOf275
 v70:=Tryz.zeroValue275
 t72:=Tryz.underlying278
 a72:=Tryz.isAgg278
 z72:=Tryz.sizeOf278
 v72:=Tryz.zeroValue278
 t75:=Tryz.underlying96
 a75:=Tryz.isAgg96
 z75:=Tryz.sizeOf96
 v75:=Tryz.zeroValue96
 t76:=Tryz.underlying280
 a76:=Tryz.isAgg280
 z76:=Tryz.sizeOf280
 v76:=Tryz.zeroValue280
 t105:=Tryz.underlying387
 a105:=Tryz.isAgg387
 z105:=Tryz.sizeOf387
 v105:=Tryz.zeroValue387
 t107:=Tryz.underlying392
 a107:=Tryz.isAgg392
 z107:=Tryz.sizeOf392
 v107:=Tryz.zeroValue392
 t119:=Tryz.underlying414
 a119:=Tryz.isAgg414
 z119:=Tryz.sizeOf414
 t127:=Tryz.underlying335
 a127:=Tryz.isAgg335
 z127:=Tryz.sizeOf335
 v127:=Tryz.zeroValue335
 t138:=Tryz.underlying416
 a138:=Tryz.isAgg416
 z138:=Tryz.sizeOf416
 v138:=Tryz.zeroValue416
 t139:=Tryz.underlying417
 a139:=Tryz.isAgg417
 z139:=Tryz.sizeOf417
 v139:=Tryz.zeroValue417
 t160:=Tryz.underlying429
 a160:=Tryz.isAgg429
 z160:=Tryz.sizeOf429
 v160:=Tryz.zeroValue429
 t162:=Tryz.underlying425
 a162:=Tryz.isAgg425
 z162:=Tryz.sizeOf425
 v162:=Tryz.zeroValue425
 t164:=Tryz.underlying218
 a164:=Tryz.isAgg218
 z164:=Tryz.sizeOf218
 v164:=Tryz.zeroValue218
 t203:=Tryz.underlying423
 a203:=Tryz.isAgg423
 z203:=Tryz.sizeOf423
 v203:=Tryz.zeroValue423
 t206:=Tryz.underlying433
 a206:=Tryz.isAgg433
 z206:=Tryz.sizeOf433
 v206:=Tryz.zeroValue433
 t208:=Tryz.underlying435
 a208:=Tryz.isAgg435
 z208:=Tryz.sizeOf435
 v208:=Tryz.zeroValue435
 g3:=by kernel_rfl
 g4:=by kernel_rfl
 g13:=by kernel_rfl }
theorem Tryz.Builder_Extra_159:Builder.Extra Tryz.prog Tryz.lays159_ren:={
 sizeBuilder:=by kernel_rfl
 liesBuilder:=by kernel_rfl
 t5:=Tryz.underlying5
 a5:=Tryz.isAgg5
 z5:=Tryz.sizeOf5
 v5:=Tryz.zeroValue5
 infoByte:=by kernel_rfl
 cellsByte:=by kernel_rfl
 sizeByte:=by kernel_rfl
 neB5:=by decide }
def Tryz.lays156_ren:Go.Shelf.Ren:=⟨fun | 156=>130 | 165=>201 | 166=>202 | 169=>203 | 240=>260 | 241=>261 | 276=>291 | 277=>292 | n=>n,fun | 31=>22 | 9=>9 | 3=>3 | 4=>4 | 0=>0 | 20=>20 | 72=>278 | 76=>280 | 70=>275 | 37=>276 | 75=>96 | 127=>335 | 164=>218 | 5=>5 | 80=>282 | n=>n,fun | n=>n⟩
theorem Tryz.lays156:Go.Proofs.Lays.n156 Tryz.prog Tryz.lays156_ren:={
 mixed:=by kernel_rfl
 f156:=Tryz.func130.trans (congrArg some (by kernel_rfl))
 f165:=Tryz.func201.trans (congrArg some (by kernel_rfl))
 f166:=Tryz.func202.trans (congrArg some (by kernel_rfl))
 f169:=Tryz.func203.trans (congrArg some (by kernel_rfl))
 f240:=Tryz.func260.trans (congrArg some (by kernel_rfl))
 f241:=Tryz.func261.trans (congrArg some (by kernel_rfl))
 f276:=Tryz.func291.trans (congrArg some (by kernel_rfl))
 f277:=Tryz.func292.trans (congrArg some (by kernel_rfl))
 t0:=Tryz.underlying0
 a0:=Tryz.isAgg0
 z0:=Tryz.sizeOf0
 v0:=Tryz.zeroValue0
 t3:=Tryz.underlying3
 a3:=Tryz.isAgg3
 z3:=Tryz.sizeOf3
 v3:=Tryz.zeroValue3
 t4:=Tryz.underlying4
 a4:=Tryz.isAgg4
 z4:=Tryz.sizeOf4
 v4:=Tryz.zeroValue4
 t9:=Tryz.underlying9
 a9:=Tryz.isAgg9
 z9:=Tryz.sizeOf9
 v9:=Tryz.zeroValue9
 t20:=Tryz.underlying20
 a20:=Tryz.isAgg20
 z20:=Tryz.sizeOf20
 v20:=Tryz.zeroValue20
 t31:=Tryz.underlying22
 a31:=Tryz.isAgg22
 z31:=Tryz.sizeOf22
 v31:=Tryz.zeroValue22
 t37:=Tryz.underlying276
 a37:=Tryz.isAgg276
 z37:=Tryz.sizeOf276
 v37:=Tryz.zeroValue276
 t70:=Tryz.underlying275
 a70:=Tryz.isAgg275
 z70:=Tryz.sizeOf275
 v70:=Tryz.zeroValue275
 t72:=Tryz.underlying278
 a72:=Tryz.isAgg278
 z72:=Tryz.sizeOf278
 v72:=Tryz.zeroValue278
 t75:=Tryz.underlying96
 a75:=Tryz.isAgg96
 z75:=Tryz.sizeOf96
 v75:=Tryz.zeroValue96
 t76:=Tryz.underlying280
 a76:=Tryz.isAgg280
 z76:=Tryz.sizeOf280
 v76:=Tryz.zeroValue280
 t127:=Tryz.underlying335
 a127:=Tryz.isAgg335
 z127:=Tryz.sizeOf335
 v127:=Tryz.zeroValue335
 t164:=Tryz.underlying218
 a164:=Tryz.isAgg218
 z164:=Tryz.sizeOf218
 v164:=Tryz.zeroValue218 }
theorem Tryz.Builder_Extra_156:Builder.Extra Tryz.prog Tryz.lays156_ren:={
 sizeBuilder:=by kernel_rfl
 liesBuilder:=by kernel_rfl
 t5:=Tryz.underlying5
 a5:=Tryz.isAgg5
 z5:=Tryz.sizeOf5
 v5:=Tryz.zeroValue5
 infoByte:=by kernel_rfl
 cellsByte:=by kernel_rfl
 sizeByte:=by kernel_rfl
 neB5:=by decide }
open Go.RowKit in
theorem Tryz.strings_Join_none (a:Option Addr) (c:Nat) (sep:ByteArray) (w:World) :
  Calls Tryz.prog 130 #[.slice a 0 c,.string sep] w fun e w'=>e = .returned (.string ⟨#[]⟩)∧w'=w:=Any.strings_Join_none Tryz.lays156 Tryz.Builder_Extra_156 a c sep w
open Go.RowKit in
theorem Tryz.strings_Join (bk o c:Nat) (xs:List ByteArray) (sep:ByteArray) (w:World) (hcells:∀ (j:Nat) x,xs[j]? = some x→w.cell? ⟨bk,o + j,none⟩=some (.string x)) (hbk:bk < w.heap.size) (hN:xs.length≤140737488355328) (hcap:xs.length≤c) (hlen:(Lib.join (xs.map (·.data.toList)) sep.data.toList).length≤140737488355328) :
  Calls Tryz.prog 130 #[.slice (some ⟨bk,o,none⟩) xs.length c,.string sep] w fun e w'=>e = .returned (.string ⟨(Lib.join (xs.map (·.data.toList)) sep.data.toList).toArray⟩)∧Below w.heap.size w w':=Any.strings_Join Tryz.lays156 Tryz.Builder_Extra_156 bk o c xs sep w hcells hbk hN hcap hlen
def Tryz.laysM173_ren:Go.Shelf.Ren:=⟨fun | 173=>169 | 246=>244 | 283=>286 | 284=>287 | 285=>288 | 286=>289 | 129=>241 | 317=>310 | 318=>311 | 319=>312 | 320=>313 | 337=>330 | 338=>331 | n=>n,fun | 2=>2 | 3=>3 | 9=>9 | 4=>4 | 171=>358 | 0=>0 | 53=>58 | 37=>276 | 5=>5 | 173=>360 | 212=>385 | 51=>316 | 20=>20 | 213=>386 | 46=>151 | 232=>412 | 233=>413 | n=>n,fun | 17=>3 | 18=>7 | 19=>8 | n=>n⟩
theorem Tryz.laysM173:Go.Proofs.LaysM.n173 Tryz.prog Tryz.laysM173_ren:={
 mixed:=by kernel_rfl
 f129:=Tryz.func241.trans (congrArg some (by kernel_rfl))
 f173:=Tryz.func169.trans (congrArg some (by kernel_rfl))
 f246:=Tryz.func244.trans (congrArg some (by kernel_rfl))
 f283:=Tryz.func286.trans (congrArg some (by kernel_rfl))
 f284:=Tryz.func287.trans (congrArg some (by kernel_rfl))
 f285:=Tryz.func288.trans (congrArg some (by kernel_rfl))
 f286:=Tryz.func289.trans (congrArg some (by kernel_rfl))
 f317:=Tryz.func310.trans (congrArg some (by kernel_rfl))
 f318:=Tryz.func311.trans (congrArg some (by kernel_rfl))
 f319:=Tryz.func312.trans (congrArg some (by kernel_rfl))
 f320:=Tryz.func313.trans (congrArg some (by kernel_rfl))
 f337:=Tryz.func330.trans (congrArg some (by kernel_rfl))
 f338:=Tryz.func331.trans (congrArg some (by kernel_rfl))
 t0:=Tryz.underlying0
 a0:=Tryz.isAgg0
 z0:=Tryz.sizeOf0
 v0:=Tryz.zeroValue0
 t2:=Tryz.underlying2
 a2:=Tryz.isAgg2
 z2:=Tryz.sizeOf2
 v2:=Tryz.zeroValue2
 t3:=Tryz.underlying3
 a3:=Tryz.isAgg3
 z3:=Tryz.sizeOf3
 v3:=Tryz.zeroValue3
 t4:=Tryz.underlying4
 a4:=Tryz.isAgg4
 z4:=Tryz.sizeOf4
 v4:=Tryz.zeroValue4
 t5:=Tryz.underlying5
 a5:=Tryz.isAgg5
 z5:=Tryz.sizeOf5
 v5:=Tryz.zeroValue5
 t9:=Tryz.underlying9
 a9:=Tryz.isAgg9
 z9:=Tryz.sizeOf9
 v9:=Tryz.zeroValue9
 t20:=Tryz.underlying20
 a20:=Tryz.isAgg20
 z20:=Tryz.sizeOf20
 v20:=Tryz.zeroValue20
 t37:=Tryz.underlying276
 a37:=Tryz.isAgg276
 z37:=Tryz.sizeOf276
 v37:=Tryz.zeroValue276
 t46:=Tryz.underlying151
 a46:=Tryz.isAgg151
 z46:=Tryz.sizeOf151
 v46:=Tryz.zeroValue151
 t51:=Tryz.underlying316
 a51:=Tryz.isAgg316
 z51:=Tryz.sizeOf316
 v51:=Tryz.zeroValue316
 t53:=Tryz.underlying58
 a53:=Tryz.isAgg58
 z53:=Tryz.sizeOf58
 v53:=Tryz.zeroValue58
 t171:=Tryz.underlying358
 a171:=Tryz.isAgg358
 z171:=Tryz.sizeOf358
 v171:=Tryz.zeroValue358
 t173:=Tryz.underlying360
 a173:=Tryz.isAgg360
 z173:=Tryz.sizeOf360
 v173:=Tryz.zeroValue360
 t212:=Tryz.underlying385
 a212:=Tryz.isAgg385
 z212:=Tryz.sizeOf385
 v212:=Tryz.zeroValue385
 t213:=Tryz.underlying386
 a213:=Tryz.isAgg386
 z213:=Tryz.sizeOf386
 t232:=Tryz.underlying412
 a232:=Tryz.isAgg412
 z232:=Tryz.sizeOf412
 v232:=Tryz.zeroValue412
 t233:=Tryz.underlying413
 a233:=Tryz.isAgg413
 z233:=Tryz.sizeOf413
 v233:=Tryz.zeroValue413
 g17:=by kernel_rfl
 g18:=by kernel_rfl
 g19:=by kernel_rfl
 i0:=by kernel_rfl
 i2:=by kernel_rfl
 i3:=by kernel_rfl
 i4:=by kernel_rfl
 i5:=by kernel_rfl
 i9:=by kernel_rfl
 i20:=by kernel_rfl
 i37:=by kernel_rfl
 i46:=by kernel_rfl
 i51:=by kernel_rfl
 i53:=by kernel_rfl
 i171:=by kernel_rfl
 i173:=by kernel_rfl
 i212:=by kernel_rfl
 i232:=by kernel_rfl
 i233:=by kernel_rfl
 m17:=by kernel_rfl
 m18:=by kernel_rfl
 m19:=by kernel_rfl }
open Go.RowKit Go.Sort Go.Lib in
theorem Tryz.strconv_FormatInt_10 (n : Int) (h0 : -9223372036854775808 ≤ n) (h1 : n ≤ 9223372036854775807) (w : World) (htab : Lib.TabIs Tryz.prog w "internal/strconv.uint64pow10" .u64 Lib.pow10Tab) :
  Calls Tryz.prog 169 #[.int .i64 n,.int .i64 10] w fun e w'=>e = .returned (.string ⟨(Lib.itoa n).toArray⟩)∧∃ k os,w'=grow (w.drewN k) os:=Any.strconv_FormatInt_10 Tryz.laysM173 n h0 h1 w htab
def Tryz.laysC245_ren:Go.Shelf.Ren:=⟨fun | 245=>296 | 279=>320 | 280=>321 | 281=>322 | 282=>323 | 316=>343 | 171=>168 | 205=>344 | 243=>243 | 246=>244 | 283=>286 | 284=>287 | 285=>288 | 286=>289 | 129=>241 | 317=>310 | 318=>311 | 319=>312 | 320=>313 | 337=>330 | 338=>331 | n=>n,fun | 9=>9 | 3=>3 | 75=>96 | 167=>393 | 4=>4 | 168=>394 | 210=>410 | 37=>276 | 0=>0 | 127=>335 | 145=>428 | 143=>426 | 2=>2 | 171=>358 | 53=>58 | 5=>5 | 173=>360 | 212=>385 | 51=>316 | 20=>20 | 213=>386 | 46=>151 | 232=>412 | 233=>413 | 80=>282 | n=>n,fun | 15=>5 | 16=>6 | 17=>3 | 18=>7 | 19=>8 | n=>n⟩
theorem Tryz.laysC245:Go.Proofs.LaysC.n245 Tryz.prog Tryz.laysC245_ren:={
 mixed:=by kernel_rfl
 f129:=Tryz.func241.trans (congrArg some (by kernel_rfl))
 f171:=Tryz.func168.trans (congrArg some (by kernel_rfl))
 f205:=Tryz.func344.trans (congrArg some (by kernel_rfl))
 f243:=Tryz.func243.trans (congrArg some (by kernel_rfl))
 f245:=Tryz.func296.trans (congrArg some (by kernel_rfl))
 f246:=Tryz.func244.trans (congrArg some (by kernel_rfl))
 f279:=Tryz.func320.trans (congrArg some (by kernel_rfl))
 f280:=Tryz.func321.trans (congrArg some (by kernel_rfl))
 f281:=Tryz.func322.trans (congrArg some (by kernel_rfl))
 f282:=Tryz.func323.trans (congrArg some (by kernel_rfl))
 f283:=Tryz.func286.trans (congrArg some (by kernel_rfl))
 f284:=Tryz.func287.trans (congrArg some (by kernel_rfl))
 f285:=Tryz.func288.trans (congrArg some (by kernel_rfl))
 f286:=Tryz.func289.trans (congrArg some (by kernel_rfl))
 f316:=Tryz.func343.trans (congrArg some (by kernel_rfl))
 f317:=Tryz.func310.trans (congrArg some (by kernel_rfl))
 f318:=Tryz.func311.trans (congrArg some (by kernel_rfl))
 f319:=Tryz.func312.trans (congrArg some (by kernel_rfl))
 f320:=Tryz.func313.trans (congrArg some (by kernel_rfl))
 f337:=Tryz.func330.trans (congrArg some (by kernel_rfl))
 f338:=Tryz.func331.trans (congrArg some (by kernel_rfl))
 t0:=Tryz.underlying0
 a0:=Tryz.isAgg0
 z0:=Tryz.sizeOf0
 v0:=Tryz.zeroValue0
 t2:=Tryz.underlying2
 a2:=Tryz.isAgg2
 z2:=Tryz.sizeOf2
 v2:=Tryz.zeroValue2
 t3:=Tryz.underlying3
 a3:=Tryz.isAgg3
 z3:=Tryz.sizeOf3
 v3:=Tryz.zeroValue3
 t4:=Tryz.underlying4
 a4:=Tryz.isAgg4
 z4:=Tryz.sizeOf4
 v4:=Tryz.zeroValue4
 t5:=Tryz.underlying5
 a5:=Tryz.isAgg5
 z5:=Tryz.sizeOf5
 v5:=Tryz.zeroValue5
 t9:=Tryz.underlying9
 a9:=Tryz.isAgg9
 z9:=Tryz.sizeOf9
 v9:=Tryz.zeroValue9
 t20:=Tryz.underlying20
 a20:=Tryz.isAgg20
 z20:=Tryz.sizeOf20
 v20:=Tryz.zeroValue20
 t37:=Tryz.underlying276
 a37:=Tryz.isAgg276
 z37:=Tryz.sizeOf276
 v37:=Tryz.zeroValue276
 t46:=Tryz.underlying151
 a46:=Tryz.isAgg151
 z46:=Tryz.sizeOf151
 v46:=Tryz.zeroValue151
 t51:=Tryz.underlying316
 a51:=Tryz.isAgg316
 z51:=Tryz.sizeOf316
 v51:=Tryz.zeroValue316
 t53:=Tryz.underlying58
 a53:=Tryz.isAgg58
 z53:=Tryz.sizeOf58
 v53:=Tryz.zeroValue58
 t75:=Tryz.underlying96
 a75:=Tryz.isAgg96
 z75:=Tryz.sizeOf96
 v75:=Tryz.zeroValue96
 t127:=Tryz.underlying335
 a127:=Tryz.isAgg335
 z127:=Tryz.sizeOf335
 v127:=Tryz.zeroValue335
 t143:=Tryz.underlying426
 a143:=Tryz.isAgg426
 z143:=Tryz.sizeOf426
 v143:=Tryz.zeroValue426
 t145:=Tryz.underlying428
 a145:=Tryz.isAgg428
 z145:=Tryz.sizeOf428
 v145:=Tryz.zeroValue428
 t167:=Tryz.underlying393
 a167:=Tryz.isAgg393
 z167:=Tryz.sizeOf393
 v167:=Tryz.zeroValue393
 t168:=Tryz.underlying394
 a168:=Tryz.isAgg394
 z168:=Tryz.sizeOf394
 v168:=Tryz.zeroValue394
 t171:=Tryz.underlying358
 a171:=Tryz.isAgg358
 z171:=Tryz.sizeOf358
 v171:=Tryz.zeroValue358
 t173:=Tryz.underlying360
 a173:=Tryz.isAgg360
 z173:=Tryz.sizeOf360
 v173:=Tryz.zeroValue360
 t210:=Tryz.underlying410
 a210:=Tryz.isAgg410
 z210:=Tryz.sizeOf410
 v210:=Tryz.zeroValue410
 t212:=Tryz.underlying385
 a212:=Tryz.isAgg385
 z212:=Tryz.sizeOf385
 v212:=Tryz.zeroValue385
 t213:=Tryz.underlying386
 a213:=Tryz.isAgg386
 z213:=Tryz.sizeOf386
 t232:=Tryz.underlying412
 a232:=Tryz.isAgg412
 z232:=Tryz.sizeOf412
 v232:=Tryz.zeroValue412
 t233:=Tryz.underlying413
 a233:=Tryz.isAgg413
 z233:=Tryz.sizeOf413
 v233:=Tryz.zeroValue413
 g15:=by kernel_rfl
 g16:=by kernel_rfl
 g17:=by kernel_rfl
 g18:=by kernel_rfl
 g19:=by kernel_rfl
 t80:=Tryz.underlying282
 a80:=Tryz.isAgg282
 z80:=Tryz.sizeOf282
 v80:=Tryz.zeroValue282
 i0:=by kernel_rfl
 i2:=by kernel_rfl
 i3:=by kernel_rfl
 i4:=by kernel_rfl
 i5:=by kernel_rfl
 i9:=by kernel_rfl
 i20:=by kernel_rfl
 i37:=by kernel_rfl
 i46:=by kernel_rfl
 i51:=by kernel_rfl
 i53:=by kernel_rfl
 i75:=by kernel_rfl
 i80:=by kernel_rfl
 i127:=by kernel_rfl
 i143:=by kernel_rfl
 i145:=by kernel_rfl
 i167:=by kernel_rfl
 i168:=by kernel_rfl
 i171:=by kernel_rfl
 i173:=by kernel_rfl
 i210:=by kernel_rfl
 i212:=by kernel_rfl
 i232:=by kernel_rfl
 i233:=by kernel_rfl
 m15:=by kernel_rfl
 m16:=by kernel_rfl
 m17:=by kernel_rfl
 m18:=by kernel_rfl
 m19:=by kernel_rfl
 c0:=by kernel_rfl
 c2:=by kernel_rfl
 c3:=by kernel_rfl
 c4:=by kernel_rfl
 c5:=by kernel_rfl
 c9:=by kernel_rfl
 c20:=by kernel_rfl
 c37:=by kernel_rfl
 c46:=by kernel_rfl
 c51:=by kernel_rfl
 c53:=by kernel_rfl
 c75:=by kernel_rfl
 c80:=by kernel_rfl
 c127:=by kernel_rfl
 c143:=by kernel_rfl
 c145:=by kernel_rfl
 c167:=by kernel_rfl
 c168:=by kernel_rfl
 c171:=by kernel_rfl
 c173:=by kernel_rfl
 c210:=by kernel_rfl
 c212:=by kernel_rfl
 c213:=by kernel_rfl
 c232:=by kernel_rfl
 c233:=by kernel_rfl }
open Go.RowKit in
theorem Tryz.strconv_toError_syntax (fn s:ByteArray) (base bits:Int) (ev:Value) (w:World) (hlim:s.size≤281474976710656) (hv:w.cell? ⟨5,0,none⟩=some ev) (hev:ev = .nilIface∨∃ te pe,ev = .iface te pe) :
  Calls Tryz.prog 296 #[.string fn,.string s,.int .i64 base,.int .i64 bits,.iface 393 (.int .i64 2)] w fun e w' => ∃ N,e = .returned (.iface 394 (.pointer (some ⟨N,0,none⟩)))∧w.heap.size≤N∧w'.heap[N]? = some (.cells #[.string fn,.string s,ev] 410 (0,0))∧Below w.heap.size w w':=Any.strconv_toError_syntax Tryz.laysC245 fn s base bits ev w hlim hv hev
def Tryz.laysC174_ren:Go.Shelf.Ren:=⟨fun | 174=>264 | 247=>295 | 245=>296 | 287=>319 | 279=>320 | 280=>321 | 281=>322 | 282=>323 | 321=>341 | 322=>342 | 316=>343 | 171=>168 | 205=>344 | 243=>243 | 246=>244 | 283=>286 | 284=>287 | 285=>288 | 286=>289 | 129=>241 | 317=>310 | 318=>311 | 319=>312 | 320=>313 | 337=>330 | 338=>331 | n=>n,fun | 9=>9 | 3=>3 | 2=>2 | 75=>96 | 85=>338 | 4=>4 | 167=>393 | 5=>5 | 53=>58 | 175=>368 | 46=>151 | 168=>394 | 37=>276 | 0=>0 | 210=>410 | 21=>21 | 127=>335 | 145=>428 | 143=>426 | 171=>358 | 173=>360 | 212=>385 | 51=>316 | 20=>20 | 213=>386 | 232=>412 | 233=>413 | 80=>282 | n=>n,fun | 15=>5 | 16=>6 | 17=>3 | 18=>7 | 19=>8 | n=>n⟩
theorem Tryz.laysC174:Go.Proofs.LaysC.n174 Tryz.prog Tryz.laysC174_ren:={
 mixed:=by kernel_rfl
 f129:=Tryz.func241.trans (congrArg some (by kernel_rfl))
 f171:=Tryz.func168.trans (congrArg some (by kernel_rfl))
 f174:=Tryz.func264.trans (congrArg some (by kernel_rfl))
 f205:=Tryz.func344.trans (congrArg some (by kernel_rfl))
 f243:=Tryz.func243.trans (congrArg some (by kernel_rfl))
 f245:=Tryz.func296.trans (congrArg some (by kernel_rfl))
 f246:=Tryz.func244.trans (congrArg some (by kernel_rfl))
 f247:=Tryz.func295.trans (congrArg some (by kernel_rfl))
 f279:=Tryz.func320.trans (congrArg some (by kernel_rfl))
 f280:=Tryz.func321.trans (congrArg some (by kernel_rfl))
 f281:=Tryz.func322.trans (congrArg some (by kernel_rfl))
 f282:=Tryz.func323.trans (congrArg some (by kernel_rfl))
 f283:=Tryz.func286.trans (congrArg some (by kernel_rfl))
 f284:=Tryz.func287.trans (congrArg some (by kernel_rfl))
 f285:=Tryz.func288.trans (congrArg some (by kernel_rfl))
 f286:=Tryz.func289.trans (congrArg some (by kernel_rfl))
 f287:=Tryz.func319.trans (congrArg some (by kernel_rfl))
 f316:=Tryz.func343.trans (congrArg some (by kernel_rfl))
 f317:=Tryz.func310.trans (congrArg some (by kernel_rfl))
 f318:=Tryz.func311.trans (congrArg some (by kernel_rfl))
 f319:=Tryz.func312.trans (congrArg some (by kernel_rfl))
 f320:=Tryz.func313.trans (congrArg some (by kernel_rfl))
 f321:=Tryz.func341.trans (congrArg some (by kernel_rfl))
 f322:=Tryz.func342.trans (congrArg some (by kernel_rfl))
 f337:=Tryz.func330.trans (congrArg some (by kernel_rfl))
 f338:=Tryz.func331.trans (congrArg some (by kernel_rfl))
 t0:=Tryz.underlying0
 a0:=Tryz.isAgg0
 z0:=Tryz.sizeOf0
 v0:=Tryz.zeroValue0
 t2:=Tryz.underlying2
 a2:=Tryz.isAgg2
 z2:=Tryz.sizeOf2
 v2:=Tryz.zeroValue2
 t3:=Tryz.underlying3
 a3:=Tryz.isAgg3
 z3:=Tryz.sizeOf3
 v3:=Tryz.zeroValue3
 t4:=Tryz.underlying4
 a4:=Tryz.isAgg4
 z4:=Tryz.sizeOf4
 v4:=Tryz.zeroValue4
 t5:=Tryz.underlying5
 a5:=Tryz.isAgg5
 z5:=Tryz.sizeOf5
 v5:=Tryz.zeroValue5
 t9:=Tryz.underlying9
 a9:=Tryz.isAgg9
 z9:=Tryz.sizeOf9
 v9:=Tryz.zeroValue9
 t20:=Tryz.underlying20
 a20:=Tryz.isAgg20
 z20:=Tryz.sizeOf20
 v20:=Tryz.zeroValue20
 t21:=Tryz.underlying21
 a21:=Tryz.isAgg21
 z21:=Tryz.sizeOf21
 v21:=Tryz.zeroValue21
 t37:=Tryz.underlying276
 a37:=Tryz.isAgg276
 z37:=Tryz.sizeOf276
 v37:=Tryz.zeroValue276
 t46:=Tryz.underlying151
 a46:=Tryz.isAgg151
 z46:=Tryz.sizeOf151
 v46:=Tryz.zeroValue151
 t51:=Tryz.underlying316
 a51:=Tryz.isAgg316
 z51:=Tryz.sizeOf316
 v51:=Tryz.zeroValue316
 t53:=Tryz.underlying58
 a53:=Tryz.isAgg58
 z53:=Tryz.sizeOf58
 v53:=Tryz.zeroValue58
 t75:=Tryz.underlying96
 a75:=Tryz.isAgg96
 z75:=Tryz.sizeOf96
 v75:=Tryz.zeroValue96
 t85:=Tryz.underlying338
 a85:=Tryz.isAgg338
 z85:=Tryz.sizeOf338
 v85:=Tryz.zeroValue338
 t127:=Tryz.underlying335
 a127:=Tryz.isAgg335
 z127:=Tryz.sizeOf335
 v127:=Tryz.zeroValue335
 t143:=Tryz.underlying426
 a143:=Tryz.isAgg426
 z143:=Tryz.sizeOf426
 v143:=Tryz.zeroValue426
 t145:=Tryz.underlying428
 a145:=Tryz.isAgg428
 z145:=Tryz.sizeOf428
 v145:=Tryz.zeroValue428
 t167:=Tryz.underlying393
 a167:=Tryz.isAgg393
 z167:=Tryz.sizeOf393
 v167:=Tryz.zeroValue393
 t168:=Tryz.underlying394
 a168:=Tryz.isAgg394
 z168:=Tryz.sizeOf394
 v168:=Tryz.zeroValue394
 t171:=Tryz.underlying358
 a171:=Tryz.isAgg358
 z171:=Tryz.sizeOf358
 v171:=Tryz.zeroValue358
 t173:=Tryz.underlying360
 a173:=Tryz.isAgg360
 z173:=Tryz.sizeOf360
 v173:=Tryz.zeroValue360
 t175:=Tryz.underlying368
 a175:=Tryz.isAgg368
 z175:=Tryz.sizeOf368
 v175:=Tryz.zeroValue368
 t210:=Tryz.underlying410
 a210:=Tryz.isAgg410
 z210:=Tryz.sizeOf410
 v210:=Tryz.zeroValue410
 t212:=Tryz.underlying385
 a212:=Tryz.isAgg385
 z212:=Tryz.sizeOf385
 v212:=Tryz.zeroValue385
 t213:=Tryz.underlying386
 a213:=Tryz.isAgg386
 z213:=Tryz.sizeOf386
 t232:=Tryz.underlying412
 a232:=Tryz.isAgg412
 z232:=Tryz.sizeOf412
 v232:=Tryz.zeroValue412
 t233:=Tryz.underlying413
 a233:=Tryz.isAgg413
 z233:=Tryz.sizeOf413
 v233:=Tryz.zeroValue413
 g15:=by kernel_rfl
 g16:=by kernel_rfl
 g17:=by kernel_rfl
 g18:=by kernel_rfl
 g19:=by kernel_rfl
 t80:=Tryz.underlying282
 a80:=Tryz.isAgg282
 z80:=Tryz.sizeOf282
 v80:=Tryz.zeroValue282
 i0:=by kernel_rfl
 i2:=by kernel_rfl
 i3:=by kernel_rfl
 i4:=by kernel_rfl
 i5:=by kernel_rfl
 i9:=by kernel_rfl
 i20:=by kernel_rfl
 i21:=by kernel_rfl
 i37:=by kernel_rfl
 i46:=by kernel_rfl
 i51:=by kernel_rfl
 i53:=by kernel_rfl
 i75:=by kernel_rfl
 i80:=by kernel_rfl
 i85:=by kernel_rfl
 i127:=by kernel_rfl
 i143:=by kernel_rfl
 i145:=by kernel_rfl
 i167:=by kernel_rfl
 i168:=by kernel_rfl
 i171:=by kernel_rfl
 i173:=by kernel_rfl
 i175:=by kernel_rfl
 i210:=by kernel_rfl
 i212:=by kernel_rfl
 i232:=by kernel_rfl
 i233:=by kernel_rfl
 m15:=by kernel_rfl
 m16:=by kernel_rfl
 m17:=by kernel_rfl
 m18:=by kernel_rfl
 m19:=by kernel_rfl
 c0:=by kernel_rfl
 c2:=by kernel_rfl
 c3:=by kernel_rfl
 c4:=by kernel_rfl
 c5:=by kernel_rfl
 c9:=by kernel_rfl
 c20:=by kernel_rfl
 c21:=by kernel_rfl
 c37:=by kernel_rfl
 c46:=by kernel_rfl
 c51:=by kernel_rfl
 c53:=by kernel_rfl
 c75:=by kernel_rfl
 c80:=by kernel_rfl
 c85:=by kernel_rfl
 c127:=by kernel_rfl
 c143:=by kernel_rfl
 c145:=by kernel_rfl
 c167:=by kernel_rfl
 c168:=by kernel_rfl
 c171:=by kernel_rfl
 c173:=by kernel_rfl
 c175:=by kernel_rfl
 c210:=by kernel_rfl
 c212:=by kernel_rfl
 c213:=by kernel_rfl
 c232:=by kernel_rfl
 c233:=by kernel_rfl }
open Go.RowKit in
theorem Tryz.strconv_ParseInt_10_at64_ok (s:ByteArray) (hmax:s.size≤9223372036854775806) (v:Int) (h:Lib.parseIntB 64 s.data.toList = .ok v) (w:World) :
  Calls Tryz.prog 264 #[.string s,.int .i64 10,.int .i64 64] w fun e w'=>e = .returned (.tuple #[.int .i64 v,.nilIface])∧(w'=w∨∃ t,w'=Lib.bytesWorld w 5 t):=Any.strconv_ParseInt_10_at64_ok Tryz.laysC174 s hmax v h w
open Go.RowKit in
theorem Tryz.strconv_ParseInt_10_at64_syntax (s:ByteArray) (hlim:s.size≤281474976710656) (h:Lib.parseIntB 64 s.data.toList=Lib.parseIntB 64 []) (ev:Value) (w:World) (hv:w.cell? ⟨5,0,none⟩=some ev) (hev:ev = .nilIface∨∃ te pe,ev = .iface te pe) :
  Calls Tryz.prog 264 #[.string s,.int .i64 10,.int .i64 64] w fun e w' => ∃ N,e = .returned (.tuple #[.int .i64 (0),.iface 394 (.pointer (some ⟨N,0,none⟩))])∧w.heap.size≤N∧w'.heap[N]? = some (.cells #[.string ⟨#[80,97,114,115,101,73,110,116]⟩,.string s,ev] 410 (0,0))∧Below w.heap.size w w':=Any.strconv_ParseInt_10_at64_syntax Tryz.laysC174 s hlim (h.trans (by kernel_rfl)) ev w hv hev
open Go.RowKit in
theorem Tryz.strconv_ParseInt_10_at64_range (s:ByteArray) (hlim:s.size≤281474976710656) (h:Lib.parseIntB 64 s.data.toList = .range) (ev:Value) (w:World) (hv:w.cell? ⟨6,0,none⟩=some ev) (hev:ev = .nilIface∨∃ te pe,ev = .iface te pe) :
  Calls Tryz.prog 264 #[.string s,.int .i64 10,.int .i64 64] w fun e w' => ∃ N,e = .returned (.tuple #[.int .i64 (Lib.intSat 64 s.data.toList),.iface 394 (.pointer (some ⟨N,0,none⟩))])∧w.heap.size≤N∧w'.heap[N]? = some (.cells #[.string ⟨#[80,97,114,115,101,73,110,116]⟩,.string s,ev] 410 (0,0))∧Below w.heap.size w w':=Any.strconv_ParseInt_10_at64_range Tryz.laysC174 s hlim h ev w hv hev
def Tryz.lays99_ren:Go.Shelf.Ren:=⟨fun | 99=>211 | 206=>265 | n=>n,fun | 9=>9 | 4=>4 | 3=>3 | n=>n,fun | n=>n⟩
theorem Tryz.lays99:Go.Proofs.Lays.n99 Tryz.prog Tryz.lays99_ren:={
 mixed:=by kernel_rfl
 f99:=Tryz.func211.trans (congrArg some (by kernel_rfl))
 f206:=Tryz.func265.trans (congrArg some (by kernel_rfl))
 t3:=Tryz.underlying3
 a3:=Tryz.isAgg3
 z3:=Tryz.sizeOf3
 v3:=Tryz.zeroValue3
 t4:=Tryz.underlying4
 a4:=Tryz.isAgg4
 z4:=Tryz.sizeOf4
 v4:=Tryz.zeroValue4
 t9:=Tryz.underlying9
 a9:=Tryz.isAgg9
 z9:=Tryz.sizeOf9
 v9:=Tryz.zeroValue9 }
open Go.RowKit Go.Lib in
theorem Tryz.strings_HasPrefix (s p:ByteArray) (w:World) :
  Calls Tryz.prog 211 #[.string s,.string p] w fun e w'=>e = .returned (.bool (Lib.hasPrefix s.data.toList p.data.toList))∧w'=w:=Any.strings_HasPrefix Tryz.lays99 s p w
open Go.RowKit Go.Lib in
theorem Tryz.strings_ToLower_any (s:ByteArray) (w:World) (hs:s.size < 35184372088832) (hV:CaseVar 16 caseA w) (hT:Lib.Utf8Tabs 9 10 w) :
  Calls Tryz.prog 293 #[.string s] w fun e w'=>e = .returned (.string ⟨(Lib.toLowerD s.data.toList).toArray⟩)∧Below w.heap.size w w':=Any.strings_ToLower_any Tryz.lays159 Tryz.Builder_Extra_159 s w hs hV hT
end Go.Proofs
