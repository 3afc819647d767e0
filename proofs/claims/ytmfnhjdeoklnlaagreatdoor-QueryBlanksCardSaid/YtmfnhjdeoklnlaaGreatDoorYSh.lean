/- The shelf's contracts at this program: the library's functions that it calls, laid by the kit's own tools. -/
import Derived.Shelf.Strings.Builder1
import Derived.Shelf.Strings.Builder2
import Derived.Shelf.Strings.OnBuilder
import Derived.Shelf.Small.Utf8
import Derived.Shelf.Strings.BuilderF
import Derived.Shelf.Strings.BuilderK
import Derived.Shelf.Strings.BuilderRune
import Derived.Shelf.Strconv.Itoa0
import Derived.Shelf.Strconv.Itoa1
import Derived.Shelf.LaysM
import Derived.Shelf.Strconv.Itoa2
import Derived.Shelf.Strconv.Itoa3
import Derived.Shelf.Strconv.Itoa4
import Derived.Shelf.Strconv.ParseIntEmpty
import Derived.Shelf.Strconv.Clone
import Derived.Shelf.Strconv.SyntaxError
import Derived.Shelf.LaysC
import Derived.Shelf.Strconv.ToError
import Derived.Shelf.Strconv.Lower
import Derived.Shelf.Strconv.ParseUint10
import Derived.Shelf.Strconv.ParseUint10Empty
import Derived.Shelf.Strconv.ParseUint10Any
import Derived.Shelf.Strconv.ParseInt10
import Derived.Shelf.Strconv.RangeError
import Derived.Shelf.Strconv.ToErrorRange
import Derived.Shelf.Strconv.ParseUintEmpty
import Derived.Shelf.Strconv.ParseUint10b64
import Derived.Shelf.Strconv.ParseUint10b32
import Derived.Shelf.Strconv.ParseUint10b16
import Derived.Shelf.Strconv.ParseUint10b8
import Derived.Shelf.Strconv.ParseUint10At
import Derived.Shelf.Strconv.ParseInt10At64
import Derived.Shelf.Strconv.ParseInt10At32
import Derived.Shelf.Strconv.ParseInt10At16
import Derived.Shelf.Strconv.ParseInt10At8
import Derived.Shelf.Strconv.ParseInt10All
import Derived.Shelf.Strconv.ParseIntPublic10
import Derived.Shelf.Strings.Prefix
import Derived.Shelf.Unicode.Latin
import Derived.Shelf.Unicode.DecodeSlow
import Derived.Shelf.Unicode.DecodeAny
import Derived.Shelf.Unicode.CaseLookup
import Derived.Shelf.Unicode.CaseConvert
import Derived.Shelf.Unicode.CaseTo
import Derived.Shelf.Unicode.CaseLaid
import Derived.Shelf.Strings.MapAny
import Derived.Shelf.Strings.CaseAny
import Derived.Shelf.Slices.Equal
import Derived.Shelf.Slices.Empties2
import Derived.Test.YtmfnhjdeoklnlaaGreatDoorProg
namespace Go.Proofs
open Go.Shelf
def Tryz.lays159_ren:Go.Shelf.Ren:=⟨fun | 159=>216 | 165=>120 | 166=>121 | 167=>234 | 169=>122 | 230=>235 | 204=>236 | 240=>178 | 241=>179 | 197=>249 | 118=>250 | 168=>251 | 270=>252 | 262=>253 | 276=>214 | 277=>215 | 260=>260 | 242=>261 | 313=>262 | 278=>264 | 274=>265 | 275=>266 | n=>n,fun | 9=>9 | 4=>4 | 3=>3 | 5=>5 | 72=>163 | 0=>0 | 76=>165 | 75=>73 | 107=>270 | 70=>160 | 20=>20 | 37=>161 | 127=>207 | 21=>21 | 105=>280 | 164=>109 | 162=>294 | 203=>292 | 119=>298 | 46=>206 | 139=>301 | 138=>300 | 51=>264 | 160=>302 | 208=>308 | 206=>306 | 80=>167 | n=>n,fun | 13=>9 | 3=>10 | 4=>11 | n=>n⟩
theorem Tryz.lays159:Go.Proofs.Lays.n159 Tryz.prog Tryz.lays159_ren:={
 mixed:=by kernel_rfl
 f118:=Tryz.func250.trans (congrArg some (by kernel_rfl))
 f159:=Tryz.func216.trans (congrArg some (by kernel_rfl))
 f165:=Tryz.func120.trans (congrArg some (by kernel_rfl))
 f166:=Tryz.func121.trans (congrArg some (by kernel_rfl))
 f167:=Tryz.func234.trans (congrArg some (by kernel_rfl))
 f168:=Tryz.func251.trans (congrArg some (by kernel_rfl))
 f169:=Tryz.func122.trans (congrArg some (by kernel_rfl))
 f197:=Tryz.func249.trans (congrArg some (by kernel_rfl))
 f204:=Tryz.func236.trans (congrArg some (by kernel_rfl))
 f230:=Tryz.func235.trans (congrArg some (by kernel_rfl))
 f240:=Tryz.func178.trans (congrArg some (by kernel_rfl))
 f241:=Tryz.func179.trans (congrArg some (by kernel_rfl))
 f242:=Tryz.func261.trans (congrArg some (by kernel_rfl))
 f260:=Tryz.func260.trans (congrArg some (by kernel_rfl))
 f262:=Tryz.func253.trans (congrArg some (by kernel_rfl))
 f270:=Tryz.func252.trans (congrArg some (by kernel_rfl))
 f274:=Tryz.func265.trans (congrArg some (by kernel_rfl))
 f275:=Tryz.func266.trans (congrArg some (by kernel_rfl))
 f276:=Tryz.func214.trans (congrArg some (by kernel_rfl))
 f277:=Tryz.func215.trans (congrArg some (by kernel_rfl))
 f278:=Tryz.func264.trans (congrArg some (by kernel_rfl))
 f313:=Tryz.func262.trans (congrArg some (by kernel_rfl))
 t0:=Tryz.underlying0
 a0:=Tryz.isAgg0
 z0:=Tryz.sizeOf0
 v0:=Tryz.zeroValue0
 t3:=Tryz.underlying3
 a3:=Tryz.isAgg3
 z3:=Tryz.sizeOf3
 v3:=Tryz.zeroValue3
 t4:=Tryz.underlying4
 a4:=Tryz.isAgg4
 z4:=Tryz.sizeOf4
 v4:=Tryz.zeroValue4
 t5:=Tryz.underlying5
 a5:=Tryz.isAgg5
 z5:=Tryz.sizeOf5
 v5:=Tryz.zeroValue5
 t9:=Tryz.underlying9
 a9:=Tryz.isAgg9
 z9:=Tryz.sizeOf9
 v9:=Tryz.zeroValue9
 t20:=Tryz.underlying20
 a20:=Tryz.isAgg20
 z20:=Tryz.sizeOf20
 v20:=Tryz.zeroValue20
 t21:=Tryz.underlying21
 a21:=Tryz.isAgg21
 z21:=Tryz.sizeOf21
 v21:=Tryz.zeroValue21
 t37:=Tryz.underlying161
 a37:=Tryz.isAgg161
 z37:=Tryz.sizeOf161
 v37:=Tryz.zeroValue161
 t46:=Tryz.underlying206
 a46:=Tryz.isAgg206
 z46:=Tryz.sizeOf206
 v46:=Tryz.zeroValue206
 t51:=Tryz.underlying264
 a51:=Tryz.isAgg264
 z51:=Tryz.sizeOf264
 v51:=Tryz.zeroValue264
 t70:=Tryz.underlying160
 a70:=Tryz.isAgg160
 z70:=Tryz.sizeOf160
 v70:=Tryz.zeroValue160
 t72:=Tryz.underlying163
 a72:=Tryz.isAgg163
 z72:=Tryz.sizeOf163
 v72:=Tryz.zeroValue163
 t75:=Tryz.underlying73
 a75:=Tryz.isAgg73
 z75:=Tryz.sizeOf73
 v75:=Tryz.zeroValue73
 t76:=Tryz.underlying165
 a76:=Tryz.isAgg165
 z76:=Tryz.sizeOf165
 v76:=Tryz.zeroValue165
 t105:=Tryz.underlying280
 a105:=Tryz.isAgg280
 z105:=Tryz.sizeOf280
 v105:=Tryz.zeroValue280
 t107:=Tryz.underlying270
 a107:=Tryz.isAgg270
 z107:=Tryz.sizeOf270
 v107:=Tryz.zeroValue270
 t119:=Tryz.underlying298
 a119:=Tryz.isAgg298
 z119:=Tryz.sizeOf298
 t127:=Tryz.underlying207
 a127:=Tryz.isAgg207
 z127:=Tryz.sizeOf207
 v127:=Tryz.zeroValue207
 t138:=Tryz.underlying300
 a138:=Tryz.isAgg300
 z138:=Tryz.sizeOf300
 v138:=Tryz.zeroValue300
 t139:=Tryz.underlying301
 a139:=Tryz.isAgg301
 z139:=Tryz.sizeOf301
 v139:=Tryz.zeroValue301
 t160:=Tryz.underlying302
 a160:=Tryz.isAgg302
 z160:=Tryz.sizeOf302
 v160:=Tryz.zeroValue302
 t162:=Tryz.underlying294
 a162:=Tryz.isAgg294
 z162:=Tryz.sizeOf294
 v162:=Tryz.zeroValue294
 t164:=Tryz.underlying109
 a164:=Tryz.isAgg109
 z164:=Tryz.sizeOf109
 v164:=Tryz.zeroValue109
 t203:=Tryz.underlying292
 a203:=Tryz.isAgg292
 z203:=Tryz.sizeOf292
 v203:=Tryz.zeroValue292
 t206:=Tryz.underlying306
 a206:=Tryz.isAgg306
 z206:=Tryz.sizeOf306
 v206:=Tryz.zeroValue306
 t208:=Tryz.underlying308
 a208:=Tryz.isAgg308
 z208:=Tryz.sizeOf308
 v208:=Tryz.zeroValue308
 g3:=by kernel_rfl
 g4:=by kernel_rfl
 g13:=by kernel_rfl }
theorem Tryz.Builder_Extra_159:Builder.Extra Tryz.prog Tryz.lays159_ren:={
 sizeBuilder:=by kernel_rfl
 liesBuilder:=by kernel_rfl
 t5:=Tryz.underlying5
 a5:=Tryz.isAgg5
 z5:=Tryz.sizeOf5
 v5:=Tryz.zeroValue5
 infoByte:=by kernel_rfl
 cellsByte:=by kernel_rfl
 sizeByte:=by kernel_rfl
 neB5:=by decide }
def Tryz.lays156_ren:Go.Shelf.Ren:=⟨fun | 156=>60 | 165=>120 | 166=>121 | 169=>122 | 240=>178 | 241=>179 | 276=>214 | 277=>215 | n=>n,fun | 31=>23 | 9=>9 | 3=>3 | 4=>4 | 0=>0 | 20=>20 | 72=>163 | 76=>165 | 70=>160 | 37=>161 | 75=>73 | 127=>207 | 164=>109 | 5=>5 | 80=>167 | n=>n,fun | n=>n⟩
theorem Tryz.lays156:Go.Proofs.Lays.n156 Tryz.prog Tryz.lays156_ren:={
 mixed:=by kernel_rfl
 f156:=Tryz.func60.trans (congrArg some (by kernel_rfl))
 f165:=Tryz.func120.trans (congrArg some (by kernel_rfl))
 f166:=Tryz.func121.trans (congrArg some (by kernel_rfl))
 f169:=Tryz.func122.trans (congrArg some (by kernel_rfl))
 f240:=Tryz.func178.trans (congrArg some (by kernel_rfl))
 f241:=Tryz.func179.trans (congrArg some (by kernel_rfl))
 f276:=Tryz.func214.trans (congrArg some (by kernel_rfl))
 f277:=Tryz.func215.trans (congrArg some (by kernel_rfl))
 t0:=Tryz.underlying0
 a0:=Tryz.isAgg0
 z0:=Tryz.sizeOf0
 v0:=Tryz.zeroValue0
 t3:=Tryz.underlying3
 a3:=Tryz.isAgg3
 z3:=Tryz.sizeOf3
 v3:=Tryz.zeroValue3
 t4:=Tryz.underlying4
 a4:=Tryz.isAgg4
 z4:=Tryz.sizeOf4
 v4:=Tryz.zeroValue4
 t9:=Tryz.underlying9
 a9:=Tryz.isAgg9
 z9:=Tryz.sizeOf9
 v9:=Tryz.zeroValue9
 t20:=Tryz.underlying20
 a20:=Tryz.isAgg20
 z20:=Tryz.sizeOf20
 v20:=Tryz.zeroValue20
 t31:=Tryz.underlying23
 a31:=Tryz.isAgg23
 z31:=Tryz.sizeOf23
 v31:=Tryz.zeroValue23
 t37:=Tryz.underlying161
 a37:=Tryz.isAgg161
 z37:=Tryz.sizeOf161
 v37:=Tryz.zeroValue161
 t70:=Tryz.underlying160
 a70:=Tryz.isAgg160
 z70:=Tryz.sizeOf160
 v70:=Tryz.zeroValue160
 t72:=Tryz.underlying163
 a72:=Tryz.isAgg163
 z72:=Tryz.sizeOf163
 v72:=Tryz.zeroValue163
 t75:=Tryz.underlying73
 a75:=Tryz.isAgg73
 z75:=Tryz.sizeOf73
 v75:=Tryz.zeroValue73
 t76:=Tryz.underlying165
 a76:=Tryz.isAgg165
 z76:=Tryz.sizeOf165
 v76:=Tryz.zeroValue165
 t127:=Tryz.underlying207
 a127:=Tryz.isAgg207
 z127:=Tryz.sizeOf207
 v127:=Tryz.zeroValue207
 t164:=Tryz.underlying109
 a164:=Tryz.isAgg109
 z164:=Tryz.sizeOf109
 v164:=Tryz.zeroValue109 }
theorem Tryz.Builder_Extra_156:Builder.Extra Tryz.prog Tryz.lays156_ren:={
 sizeBuilder:=by kernel_rfl
 liesBuilder:=by kernel_rfl
 t5:=Tryz.underlying5
 a5:=Tryz.isAgg5
 z5:=Tryz.sizeOf5
 v5:=Tryz.zeroValue5
 infoByte:=by kernel_rfl
 cellsByte:=by kernel_rfl
 sizeByte:=by kernel_rfl
 neB5:=by decide }
open Go.RowKit in
theorem Tryz.strings_Join_none (a:Option Addr) (c:Nat) (sep:ByteArray) (w:World) :
  Calls Tryz.prog 60 #[.slice a 0 c,.string sep] w fun e w'=>e = .returned (.string ⟨#[]⟩)∧w'=w:=Any.strings_Join_none Tryz.lays156 Tryz.Builder_Extra_156 a c sep w
open Go.RowKit in
theorem Tryz.strings_Join (bk o c:Nat) (xs:List ByteArray) (sep:ByteArray) (w:World) (hcells:∀ (j:Nat) x,xs[j]? = some x→w.cell? ⟨bk,o + j,none⟩=some (.string x)) (hbk:bk < w.heap.size) (hN:xs.length≤140737488355328) (hcap:xs.length≤c) (hlen:(Lib.join (xs.map (·.data.toList)) sep.data.toList).length≤140737488355328) :
  Calls Tryz.prog 60 #[.slice (some ⟨bk,o,none⟩) xs.length c,.string sep] w fun e w'=>e = .returned (.string ⟨(Lib.join (xs.map (·.data.toList)) sep.data.toList).toArray⟩)∧Below w.heap.size w w':=Any.strings_Join Tryz.lays156 Tryz.Builder_Extra_156 bk o c xs sep w hcells hbk hN hcap hlen
def Tryz.laysM173_ren:Go.Shelf.Ren:=⟨fun | 173=>112 | 246=>177 | 283=>210 | 284=>211 | 285=>212 | 286=>213 | 129=>230 | 317=>229 | 318=>231 | 319=>232 | 320=>233 | 337=>247 | 338=>248 | n=>n,fun | 2=>2 | 3=>3 | 9=>9 | 4=>4 | 171=>239 | 0=>0 | 53=>240 | 37=>161 | 5=>5 | 173=>243 | 212=>263 | 51=>264 | 20=>20 | 213=>265 | 46=>206 | 232=>289 | 233=>290 | n=>n,fun | 17=>3 | 18=>7 | 19=>8 | n=>n⟩
theorem Tryz.laysM173:Go.Proofs.LaysM.n173 Tryz.prog Tryz.laysM173_ren:={
 mixed:=by kernel_rfl
 f129:=Tryz.func230.trans (congrArg some (by kernel_rfl))
 f173:=Tryz.func112.trans (congrArg some (by kernel_rfl))
 f246:=Tryz.func177.trans (congrArg some (by kernel_rfl))
 f283:=Tryz.func210.trans (congrArg some (by kernel_rfl))
 f284:=Tryz.func211.trans (congrArg some (by kernel_rfl))
 f285:=Tryz.func212.trans (congrArg some (by kernel_rfl))
 f286:=Tryz.func213.trans (congrArg some (by kernel_rfl))
 f317:=Tryz.func229.trans (congrArg some (by kernel_rfl))
 f318:=Tryz.func231.trans (congrArg some (by kernel_rfl))
 f319:=Tryz.func232.trans (congrArg some (by kernel_rfl))
 f320:=Tryz.func233.trans (congrArg some (by kernel_rfl))
 f337:=Tryz.func247.trans (congrArg some (by kernel_rfl))
 f338:=Tryz.func248.trans (congrArg some (by kernel_rfl))
 t0:=Tryz.underlying0
 a0:=Tryz.isAgg0
 z0:=Tryz.sizeOf0
 v0:=Tryz.zeroValue0
 t2:=Tryz.underlying2
 a2:=Tryz.isAgg2
 z2:=Tryz.sizeOf2
 v2:=Tryz.zeroValue2
 t3:=Tryz.underlying3
 a3:=Tryz.isAgg3
 z3:=Tryz.sizeOf3
 v3:=Tryz.zeroValue3
 t4:=Tryz.underlying4
 a4:=Tryz.isAgg4
 z4:=Tryz.sizeOf4
 v4:=Tryz.zeroValue4
 t5:=Tryz.underlying5
 a5:=Tryz.isAgg5
 z5:=Tryz.sizeOf5
 v5:=Tryz.zeroValue5
 t9:=Tryz.underlying9
 a9:=Tryz.isAgg9
 z9:=Tryz.sizeOf9
 v9:=Tryz.zeroValue9
 t20:=Tryz.underlying20
 a20:=Tryz.isAgg20
 z20:=Tryz.sizeOf20
 v20:=Tryz.zeroValue20
 t37:=Tryz.underlying161
 a37:=Tryz.isAgg161
 z37:=Tryz.sizeOf161
 v37:=Tryz.zeroValue161
 t46:=Tryz.underlying206
 a46:=Tryz.isAgg206
 z46:=Tryz.sizeOf206
 v46:=Tryz.zeroValue206
 t51:=Tryz.underlying264
 a51:=Tryz.isAgg264
 z51:=Tryz.sizeOf264
 v51:=Tryz.zeroValue264
 t53:=Tryz.underlying240
 a53:=Tryz.isAgg240
 z53:=Tryz.sizeOf240
 v53:=Tryz.zeroValue240
 t171:=Tryz.underlying239
 a171:=Tryz.isAgg239
 z171:=Tryz.sizeOf239
 v171:=Tryz.zeroValue239
 t173:=Tryz.underlying243
 a173:=Tryz.isAgg243
 z173:=Tryz.sizeOf243
 v173:=Tryz.zeroValue243
 t212:=Tryz.underlying263
 a212:=Tryz.isAgg263
 z212:=Tryz.sizeOf263
 v212:=Tryz.zeroValue263
 t213:=Tryz.underlying265
 a213:=Tryz.isAgg265
 z213:=Tryz.sizeOf265
 t232:=Tryz.underlying289
 a232:=Tryz.isAgg289
 z232:=Tryz.sizeOf289
 v232:=Tryz.zeroValue289
 t233:=Tryz.underlying290
 a233:=Tryz.isAgg290
 z233:=Tryz.sizeOf290
 v233:=Tryz.zeroValue290
 g17:=by kernel_rfl
 g18:=by kernel_rfl
 g19:=by kernel_rfl
 i0:=by kernel_rfl
 i2:=by kernel_rfl
 i3:=by kernel_rfl
 i4:=by kernel_rfl
 i5:=by kernel_rfl
 i9:=by kernel_rfl
 i20:=by kernel_rfl
 i37:=by kernel_rfl
 i46:=by kernel_rfl
 i51:=by kernel_rfl
 i53:=by kernel_rfl
 i171:=by kernel_rfl
 i173:=by kernel_rfl
 i212:=by kernel_rfl
 i232:=by kernel_rfl
 i233:=by kernel_rfl
 m17:=by kernel_rfl
 m18:=by kernel_rfl
 m19:=by kernel_rfl }
open Go.RowKit Go.Sort Go.Lib in
theorem Tryz.strconv_FormatInt_10 (n : Int) (h0 : -9223372036854775808 ≤ n) (h1 : n ≤ 9223372036854775807) (w : World) (htab : Lib.TabIs Tryz.prog w "internal/strconv.uint64pow10" .u64 Lib.pow10Tab) :
  Calls Tryz.prog 112 #[.int .i64 n,.int .i64 10] w fun e w'=>e = .returned (.string ⟨(Lib.itoa n).toArray⟩)∧∃ k os,w'=grow (w.drewN k) os:=Any.strconv_FormatInt_10 Tryz.laysM173 n h0 h1 w htab
def Tryz.laysC245_ren:Go.Shelf.Ren:=⟨fun | 245=>219 | 279=>238 | 280=>239 | 281=>240 | 282=>241 | 316=>256 | 171=>258 | 205=>257 | 243=>263 | 246=>177 | 283=>210 | 284=>211 | 285=>212 | 286=>213 | 129=>230 | 317=>229 | 318=>231 | 319=>232 | 320=>233 | 337=>247 | 338=>248 | n=>n,fun | 9=>9 | 3=>3 | 75=>73 | 167=>271 | 4=>4 | 168=>272 | 210=>287 | 37=>161 | 0=>0 | 127=>207 | 145=>297 | 143=>295 | 2=>2 | 171=>239 | 53=>240 | 5=>5 | 173=>243 | 212=>263 | 51=>264 | 20=>20 | 213=>265 | 46=>206 | 232=>289 | 233=>290 | 80=>167 | n=>n,fun | 15=>5 | 16=>6 | 17=>3 | 18=>7 | 19=>8 | n=>n⟩
theorem Tryz.laysC245:Go.Proofs.LaysC.n245 Tryz.prog Tryz.laysC245_ren:={
 mixed:=by kernel_rfl
 f129:=Tryz.func230.trans (congrArg some (by kernel_rfl))
 f171:=Tryz.func258.trans (congrArg some (by kernel_rfl))
 f205:=Tryz.func257.trans (congrArg some (by kernel_rfl))
 f243:=Tryz.func263.trans (congrArg some (by kernel_rfl))
 f245:=Tryz.func219.trans (congrArg some (by kernel_rfl))
 f246:=Tryz.func177.trans (congrArg some (by kernel_rfl))
 f279:=Tryz.func238.trans (congrArg some (by kernel_rfl))
 f280:=Tryz.func239.trans (congrArg some (by kernel_rfl))
 f281:=Tryz.func240.trans (congrArg some (by kernel_rfl))
 f282:=Tryz.func241.trans (congrArg some (by kernel_rfl))
 f283:=Tryz.func210.trans (congrArg some (by kernel_rfl))
 f284:=Tryz.func211.trans (congrArg some (by kernel_rfl))
 f285:=Tryz.func212.trans (congrArg some (by kernel_rfl))
 f286:=Tryz.func213.trans (congrArg some (by kernel_rfl))
 f316:=Tryz.func256.trans (congrArg some (by kernel_rfl))
 f317:=Tryz.func229.trans (congrArg some (by kernel_rfl))
 f318:=Tryz.func231.trans (congrArg some (by kernel_rfl))
 f319:=Tryz.func232.trans (congrArg some (by kernel_rfl))
 f320:=Tryz.func233.trans (congrArg some (by kernel_rfl))
 f337:=Tryz.func247.trans (congrArg some (by kernel_rfl))
 f338:=Tryz.func248.trans (congrArg some (by kernel_rfl))
 t0:=Tryz.underlying0
 a0:=Tryz.isAgg0
 z0:=Tryz.sizeOf0
 v0:=Tryz.zeroValue0
 t2:=Tryz.underlying2
 a2:=Tryz.isAgg2
 z2:=Tryz.sizeOf2
 v2:=Tryz.zeroValue2
 t3:=Tryz.underlying3
 a3:=Tryz.isAgg3
 z3:=Tryz.sizeOf3
 v3:=Tryz.zeroValue3
 t4:=Tryz.underlying4
 a4:=Tryz.isAgg4
 z4:=Tryz.sizeOf4
 v4:=Tryz.zeroValue4
 t5:=Tryz.underlying5
 a5:=Tryz.isAgg5
 z5:=Tryz.sizeOf5
 v5:=Tryz.zeroValue5
 t9:=Tryz.underlying9
 a9:=Tryz.isAgg9
 z9:=Tryz.sizeOf9
 v9:=Tryz.zeroValue9
 t20:=Tryz.underlying20
 a20:=Tryz.isAgg20
 z20:=Tryz.sizeOf20
 v20:=Tryz.zeroValue20
 t37:=Tryz.underlying161
 a37:=Tryz.isAgg161
 z37:=Tryz.sizeOf161
 v37:=Tryz.zeroValue161
 t46:=Tryz.underlying206
 a46:=Tryz.isAgg206
 z46:=Tryz.sizeOf206
 v46:=Tryz.zeroValue206
 t51:=Tryz.underlying264
 a51:=Tryz.isAgg264
 z51:=Tryz.sizeOf264
 v51:=Tryz.zeroValue264
 t53:=Tryz.underlying240
 a53:=Tryz.isAgg240
 z53:=Tryz.sizeOf240
 v53:=Tryz.zeroValue240
 t75:=Tryz.underlying73
 a75:=Tryz.isAgg73
 z75:=Tryz.sizeOf73
 v75:=Tryz.zeroValue73
 t127:=Tryz.underlying207
 a127:=Tryz.isAgg207
 z127:=Tryz.sizeOf207
 v127:=Tryz.zeroValue207
 t143:=Tryz.underlying295
 a143:=Tryz.isAgg295
 z143:=Tryz.sizeOf295
 v143:=Tryz.zeroValue295
 t145:=Tryz.underlying297
 a145:=Tryz.isAgg297
 z145:=Tryz.sizeOf297
 v145:=Tryz.zeroValue297
 t167:=Tryz.underlying271
 a167:=Tryz.isAgg271
 z167:=Tryz.sizeOf271
 v167:=Tryz.zeroValue271
 t168:=Tryz.underlying272
 a168:=Tryz.isAgg272
 z168:=Tryz.sizeOf272
 v168:=Tryz.zeroValue272
 t171:=Tryz.underlying239
 a171:=Tryz.isAgg239
 z171:=Tryz.sizeOf239
 v171:=Tryz.zeroValue239
 t173:=Tryz.underlying243
 a173:=Tryz.isAgg243
 z173:=Tryz.sizeOf243
 v173:=Tryz.zeroValue243
 t210:=Tryz.underlying287
 a210:=Tryz.isAgg287
 z210:=Tryz.sizeOf287
 v210:=Tryz.zeroValue287
 t212:=Tryz.underlying263
 a212:=Tryz.isAgg263
 z212:=Tryz.sizeOf263
 v212:=Tryz.zeroValue263
 t213:=Tryz.underlying265
 a213:=Tryz.isAgg265
 z213:=Tryz.sizeOf265
 t232:=Tryz.underlying289
 a232:=Tryz.isAgg289
 z232:=Tryz.sizeOf289
 v232:=Tryz.zeroValue289
 t233:=Tryz.underlying290
 a233:=Tryz.isAgg290
 z233:=Tryz.sizeOf290
 v233:=Tryz.zeroValue290
 g15:=by kernel_rfl
 g16:=by kernel_rfl
 g17:=by kernel_rfl
 g18:=by kernel_rfl
 g19:=by kernel_rfl
 t80:=Tryz.underlying167
 a80:=Tryz.isAgg167
 z80:=Tryz.sizeOf167
 v80:=Tryz.zeroValue167
 i0:=by kernel_rfl
 i2:=by kernel_rfl
 i3:=by kernel_rfl
 i4:=by kernel_rfl
 i5:=by kernel_rfl
 i9:=by kernel_rfl
 i20:=by kernel_rfl
 i37:=by kernel_rfl
 i46:=by kernel_rfl
 i51:=by kernel_rfl
 i53:=by kernel_rfl
 i75:=by kernel_rfl
 i80:=by kernel_rfl
 i127:=by kernel_rfl
 i143:=by kernel_rfl
 i145:=by kernel_rfl
 i167:=by kernel_rfl
 i168:=by kernel_rfl
 i171:=by kernel_rfl
 i173:=by kernel_rfl
 i210:=by kernel_rfl
 i212:=by kernel_rfl
 i232:=by kernel_rfl
 i233:=by kernel_rfl
 m15:=by kernel_rfl
 m16:=by kernel_rfl
 m17:=by kernel_rfl
 m18:=by kernel_rfl
 m19:=by kernel_rfl
 c0:=by kernel_rfl
 c2:=by kernel_rfl
 c3:=by kernel_rfl
 c4:=by kernel_rfl
 c5:=by kernel_rfl
 c9:=by kernel_rfl
 c20:=by kernel_rfl
 c37:=by kernel_rfl
 c46:=by kernel_rfl
 c51:=by kernel_rfl
 c53:=by kernel_rfl
 c75:=by kernel_rfl
 c80:=by kernel_rfl
 c127:=by kernel_rfl
 c143:=by kernel_rfl
 c145:=by kernel_rfl
 c167:=by kernel_rfl
 c168:=by kernel_rfl
 c171:=by kernel_rfl
 c173:=by kernel_rfl
 c210:=by kernel_rfl
 c212:=by kernel_rfl
 c213:=by kernel_rfl
 c232:=by kernel_rfl
 c233:=by kernel_rfl }
open Go.RowKit in
theorem Tryz.strconv_toError_syntax (fn s:ByteArray) (base bits:Int) (ev:Value) (w:World) (hlim:s.size≤281474976710656) (hv:w.cell? ⟨5,0,none⟩=some ev) (hev:ev = .nilIface∨∃ te pe,ev = .iface te pe) :
  Calls Tryz.prog 219 #[.string fn,.string s,.int .i64 base,.int .i64 bits,.iface 271 (.int .i64 2)] w fun e w' => ∃ N,e = .returned (.iface 272 (.pointer (some ⟨N,0,none⟩)))∧w.heap.size≤N∧w'.heap[N]? = some (.cells #[.string fn,.string s,ev] 287 (0,0))∧Below w.heap.size w w':=Any.strconv_toError_syntax Tryz.laysC245 fn s base bits ev w hlim hv hev
def Tryz.laysC174_ren:Go.Shelf.Ren:=⟨fun | 174=>182 | 247=>218 | 245=>219 | 287=>237 | 279=>238 | 280=>239 | 281=>240 | 282=>241 | 321=>254 | 322=>255 | 316=>256 | 171=>258 | 205=>257 | 243=>263 | 246=>177 | 283=>210 | 284=>211 | 285=>212 | 286=>213 | 129=>230 | 317=>229 | 318=>231 | 319=>232 | 320=>233 | 337=>247 | 338=>248 | n=>n,fun | 9=>9 | 3=>3 | 2=>2 | 75=>73 | 85=>210 | 4=>4 | 167=>271 | 5=>5 | 53=>240 | 175=>247 | 46=>206 | 168=>272 | 37=>161 | 0=>0 | 210=>287 | 21=>21 | 127=>207 | 145=>297 | 143=>295 | 171=>239 | 173=>243 | 212=>263 | 51=>264 | 20=>20 | 213=>265 | 232=>289 | 233=>290 | 80=>167 | n=>n,fun | 15=>5 | 16=>6 | 17=>3 | 18=>7 | 19=>8 | n=>n⟩
theorem Tryz.laysC174:Go.Proofs.LaysC.n174 Tryz.prog Tryz.laysC174_ren:={
 mixed:=by kernel_rfl
 f129:=Tryz.func230.trans (congrArg some (by kernel_rfl))
 f171:=Tryz.func258.trans (congrArg some (by kernel_rfl))
 f174:=Tryz.func182.trans (congrArg some (by kernel_rfl))
 f205:=Tryz.func257.trans (congrArg some (by kernel_rfl))
 f243:=Tryz.func263.trans (congrArg some (by kernel_rfl))
 f245:=Tryz.func219.trans (congrArg some (by kernel_rfl))
 f246:=Tryz.func177.trans (congrArg some (by kernel_rfl))
 f247:=Tryz.func218.trans (congrArg some (by kernel_rfl))
 f279:=Tryz.func238.trans (congrArg some (by kernel_rfl))
 f280:=Tryz.func239.trans (congrArg some (by kernel_rfl))
 f281:=Tryz.func240.trans (congrArg some (by kernel_rfl))
 f282:=Tryz.func241.trans (congrArg some (by kernel_rfl))
 f283:=Tryz.func210.trans (congrArg some (by kernel_rfl))
 f284:=Tryz.func211.trans (congrArg some (by kernel_rfl))
 f285:=Tryz.func212.trans (congrArg some (by kernel_rfl))
 f286:=Tryz.func213.trans (congrArg some (by kernel_rfl))
 f287:=Tryz.func237.trans (congrArg some (by kernel_rfl))
 f316:=Tryz.func256.trans (congrArg some (by kernel_rfl))
 f317:=Tryz.func229.trans (congrArg some (by kernel_rfl))
 f318:=Tryz.func231.trans (congrArg some (by kernel_rfl))
 f319:=Tryz.func232.trans (congrArg some (by kernel_rfl))
 f320:=Tryz.func233.trans (congrArg some (by kernel_rfl))
 f321:=Tryz.func254.trans (congrArg some (by kernel_rfl))
 f322:=Tryz.func255.trans (congrArg some (by kernel_rfl))
 f337:=Tryz.func247.trans (congrArg some (by kernel_rfl))
 f338:=Tryz.func248.trans (congrArg some (by kernel_rfl))
 t0:=Tryz.underlying0
 a0:=Tryz.isAgg0
 z0:=Tryz.sizeOf0
 v0:=Tryz.zeroValue0
 t2:=Tryz.underlying2
 a2:=Tryz.isAgg2
 z2:=Tryz.sizeOf2
 v2:=Tryz.zeroValue2
 t3:=Tryz.underlying3
 a3:=Tryz.isAgg3
 z3:=Tryz.sizeOf3
 v3:=Tryz.zeroValue3
 t4:=Tryz.underlying4
 a4:=Tryz.isAgg4
 z4:=Tryz.sizeOf4
 v4:=Tryz.zeroValue4
 t5:=Tryz.underlying5
 a5:=Tryz.isAgg5
 z5:=Tryz.sizeOf5
 v5:=Tryz.zeroValue5
 t9:=Tryz.underlying9
 a9:=Tryz.isAgg9
 z9:=Tryz.sizeOf9
 v9:=Tryz.zeroValue9
 t20:=Tryz.underlying20
 a20:=Tryz.isAgg20
 z20:=Tryz.sizeOf20
 v20:=Tryz.zeroValue20
 t21:=Tryz.underlying21
 a21:=Tryz.isAgg21
 z21:=Tryz.sizeOf21
 v21:=Tryz.zeroValue21
 t37:=Tryz.underlying161
 a37:=Tryz.isAgg161
 z37:=Tryz.sizeOf161
 v37:=Tryz.zeroValue161
 t46:=Tryz.underlying206
 a46:=Tryz.isAgg206
 z46:=Tryz.sizeOf206
 v46:=Tryz.zeroValue206
 t51:=Tryz.underlying264
 a51:=Tryz.isAgg264
 z51:=Tryz.sizeOf264
 v51:=Tryz.zeroValue264
 t53:=Tryz.underlying240
 a53:=Tryz.isAgg240
 z53:=Tryz.sizeOf240
 v53:=Tryz.zeroValue240
 t75:=Tryz.underlying73
 a75:=Tryz.isAgg73
 z75:=Tryz.sizeOf73
 v75:=Tryz.zeroValue73
 t85:=Tryz.underlying210
 a85:=Tryz.isAgg210
 z85:=Tryz.sizeOf210
 v85:=Tryz.zeroValue210
 t127:=Tryz.underlying207
 a127:=Tryz.isAgg207
 z127:=Tryz.sizeOf207
 v127:=Tryz.zeroValue207
 t143:=Tryz.underlying295
 a143:=Tryz.isAgg295
 z143:=Tryz.sizeOf295
 v143:=Tryz.zeroValue295
 t145:=Tryz.underlying297
 a145:=Tryz.isAgg297
 z145:=Tryz.sizeOf297
 v145:=Tryz.zeroValue297
 t167:=Tryz.underlying271
 a167:=Tryz.isAgg271
 z167:=Tryz.sizeOf271
 v167:=Tryz.zeroValue271
 t168:=Tryz.underlying272
 a168:=Tryz.isAgg272
 z168:=Tryz.sizeOf272
 v168:=Tryz.zeroValue272
 t171:=Tryz.underlying239
 a171:=Tryz.isAgg239
 z171:=Tryz.sizeOf239
 v171:=Tryz.zeroValue239
 t173:=Tryz.underlying243
 a173:=Tryz.isAgg243
 z173:=Tryz.sizeOf243
 v173:=Tryz.zeroValue243
 t175:=Tryz.underlying247
 a175:=Tryz.isAgg247
 z175:=Tryz.sizeOf247
 v175:=Tryz.zeroValue247
 t210:=Tryz.underlying287
 a210:=Tryz.isAgg287
 z210:=Tryz.sizeOf287
 v210:=Tryz.zeroValue287
 t212:=Tryz.underlying263
 a212:=Tryz.isAgg263
 z212:=Tryz.sizeOf263
 v212:=Tryz.zeroValue263
 t213:=Tryz.underlying265
 a213:=Tryz.isAgg265
 z213:=Tryz.sizeOf265
 t232:=Tryz.underlying289
 a232:=Tryz.isAgg289
 z232:=Tryz.sizeOf289
 v232:=Tryz.zeroValue289
 t233:=Tryz.underlying290
 a233:=Tryz.isAgg290
 z233:=Tryz.sizeOf290
 v233:=Tryz.zeroValue290
 g15:=by kernel_rfl
 g16:=by kernel_rfl
 g17:=by kernel_rfl
 g18:=by kernel_rfl
 g19:=by kernel_rfl
 t80:=Tryz.underlying167
 a80:=Tryz.isAgg167
 z80:=Tryz.sizeOf167
 v80:=Tryz.zeroValue167
 i0:=by kernel_rfl
 i2:=by kernel_rfl
 i3:=by kernel_rfl
 i4:=by kernel_rfl
 i5:=by kernel_rfl
 i9:=by kernel_rfl
 i20:=by kernel_rfl
 i21:=by kernel_rfl
 i37:=by kernel_rfl
 i46:=by kernel_rfl
 i51:=by kernel_rfl
 i53:=by kernel_rfl
 i75:=by kernel_rfl
 i80:=by kernel_rfl
 i85:=by kernel_rfl
 i127:=by kernel_rfl
 i143:=by kernel_rfl
 i145:=by kernel_rfl
 i167:=by kernel_rfl
 i168:=by kernel_rfl
 i171:=by kernel_rfl
 i173:=by kernel_rfl
 i175:=by kernel_rfl
 i210:=by kernel_rfl
 i212:=by kernel_rfl
 i232:=by kernel_rfl
 i233:=by kernel_rfl
 m15:=by kernel_rfl
 m16:=by kernel_rfl
 m17:=by kernel_rfl
 m18:=by kernel_rfl
 m19:=by kernel_rfl
 c0:=by kernel_rfl
 c2:=by kernel_rfl
 c3:=by kernel_rfl
 c4:=by kernel_rfl
 c5:=by kernel_rfl
 c9:=by kernel_rfl
 c20:=by kernel_rfl
 c21:=by kernel_rfl
 c37:=by kernel_rfl
 c46:=by kernel_rfl
 c51:=by kernel_rfl
 c53:=by kernel_rfl
 c75:=by kernel_rfl
 c80:=by kernel_rfl
 c85:=by kernel_rfl
 c127:=by kernel_rfl
 c143:=by kernel_rfl
 c145:=by kernel_rfl
 c167:=by kernel_rfl
 c168:=by kernel_rfl
 c171:=by kernel_rfl
 c173:=by kernel_rfl
 c175:=by kernel_rfl
 c210:=by kernel_rfl
 c212:=by kernel_rfl
 c213:=by kernel_rfl
 c232:=by kernel_rfl
 c233:=by kernel_rfl }
open Go.RowKit in
theorem Tryz.strconv_ParseInt_10_at64_ok (s:ByteArray) (hmax:s.size≤9223372036854775806) (v:Int) (h:Lib.parseIntB 64 s.data.toList = .ok v) (w:World) :
  Calls Tryz.prog 182 #[.string s,.int .i64 10,.int .i64 64] w fun e w'=>e = .returned (.tuple #[.int .i64 v,.nilIface])∧(w'=w∨∃ t,w'=Lib.bytesWorld w 5 t):=Any.strconv_ParseInt_10_at64_ok Tryz.laysC174 s hmax v h w
open Go.RowKit in
theorem Tryz.strconv_ParseInt_10_at64_syntax (s:ByteArray) (hlim:s.size≤281474976710656) (h:Lib.parseIntB 64 s.data.toList=Lib.parseIntB 64 []) (ev:Value) (w:World) (hv:w.cell? ⟨5,0,none⟩=some ev) (hev:ev = .nilIface∨∃ te pe,ev = .iface te pe) :
  Calls Tryz.prog 182 #[.string s,.int .i64 10,.int .i64 64] w fun e w' => ∃ N,e = .returned (.tuple #[.int .i64 (0),.iface 272 (.pointer (some ⟨N,0,none⟩))])∧w.heap.size≤N∧w'.heap[N]? = some (.cells #[.string ⟨#[80,97,114,115,101,73,110,116]⟩,.string s,ev] 287 (0,0))∧Below w.heap.size w w':=Any.strconv_ParseInt_10_at64_syntax Tryz.laysC174 s hlim (h.trans (by kernel_rfl)) ev w hv hev
open Go.RowKit in
theorem Tryz.strconv_ParseInt_10_at64_range (s:ByteArray) (hlim:s.size≤281474976710656) (h:Lib.parseIntB 64 s.data.toList = .range) (ev:Value) (w:World) (hv:w.cell? ⟨6,0,none⟩=some ev) (hev:ev = .nilIface∨∃ te pe,ev = .iface te pe) :
  Calls Tryz.prog 182 #[.string s,.int .i64 10,.int .i64 64] w fun e w' => ∃ N,e = .returned (.tuple #[.int .i64 (Lib.intSat 64 s.data.toList),.iface 272 (.pointer (some ⟨N,0,none⟩))])∧w.heap.size≤N∧w'.heap[N]? = some (.cells #[.string ⟨#[80,97,114,115,101,73,110,116]⟩,.string s,ev] 287 (0,0))∧Below w.heap.size w w':=Any.strconv_ParseInt_10_at64_range Tryz.laysC174 s hlim h ev w hv hev
def Tryz.lays99_ren:Go.Shelf.Ren:=⟨fun | 99=>130 | 206=>183 | n=>n,fun | 9=>9 | 4=>4 | 3=>3 | n=>n,fun | n=>n⟩
theorem Tryz.lays99:Go.Proofs.Lays.n99 Tryz.prog Tryz.lays99_ren:={
 mixed:=by kernel_rfl
 f99:=Tryz.func130.trans (congrArg some (by kernel_rfl))
 f206:=Tryz.func183.trans (congrArg some (by kernel_rfl))
 t3:=Tryz.underlying3
 a3:=Tryz.isAgg3
 z3:=Tryz.sizeOf3
 v3:=Tryz.zeroValue3
 t4:=Tryz.underlying4
 a4:=Tryz.isAgg4
 z4:=Tryz.sizeOf4
 v4:=Tryz.zeroValue4
 t9:=Tryz.underlying9
 a9:=Tryz.isAgg9
 z9:=Tryz.sizeOf9
 v9:=Tryz.zeroValue9 }
open Go.RowKit Go.Lib in
theorem Tryz.strings_HasPrefix (s p:ByteArray) (w:World) :
  Calls Tryz.prog 130 #[.string s,.string p] w fun e w'=>e = .returned (.bool (Lib.hasPrefix s.data.toList p.data.toList))∧w'=w:=Any.strings_HasPrefix Tryz.lays99 s p w
open Go.RowKit Go.Lib in
theorem Tryz.strings_ToLower_any (s:ByteArray) (w:World) (hs:s.size < 35184372088832) (hV:CaseVar 9 caseA w) (hT:Lib.Utf8Tabs 10 11 w) :
  Calls Tryz.prog 216 #[.string s] w fun e w'=>e = .returned (.string ⟨(Lib.toLowerD s.data.toList).toArray⟩)∧Below w.heap.size w w':=Any.strings_ToLower_any Tryz.lays159 Tryz.Builder_Extra_159 s w hs hV hT
end Go.Proofs
