/- Joined texts: Shelf. -/
import Derived.Shelf.Strings.Trim
import Derived.Shelf.Small.Utf8
import Derived.Shelf.Small.Strs
import Derived.Shelf.Strconv.Itoa0
import Derived.Shelf.Strconv.Itoa1
import Derived.Shelf.LaysM
import Derived.Shelf.Strconv.Itoa2
import Derived.Shelf.Strconv.Itoa3
import Derived.Shelf.Strings.Search1
import Derived.Shelf.Strings.Search2
import Derived.Shelf.Strings.Search3
import Derived.Shelf.Strings.Shaped
import Derived.Shelf.GgClosure.StringsIndexFunc
import Derived.Ground.GgwProg
import Derived.Shelf.GgClosure.StringsIndexFuncTop
import Derived.Shelf.Unicode.Decode
import Derived.Shelf.Strings.Runes
import Derived.Shelf.Strings.AsciiSet
import Derived.Shelf.Unicode.DecodeSlow
import Derived.Shelf.Unicode.DecodeAny
import Derived.Shelf.Unicode.DecodeLast
import Derived.Shelf.Strings.FuncGrows
import Derived.Ground.Names2Prog
import Derived.Shelf.Slices.Clone
import Derived.Shelf.Slices.SearchI
import Derived.Ground.SlgnProg
import Derived.Shelf.SlicesE.Clone
import Derived.Test.YtjjkfgjnadaheaaGreatDoorProg
set_option linter.unusedVariables false
set_option linter.unusedSimpArgs false
/- The library's contracts at this seat's dump: written by the kit's lay-shelf and lay-plain, cut to what is used. -/
namespace Go.Proofs
open Go.Shelf
def Tryz.lays160_ren:Go.Shelf.Ren:=⟨fun | 160=>232 | 232=>255 | 231=>254 | 227=>256 | 234=>258 | 233=>257 | 236=>260 | 235=>259 | 228=>274 | 271=>277 | 151=>276 | 197=>275 | 120=>285 | 152=>284 | 260=>283 | 137=>288 | 119=>289 | 224=>252 | 225=>251 | 217=>250 | 266=>272 | n=>n,fun | 9=>9 | 4=>4 | 3=>3 | 5=>5 | 117=>283 | 116=>282 | 0=>0 | 124=>286 | 21=>21 | 105=>300 | 46=>279 | 119=>309 | 139=>312 | 138=>311 | n=>n,fun | 3=>10 | 4=>11 | n=>n⟩
theorem Tryz.lays160:Go.Proofs.Lays.n160 Tryz.prog Tryz.lays160_ren:={
 mixed:=by kernel_rfl
 f119:=Tryz.func289.trans (congrArg some (by kernel_rfl))
 f120:=Tryz.func285.trans (congrArg some (by kernel_rfl))
 f137:=Tryz.func288.trans (congrArg some (by kernel_rfl))
 f151:=Tryz.func276.trans (congrArg some (by kernel_rfl))
 f152:=Tryz.func284.trans (congrArg some (by kernel_rfl))
 f160:=Tryz.func232.trans (congrArg some (by kernel_rfl))
 f197:=Tryz.func275.trans (congrArg some (by kernel_rfl))
 f217:=Tryz.func250.trans (congrArg some (by kernel_rfl))
 f224:=Tryz.func252.trans (congrArg some (by kernel_rfl))
 f225:=Tryz.func251.trans (congrArg some (by kernel_rfl))
 f227:=Tryz.func256.trans (congrArg some (by kernel_rfl))
 f228:=Tryz.func274.trans (congrArg some (by kernel_rfl))
 f231:=Tryz.func254.trans (congrArg some (by kernel_rfl))
 f232:=Tryz.func255.trans (congrArg some (by kernel_rfl))
 f233:=Tryz.func257.trans (congrArg some (by kernel_rfl))
 f234:=Tryz.func258.trans (congrArg some (by kernel_rfl))
 f235:=Tryz.func259.trans (congrArg some (by kernel_rfl))
 f236:=Tryz.func260.trans (congrArg some (by kernel_rfl))
 f260:=Tryz.func283.trans (congrArg some (by kernel_rfl))
 f266:=Tryz.func272.trans (congrArg some (by kernel_rfl))
 f271:=Tryz.func277.trans (congrArg some (by kernel_rfl))
 t0:=Tryz.underlying0
 a0:=Tryz.isAgg0
 z0:=Tryz.sizeOf0
 v0:=Tryz.zeroValue0
 t3:=Tryz.underlying3
 a3:=Tryz.isAgg3
 z3:=Tryz.sizeOf3
 v3:=Tryz.zeroValue3
 t4:=Tryz.underlying4
 a4:=Tryz.isAgg4
 z4:=Tryz.sizeOf4
 v4:=Tryz.zeroValue4
 t5:=Tryz.underlying5
 a5:=Tryz.isAgg5
 z5:=Tryz.sizeOf5
 v5:=Tryz.zeroValue5
 t9:=Tryz.underlying9
 a9:=Tryz.isAgg9
 z9:=Tryz.sizeOf9
 v9:=Tryz.zeroValue9
 t21:=Tryz.underlying21
 a21:=Tryz.isAgg21
 z21:=Tryz.sizeOf21
 v21:=Tryz.zeroValue21
 t46:=Tryz.underlying279
 a46:=Tryz.isAgg279
 z46:=Tryz.sizeOf279
 v46:=Tryz.zeroValue279
 t105:=Tryz.underlying300
 a105:=Tryz.isAgg300
 z105:=Tryz.sizeOf300
 v105:=Tryz.zeroValue300
 t116:=Tryz.underlying282
 a116:=Tryz.isAgg282
 z116:=Tryz.sizeOf282
 t117:=Tryz.underlying283
 a117:=Tryz.isAgg283
 z117:=Tryz.sizeOf283
 v117:=Tryz.zeroValue283
 t119:=Tryz.underlying309
 a119:=Tryz.isAgg309
 z119:=Tryz.sizeOf309
 t124:=Tryz.underlying286
 a124:=Tryz.isAgg286
 z124:=Tryz.sizeOf286
 v124:=Tryz.zeroValue286
 t138:=Tryz.underlying311
 a138:=Tryz.isAgg311
 z138:=Tryz.sizeOf311
 v138:=Tryz.zeroValue311
 t139:=Tryz.underlying312
 a139:=Tryz.isAgg312
 z139:=Tryz.sizeOf312
 v139:=Tryz.zeroValue312
 g3:=by kernel_rfl
 g4:=by kernel_rfl }
open Go.RowKit in
def Tryz.lays171_ren:Go.Shelf.Ren:=⟨fun | 171=>185 | 243=>228 | 246=>249 | 283=>268 | 284=>269 | 285=>270 | 286=>271 | 129=>279 | 317=>278 | 318=>280 | 319=>281 | 320=>282 | 337=>286 | 338=>287 | n=>n,fun | 3=>3 | 9=>9 | 2=>2 | 4=>4 | 171=>289 | 0=>0 | 53=>290 | 37=>293 | 5=>5 | 173=>294 | 212=>304 | 51=>296 | 20=>20 | 213=>305 | 46=>279 | 232=>313 | 233=>314 | n=>n,fun | 17=>9 | 18=>12 | 19=>13 | n=>n⟩
theorem Tryz.lays171:Go.Proofs.Lays.n171 Tryz.prog Tryz.lays171_ren:={
 mixed:=by kernel_rfl
 f129:=Tryz.func279.trans (congrArg some (by kernel_rfl))
 f171:=Tryz.func185.trans (congrArg some (by kernel_rfl))
 f243:=Tryz.func228.trans (congrArg some (by kernel_rfl))
 f246:=Tryz.func249.trans (congrArg some (by kernel_rfl))
 f283:=Tryz.func268.trans (congrArg some (by kernel_rfl))
 f284:=Tryz.func269.trans (congrArg some (by kernel_rfl))
 f285:=Tryz.func270.trans (congrArg some (by kernel_rfl))
 f286:=Tryz.func271.trans (congrArg some (by kernel_rfl))
 f317:=Tryz.func278.trans (congrArg some (by kernel_rfl))
 f318:=Tryz.func280.trans (congrArg some (by kernel_rfl))
 f319:=Tryz.func281.trans (congrArg some (by kernel_rfl))
 f320:=Tryz.func282.trans (congrArg some (by kernel_rfl))
 f337:=Tryz.func286.trans (congrArg some (by kernel_rfl))
 f338:=Tryz.func287.trans (congrArg some (by kernel_rfl))
 t0:=Tryz.underlying0
 a0:=Tryz.isAgg0
 z0:=Tryz.sizeOf0
 v0:=Tryz.zeroValue0
 t2:=Tryz.underlying2
 a2:=Tryz.isAgg2
 z2:=Tryz.sizeOf2
 v2:=Tryz.zeroValue2
 t3:=Tryz.underlying3
 a3:=Tryz.isAgg3
 z3:=Tryz.sizeOf3
 v3:=Tryz.zeroValue3
 t4:=Tryz.underlying4
 a4:=Tryz.isAgg4
 z4:=Tryz.sizeOf4
 v4:=Tryz.zeroValue4
 t5:=Tryz.underlying5
 a5:=Tryz.isAgg5
 z5:=Tryz.sizeOf5
 v5:=Tryz.zeroValue5
 t9:=Tryz.underlying9
 a9:=Tryz.isAgg9
 z9:=Tryz.sizeOf9
 v9:=Tryz.zeroValue9
 t20:=Tryz.underlying20
 a20:=Tryz.isAgg20
 z20:=Tryz.sizeOf20
 v20:=Tryz.zeroValue20
 t37:=Tryz.underlying293
 a37:=Tryz.isAgg293
 z37:=Tryz.sizeOf293
 v37:=Tryz.zeroValue293
 t46:=Tryz.underlying279
 a46:=Tryz.isAgg279
 z46:=Tryz.sizeOf279
 v46:=Tryz.zeroValue279
 t51:=Tryz.underlying296
 a51:=Tryz.isAgg296
 z51:=Tryz.sizeOf296
 v51:=Tryz.zeroValue296
 t53:=Tryz.underlying290
 a53:=Tryz.isAgg290
 z53:=Tryz.sizeOf290
 v53:=Tryz.zeroValue290
 t171:=Tryz.underlying289
 a171:=Tryz.isAgg289
 z171:=Tryz.sizeOf289
 v171:=Tryz.zeroValue289
 t173:=Tryz.underlying294
 a173:=Tryz.isAgg294
 z173:=Tryz.sizeOf294
 v173:=Tryz.zeroValue294
 t212:=Tryz.underlying304
 a212:=Tryz.isAgg304
 z212:=Tryz.sizeOf304
 v212:=Tryz.zeroValue304
 t213:=Tryz.underlying305
 a213:=Tryz.isAgg305
 z213:=Tryz.sizeOf305
 t232:=Tryz.underlying313
 a232:=Tryz.isAgg313
 z232:=Tryz.sizeOf313
 v232:=Tryz.zeroValue313
 t233:=Tryz.underlying314
 a233:=Tryz.isAgg314
 z233:=Tryz.sizeOf314
 v233:=Tryz.zeroValue314
 g17:=by kernel_rfl
 g18:=by kernel_rfl
 g19:=by kernel_rfl }
open Go.RowKit Go.Sort Go.Lib in
theorem Tryz.strconv_Itoa_small (i:Nat) (hi:i<100) (w:World) :
  Calls Tryz.prog 185 #[.int .i64 i] w fun e w'=>e=.returned (.string ⟨(Lib.decDigits i).toArray⟩)/\w'=w:=Any.strconv_Itoa_small Tryz.lays171 i hi w
def Tryz.lays144_ren:Go.Shelf.Ren:=⟨fun | 144=>127 | 143=>187 | 219=>230 | 217=>250 | 225=>251 | 224=>252 | 267=>253 | 266=>272 | 314=>273 | n=>n,fun | 9=>9 | 4=>4 | 3=>3 | 5=>5 | 46=>279 | 146=>297 | 51=>296 | n=>n,fun | 1=>8 | n=>n⟩
theorem Tryz.lays144:Go.Proofs.Lays.n144 Tryz.prog Tryz.lays144_ren:={
 mixed:=by kernel_rfl
 f143:=Tryz.func187.trans (congrArg some (by kernel_rfl))
 f144:=Tryz.func127.trans (congrArg some (by kernel_rfl))
 f217:=Tryz.func250.trans (congrArg some (by kernel_rfl))
 f219:=Tryz.func230.trans (congrArg some (by kernel_rfl))
 f224:=Tryz.func252.trans (congrArg some (by kernel_rfl))
 f225:=Tryz.func251.trans (congrArg some (by kernel_rfl))
 f266:=Tryz.func272.trans (congrArg some (by kernel_rfl))
 f267:=Tryz.func253.trans (congrArg some (by kernel_rfl))
 f314:=Tryz.func273.trans (congrArg some (by kernel_rfl))
 t3:=Tryz.underlying3
 a3:=Tryz.isAgg3
 z3:=Tryz.sizeOf3
 v3:=Tryz.zeroValue3
 t4:=Tryz.underlying4
 a4:=Tryz.isAgg4
 z4:=Tryz.sizeOf4
 v4:=Tryz.zeroValue4
 t5:=Tryz.underlying5
 a5:=Tryz.isAgg5
 z5:=Tryz.sizeOf5
 v5:=Tryz.zeroValue5
 t9:=Tryz.underlying9
 a9:=Tryz.isAgg9
 z9:=Tryz.sizeOf9
 v9:=Tryz.zeroValue9
 t46:=Tryz.underlying279
 a46:=Tryz.isAgg279
 z46:=Tryz.sizeOf279
 v46:=Tryz.zeroValue279
 t51:=Tryz.underlying296
 a51:=Tryz.isAgg296
 z51:=Tryz.sizeOf296
 v51:=Tryz.zeroValue296
 t146:=Tryz.underlying297
 a146:=Tryz.isAgg297
 z146:=Tryz.sizeOf297
 v146:=Tryz.zeroValue297
 g1:=by kernel_rfl }
open Go.RowKit Go.Lib in
theorem Tryz.strings_Contains (s sub:ByteArray) (m:Int) (w:World) (hs:s.size<4294967281) (hm:w.cell? ⟨8,0,none⟩=some (.int .i64 m)) :
  Calls Tryz.prog 127 #[.string s,.string sub] w fun e w'=>e=.returned (.bool (Lib.contains s.data.toList sub.data.toList))/\w'=w:=Any.strings_Contains Tryz.lays144 s sub m w hs hm
def Tryz.laysGw17_ren:Go.Shelf.Ren:=⟨fun | 17=>126 | 15=>186 | 20=>229 | n=>n,fun | 9=>9 | 23=>190 | 4=>4 | 3=>3 | 0=>0 | 21=>21 | n=>n,fun | n=>n⟩
theorem Tryz.laysGw17:Go.Proofs.LaysGw.n17 Tryz.prog Tryz.laysGw17_ren:={
 mixed:=by kernel_rfl
 f15:=Tryz.func186.trans (congrArg some (by kernel_rfl))
 f17:=Tryz.func126.trans (congrArg some (by kernel_rfl))
 f20:=Tryz.func229.trans (congrArg some (by kernel_rfl))
 t0:=Tryz.underlying0
 a0:=Tryz.isAgg0
 z0:=Tryz.sizeOf0
 v0:=Tryz.zeroValue0
 i0:=by kernel_rfl
 t3:=Tryz.underlying3
 a3:=Tryz.isAgg3
 z3:=Tryz.sizeOf3
 v3:=Tryz.zeroValue3
 i3:=by kernel_rfl
 t4:=Tryz.underlying4
 a4:=Tryz.isAgg4
 z4:=Tryz.sizeOf4
 v4:=Tryz.zeroValue4
 i4:=by kernel_rfl
 t9:=Tryz.underlying9
 a9:=Tryz.isAgg9
 z9:=Tryz.sizeOf9
 v9:=Tryz.zeroValue9
 i9:=by kernel_rfl
 t21:=Tryz.underlying21
 a21:=Tryz.isAgg21
 z21:=Tryz.sizeOf21
 v21:=Tryz.zeroValue21
 i21:=by kernel_rfl
 t23:=Tryz.underlying190
 a23:=Tryz.isAgg190
 z23:=Tryz.sizeOf190
 v23:=Tryz.zeroValue190
 i23:=by kernel_rfl }
open Go.RowKit Go.Lib in
theorem Tryz.strings_ContainsFunc_grows (g:Nat) (lb:Array Value) (eg:∀ args w,(callFunc g args).run Tryz.prog w=.ok (.enter g args) w) (p:Nat->Bool) (s:ByteArray) (w:World) (hp:PredGrows Tryz.prog g lb p w) :
  Calls Tryz.prog 126 #[.string s,.func (.func g) #[] lb] w fun e w'=>e=.returned (.bool (decide (0<=Lib.idxFunc p true s)))/\Below w.heap.size w w':=Any.strings_ContainsFunc_grows Tryz.laysGw17 g lb eg p s w hp
end Go.Proofs
