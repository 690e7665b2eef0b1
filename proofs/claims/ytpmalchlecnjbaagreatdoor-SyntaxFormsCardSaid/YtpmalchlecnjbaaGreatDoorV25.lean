/- Joined texts: Shelf. -/
import Derived.Shelf.Strings.Builder1
import Derived.Shelf.Strings.Builder2
import Derived.Shelf.Strings.OnBuilder
import Derived.Shelf.Strings.Trim
import Derived.Shelf.Small.Utf8
import Derived.Shelf.Small.Strs
import Derived.Shelf.Strconv.Atoi
import Derived.Shelf.Strconv.Itoa0
import Derived.Shelf.Strconv.Itoa1
import Derived.Shelf.LaysM
import Derived.Shelf.Strconv.Itoa2
import Derived.Shelf.Strconv.Itoa3
import Derived.Shelf.Strconv.AtoiErrFast
import Derived.Shelf.Strconv.ParseIntEmpty
import Derived.Shelf.Strconv.AtoiFail
import Derived.Shelf.Strconv.Clone
import Derived.Shelf.Strconv.SyntaxError
import Derived.Shelf.LaysC
import Derived.Shelf.Strconv.ToError
import Derived.Shelf.Strconv.Lower
import Derived.Shelf.Strconv.ParseUint10
import Derived.Shelf.Strconv.ParseUint10Empty
import Derived.Shelf.Strconv.ParseUint10Any
import Derived.Shelf.Strconv.ParseInt10
import Derived.Shelf.Strconv.AtoiLong
import Derived.Shelf.Strconv.AtoiInnerAll
import Derived.Shelf.Strconv.RangeError
import Derived.Shelf.Strconv.ToErrorRange
import Derived.Shelf.Strconv.AtoiAll
import Derived.Shelf.Strings.Search1
import Derived.Shelf.Strings.Prefix
import Derived.Shelf.Strings.Fields
import Derived.Shelf.Unicode.Latin
import Derived.Shelf.Strings.Runes
import Derived.Shelf.Strings.AsciiSet
import Derived.Shelf.Unicode.DecodeSlow
import Derived.Shelf.Unicode.Is16White
import Derived.Shelf.Unicode.IsSpaceAny
import Derived.Shelf.Unicode.Is16Any
import Derived.Shelf.Unicode.Is32Any
import Derived.Shelf.Unicode.ExclAny
import Derived.Shelf.Slices.Turned
import Derived.Test.YtpmalchlecnjbaaGreatDoorProg
set_option linter.unusedVariables false
set_option linter.unusedSimpArgs false
/- The library's contracts at this seat's dump: written by the kit's lay-shelf and lay-plain, cut to what is used. -/
namespace Go.Proofs
open Go.Shelf
open Go.RowKit in
open Go.RowKit in
def Tryz.lays160_ren:Go.Shelf.Ren:=⟨fun | 160=>160 | 232=>180 | 231=>179 | 227=>181 | 234=>183 | 233=>182 | 236=>185 | 235=>184 | 228=>205 | 271=>208 | 151=>207 | 197=>206 | 120=>222 | 152=>221 | 260=>220 | 137=>227 | 119=>228 | 224=>229 | 225=>230 | 217=>231 | 266=>232 | n=>n,fun | 9=>9 | 4=>4 | 3=>3 | 5=>5 | 117=>174 | 116=>173 | 0=>0 | 124=>177 | 21=>21 | 105=>200 | 46=>206 | 119=>168 | 139=>235 | 138=>234 | n=>n,fun | 3=>9 | 4=>10 | n=>n⟩
theorem Tryz.lays160:Go.Proofs.Lays.n160 Tryz.prog Tryz.lays160_ren:={
 mixed:=by kernel_rfl
 f119:=Tryz.func228.trans (congrArg some (by kernel_rfl))
 f120:=Tryz.func222.trans (congrArg some (by kernel_rfl))
 f137:=Tryz.func227.trans (congrArg some (by kernel_rfl))
 f151:=Tryz.func207.trans (congrArg some (by kernel_rfl))
 f152:=Tryz.func221.trans (congrArg some (by kernel_rfl))
 f160:=Tryz.func160.trans (congrArg some (by kernel_rfl))
 f197:=Tryz.func206.trans (congrArg some (by kernel_rfl))
 f217:=Tryz.func231.trans (congrArg some (by kernel_rfl))
 f224:=Tryz.func229.trans (congrArg some (by kernel_rfl))
 f225:=Tryz.func230.trans (congrArg some (by kernel_rfl))
 f227:=Tryz.func181.trans (congrArg some (by kernel_rfl))
 f228:=Tryz.func205.trans (congrArg some (by kernel_rfl))
 f231:=Tryz.func179.trans (congrArg some (by kernel_rfl))
 f232:=Tryz.func180.trans (congrArg some (by kernel_rfl))
 f233:=Tryz.func182.trans (congrArg some (by kernel_rfl))
 f234:=Tryz.func183.trans (congrArg some (by kernel_rfl))
 f235:=Tryz.func184.trans (congrArg some (by kernel_rfl))
 f236:=Tryz.func185.trans (congrArg some (by kernel_rfl))
 f260:=Tryz.func220.trans (congrArg some (by kernel_rfl))
 f266:=Tryz.func232.trans (congrArg some (by kernel_rfl))
 f271:=Tryz.func208.trans (congrArg some (by kernel_rfl))
 t0:=Tryz.underlying0
 a0:=Tryz.isAgg0
 z0:=Tryz.sizeOf0
 v0:=Tryz.zeroValue0
 t3:=Tryz.underlying3
 a3:=Tryz.isAgg3
 z3:=Tryz.sizeOf3
 v3:=Tryz.zeroValue3
 t4:=Tryz.underlying4
 a4:=Tryz.isAgg4
 z4:=Tryz.sizeOf4
 v4:=Tryz.zeroValue4
 t5:=Tryz.underlying5
 a5:=Tryz.isAgg5
 z5:=Tryz.sizeOf5
 v5:=Tryz.zeroValue5
 t9:=Tryz.underlying9
 a9:=Tryz.isAgg9
 z9:=Tryz.sizeOf9
 v9:=Tryz.zeroValue9
 t21:=Tryz.underlying21
 a21:=Tryz.isAgg21
 z21:=Tryz.sizeOf21
 v21:=Tryz.zeroValue21
 t46:=Tryz.underlying206
 a46:=Tryz.isAgg206
 z46:=Tryz.sizeOf206
 v46:=Tryz.zeroValue206
 t105:=Tryz.underlying200
 a105:=Tryz.isAgg200
 z105:=Tryz.sizeOf200
 v105:=Tryz.zeroValue200
 t116:=Tryz.underlying173
 a116:=Tryz.isAgg173
 z116:=Tryz.sizeOf173
 t117:=Tryz.underlying174
 a117:=Tryz.isAgg174
 z117:=Tryz.sizeOf174
 v117:=Tryz.zeroValue174
 t119:=Tryz.underlying168
 a119:=Tryz.isAgg168
 z119:=Tryz.sizeOf168
 t124:=Tryz.underlying177
 a124:=Tryz.isAgg177
 z124:=Tryz.sizeOf177
 v124:=Tryz.zeroValue177
 t138:=Tryz.underlying234
 a138:=Tryz.isAgg234
 z138:=Tryz.sizeOf234
 v138:=Tryz.zeroValue234
 t139:=Tryz.underlying235
 a139:=Tryz.isAgg235
 z139:=Tryz.sizeOf235
 v139:=Tryz.zeroValue235
 g3:=by kernel_rfl
 g4:=by kernel_rfl }
open Go.RowKit in
def Tryz.laysM171_ren:Go.Shelf.Ren:=⟨fun | 171=>86 | 243=>145 | 246=>172 | 283=>194 | 284=>195 | 285=>196 | 286=>197 | 129=>211 | 317=>210 | 318=>212 | 319=>213 | 320=>214 | 337=>223 | 338=>224 | n=>n,fun | 3=>3 | 9=>9 | 2=>2 | 4=>4 | 171=>182 | 0=>0 | 53=>183 | 37=>22 | 5=>5 | 173=>186 | 212=>204 | 51=>197 | 20=>20 | 213=>205 | 46=>206 | 232=>238 | 233=>239 | n=>n,fun | 17=>6 | 18=>11 | 19=>12 | n=>n⟩
theorem Tryz.laysM171:Go.Proofs.LaysM.n171 Tryz.prog Tryz.laysM171_ren:={
 mixed:=by kernel_rfl
 f129:=Tryz.func211.trans (congrArg some (by kernel_rfl))
 f171:=Tryz.func86.trans (congrArg some (by kernel_rfl))
 f243:=Tryz.func145.trans (congrArg some (by kernel_rfl))
 f246:=Tryz.func172.trans (congrArg some (by kernel_rfl))
 f283:=Tryz.func194.trans (congrArg some (by kernel_rfl))
 f284:=Tryz.func195.trans (congrArg some (by kernel_rfl))
 f285:=Tryz.func196.trans (congrArg some (by kernel_rfl))
 f286:=Tryz.func197.trans (congrArg some (by kernel_rfl))
 f317:=Tryz.func210.trans (congrArg some (by kernel_rfl))
 f318:=Tryz.func212.trans (congrArg some (by kernel_rfl))
 f319:=Tryz.func213.trans (congrArg some (by kernel_rfl))
 f320:=Tryz.func214.trans (congrArg some (by kernel_rfl))
 f337:=Tryz.func223.trans (congrArg some (by kernel_rfl))
 f338:=Tryz.func224.trans (congrArg some (by kernel_rfl))
 t0:=Tryz.underlying0
 a0:=Tryz.isAgg0
 z0:=Tryz.sizeOf0
 v0:=Tryz.zeroValue0
 t2:=Tryz.underlying2
 a2:=Tryz.isAgg2
 z2:=Tryz.sizeOf2
 v2:=Tryz.zeroValue2
 t3:=Tryz.underlying3
 a3:=Tryz.isAgg3
 z3:=Tryz.sizeOf3
 v3:=Tryz.zeroValue3
 t4:=Tryz.underlying4
 a4:=Tryz.isAgg4
 z4:=Tryz.sizeOf4
 v4:=Tryz.zeroValue4
 t5:=Tryz.underlying5
 a5:=Tryz.isAgg5
 z5:=Tryz.sizeOf5
 v5:=Tryz.zeroValue5
 t9:=Tryz.underlying9
 a9:=Tryz.isAgg9
 z9:=Tryz.sizeOf9
 v9:=Tryz.zeroValue9
 t20:=Tryz.underlying20
 a20:=Tryz.isAgg20
 z20:=Tryz.sizeOf20
 v20:=Tryz.zeroValue20
 t37:=Tryz.underlying22
 a37:=Tryz.isAgg22
 z37:=Tryz.sizeOf22
 v37:=Tryz.zeroValue22
 t46:=Tryz.underlying206
 a46:=Tryz.isAgg206
 z46:=Tryz.sizeOf206
 v46:=Tryz.zeroValue206
 t51:=Tryz.underlying197
 a51:=Tryz.isAgg197
 z51:=Tryz.sizeOf197
 v51:=Tryz.zeroValue197
 t53:=Tryz.underlying183
 a53:=Tryz.isAgg183
 z53:=Tryz.sizeOf183
 v53:=Tryz.zeroValue183
 t171:=Tryz.underlying182
 a171:=Tryz.isAgg182
 z171:=Tryz.sizeOf182
 v171:=Tryz.zeroValue182
 t173:=Tryz.underlying186
 a173:=Tryz.isAgg186
 z173:=Tryz.sizeOf186
 v173:=Tryz.zeroValue186
 t212:=Tryz.underlying204
 a212:=Tryz.isAgg204
 z212:=Tryz.sizeOf204
 v212:=Tryz.zeroValue204
 t213:=Tryz.underlying205
 a213:=Tryz.isAgg205
 z213:=Tryz.sizeOf205
 t232:=Tryz.underlying238
 a232:=Tryz.isAgg238
 z232:=Tryz.sizeOf238
 v232:=Tryz.zeroValue238
 t233:=Tryz.underlying239
 a233:=Tryz.isAgg239
 z233:=Tryz.sizeOf239
 v233:=Tryz.zeroValue239
 g17:=by kernel_rfl
 g18:=by kernel_rfl
 g19:=by kernel_rfl
 i0:=by kernel_rfl
 i2:=by kernel_rfl
 i3:=by kernel_rfl
 i4:=by kernel_rfl
 i5:=by kernel_rfl
 i9:=by kernel_rfl
 i20:=by kernel_rfl
 i37:=by kernel_rfl
 i46:=by kernel_rfl
 i51:=by kernel_rfl
 i53:=by kernel_rfl
 i171:=by kernel_rfl
 i173:=by kernel_rfl
 i212:=by kernel_rfl
 i232:=by kernel_rfl
 i233:=by kernel_rfl
 m17:=by kernel_rfl
 m18:=by kernel_rfl
 m19:=by kernel_rfl }
open Go.RowKit Go.Sort Go.Lib in
theorem Tryz.strconv_Itoa (n : Int) (h0 : -9223372036854775808 <= n) (h1 : n <= 9223372036854775807) (w : World) (htab : Lib.TabIs Tryz.prog w "internal/strconv.uint64pow10" .u64 Lib.pow10Tab) :
  Calls Tryz.prog 86 #[.int .i64 n] w fun e w'=>e=.returned (.string ⟨(Lib.itoa n).toArray⟩)/\∃ k os,w'=grow (w.drewN k) os:=Any.strconv_Itoa Tryz.laysM171 n h0 h1 w htab
def Tryz.laysC172_ren:Go.Shelf.Ren:=⟨fun | 172=>151 | 244=>174 | 245=>175 | 247=>199 | 279=>200 | 280=>201 | 281=>202 | 282=>203 | 287=>215 | 316=>216 | 171=>86 | 205=>217 | 321=>225 | 322=>226 | 243=>145 | 246=>172 | 283=>194 | 284=>195 | 285=>196 | 286=>197 | 129=>211 | 317=>210 | 318=>212 | 319=>213 | 320=>214 | 337=>223 | 338=>224 | n=>n,fun | 9=>9 | 3=>3 | 75=>147 | 76=>148 | 4=>4 | 5=>5 | 167=>188 | 37=>22 | 0=>0 | 85=>189 | 2=>2 | 168=>191 | 53=>183 | 175=>208 | 46=>206 | 210=>212 | 127=>155 | 145=>230 | 143=>228 | 21=>21 | 171=>182 | 173=>186 | 212=>204 | 51=>197 | 20=>20 | 213=>205 | 232=>238 | 233=>239 | 80=>122 | n=>n,fun | 15=>7 | 16=>8 | 17=>6 | 18=>11 | 19=>12 | n=>n⟩
theorem Tryz.laysC172:Go.Proofs.LaysC.n172 Tryz.prog Tryz.laysC172_ren:={
 mixed:=by kernel_rfl
 f129:=Tryz.func211.trans (congrArg some (by kernel_rfl))
 f171:=Tryz.func86.trans (congrArg some (by kernel_rfl))
 f172:=Tryz.func151.trans (congrArg some (by kernel_rfl))
 f205:=Tryz.func217.trans (congrArg some (by kernel_rfl))
 f243:=Tryz.func145.trans (congrArg some (by kernel_rfl))
 f244:=Tryz.func174.trans (congrArg some (by kernel_rfl))
 f245:=Tryz.func175.trans (congrArg some (by kernel_rfl))
 f246:=Tryz.func172.trans (congrArg some (by kernel_rfl))
 f247:=Tryz.func199.trans (congrArg some (by kernel_rfl))
 f279:=Tryz.func200.trans (congrArg some (by kernel_rfl))
 f280:=Tryz.func201.trans (congrArg some (by kernel_rfl))
 f281:=Tryz.func202.trans (congrArg some (by kernel_rfl))
 f282:=Tryz.func203.trans (congrArg some (by kernel_rfl))
 f283:=Tryz.func194.trans (congrArg some (by kernel_rfl))
 f284:=Tryz.func195.trans (congrArg some (by kernel_rfl))
 f285:=Tryz.func196.trans (congrArg some (by kernel_rfl))
 f286:=Tryz.func197.trans (congrArg some (by kernel_rfl))
 f287:=Tryz.func215.trans (congrArg some (by kernel_rfl))
 f316:=Tryz.func216.trans (congrArg some (by kernel_rfl))
 f317:=Tryz.func210.trans (congrArg some (by kernel_rfl))
 f318:=Tryz.func212.trans (congrArg some (by kernel_rfl))
 f319:=Tryz.func213.trans (congrArg some (by kernel_rfl))
 f320:=Tryz.func214.trans (congrArg some (by kernel_rfl))
 f321:=Tryz.func225.trans (congrArg some (by kernel_rfl))
 f322:=Tryz.func226.trans (congrArg some (by kernel_rfl))
 f337:=Tryz.func223.trans (congrArg some (by kernel_rfl))
 f338:=Tryz.func224.trans (congrArg some (by kernel_rfl))
 t0:=Tryz.underlying0
 a0:=Tryz.isAgg0
 z0:=Tryz.sizeOf0
 v0:=Tryz.zeroValue0
 t2:=Tryz.underlying2
 a2:=Tryz.isAgg2
 z2:=Tryz.sizeOf2
 v2:=Tryz.zeroValue2
 t3:=Tryz.underlying3
 a3:=Tryz.isAgg3
 z3:=Tryz.sizeOf3
 v3:=Tryz.zeroValue3
 t4:=Tryz.underlying4
 a4:=Tryz.isAgg4
 z4:=Tryz.sizeOf4
 v4:=Tryz.zeroValue4
 t5:=Tryz.underlying5
 a5:=Tryz.isAgg5
 z5:=Tryz.sizeOf5
 v5:=Tryz.zeroValue5
 t9:=Tryz.underlying9
 a9:=Tryz.isAgg9
 z9:=Tryz.sizeOf9
 v9:=Tryz.zeroValue9
 t20:=Tryz.underlying20
 a20:=Tryz.isAgg20
 z20:=Tryz.sizeOf20
 v20:=Tryz.zeroValue20
 t21:=Tryz.underlying21
 a21:=Tryz.isAgg21
 z21:=Tryz.sizeOf21
 v21:=Tryz.zeroValue21
 t37:=Tryz.underlying22
 a37:=Tryz.isAgg22
 z37:=Tryz.sizeOf22
 v37:=Tryz.zeroValue22
 t46:=Tryz.underlying206
 a46:=Tryz.isAgg206
 z46:=Tryz.sizeOf206
 v46:=Tryz.zeroValue206
 t51:=Tryz.underlying197
 a51:=Tryz.isAgg197
 z51:=Tryz.sizeOf197
 v51:=Tryz.zeroValue197
 t53:=Tryz.underlying183
 a53:=Tryz.isAgg183
 z53:=Tryz.sizeOf183
 v53:=Tryz.zeroValue183
 t75:=Tryz.underlying147
 a75:=Tryz.isAgg147
 z75:=Tryz.sizeOf147
 v75:=Tryz.zeroValue147
 t76:=Tryz.underlying148
 a76:=Tryz.isAgg148
 z76:=Tryz.sizeOf148
 v76:=Tryz.zeroValue148
 t85:=Tryz.underlying189
 a85:=Tryz.isAgg189
 z85:=Tryz.sizeOf189
 v85:=Tryz.zeroValue189
 t127:=Tryz.underlying155
 a127:=Tryz.isAgg155
 z127:=Tryz.sizeOf155
 v127:=Tryz.zeroValue155
 t143:=Tryz.underlying228
 a143:=Tryz.isAgg228
 z143:=Tryz.sizeOf228
 v143:=Tryz.zeroValue228
 t145:=Tryz.underlying230
 a145:=Tryz.isAgg230
 z145:=Tryz.sizeOf230
 v145:=Tryz.zeroValue230
 t167:=Tryz.underlying188
 a167:=Tryz.isAgg188
 z167:=Tryz.sizeOf188
 v167:=Tryz.zeroValue188
 t168:=Tryz.underlying191
 a168:=Tryz.isAgg191
 z168:=Tryz.sizeOf191
 v168:=Tryz.zeroValue191
 t171:=Tryz.underlying182
 a171:=Tryz.isAgg182
 z171:=Tryz.sizeOf182
 v171:=Tryz.zeroValue182
 t173:=Tryz.underlying186
 a173:=Tryz.isAgg186
 z173:=Tryz.sizeOf186
 v173:=Tryz.zeroValue186
 t175:=Tryz.underlying208
 a175:=Tryz.isAgg208
 z175:=Tryz.sizeOf208
 v175:=Tryz.zeroValue208
 t210:=Tryz.underlying212
 a210:=Tryz.isAgg212
 z210:=Tryz.sizeOf212
 v210:=Tryz.zeroValue212
 t212:=Tryz.underlying204
 a212:=Tryz.isAgg204
 z212:=Tryz.sizeOf204
 v212:=Tryz.zeroValue204
 t213:=Tryz.underlying205
 a213:=Tryz.isAgg205
 z213:=Tryz.sizeOf205
 t232:=Tryz.underlying238
 a232:=Tryz.isAgg238
 z232:=Tryz.sizeOf238
 v232:=Tryz.zeroValue238
 t233:=Tryz.underlying239
 a233:=Tryz.isAgg239
 z233:=Tryz.sizeOf239
 v233:=Tryz.zeroValue239
 g15:=by kernel_rfl
 g16:=by kernel_rfl
 g17:=by kernel_rfl
 g18:=by kernel_rfl
 g19:=by kernel_rfl
 t80:=Tryz.underlying122
 a80:=Tryz.isAgg122
 z80:=Tryz.sizeOf122
 v80:=Tryz.zeroValue122
 i0:=by kernel_rfl
 i2:=by kernel_rfl
 i3:=by kernel_rfl
 i4:=by kernel_rfl
 i5:=by kernel_rfl
 i9:=by kernel_rfl
 i20:=by kernel_rfl
 i21:=by kernel_rfl
 i37:=by kernel_rfl
 i46:=by kernel_rfl
 i51:=by kernel_rfl
 i53:=by kernel_rfl
 i75:=by kernel_rfl
 i76:=by kernel_rfl
 i80:=by kernel_rfl
 i85:=by kernel_rfl
 i127:=by kernel_rfl
 i143:=by kernel_rfl
 i145:=by kernel_rfl
 i167:=by kernel_rfl
 i168:=by kernel_rfl
 i171:=by kernel_rfl
 i173:=by kernel_rfl
 i175:=by kernel_rfl
 i210:=by kernel_rfl
 i212:=by kernel_rfl
 i232:=by kernel_rfl
 i233:=by kernel_rfl
 m15:=by kernel_rfl
 m16:=by kernel_rfl
 m17:=by kernel_rfl
 m18:=by kernel_rfl
 m19:=by kernel_rfl
 c0:=by kernel_rfl
 c2:=by kernel_rfl
 c3:=by kernel_rfl
 c4:=by kernel_rfl
 c5:=by kernel_rfl
 c9:=by kernel_rfl
 c20:=by kernel_rfl
 c21:=by kernel_rfl
 c37:=by kernel_rfl
 c46:=by kernel_rfl
 c51:=by kernel_rfl
 c53:=by kernel_rfl
 c75:=by kernel_rfl
 c76:=by kernel_rfl
 c80:=by kernel_rfl
 c85:=by kernel_rfl
 c127:=by kernel_rfl
 c143:=by kernel_rfl
 c145:=by kernel_rfl
 c167:=by kernel_rfl
 c168:=by kernel_rfl
 c171:=by kernel_rfl
 c173:=by kernel_rfl
 c175:=by kernel_rfl
 c210:=by kernel_rfl
 c212:=by kernel_rfl
 c213:=by kernel_rfl
 c232:=by kernel_rfl
 c233:=by kernel_rfl }
open Go.RowKit in
theorem Tryz.strconv_Atoi_ok (s:ByteArray) (hmax:s.size<=9223372036854775806) (v:Int) (h:Lib.atoiAll s.data.toList=.ok v) (w:World) :
  Calls Tryz.prog 151 #[.string s] w fun e w'=>e=.returned (.tuple #[.int .i64 v,.nilIface])/\(w'=w∨∃ t,w'=Lib.bytesWorld w 5 t):=Any.strconv_Atoi_ok Tryz.laysC172 s hmax v h w
open Go.RowKit in
theorem Tryz.strconv_Atoi_syntax (s:ByteArray) (hlim:s.size<=281474976710656) (hok:∀ n,Lib.atoiAll s.data.toList ≠ .ok n) (hra:Lib.atoiAll s.data.toList ≠ .range) (ev:Value) (w:World) (hv:w.cell? ⟨7,0,none⟩=some ev) (hev:ev=.nilIface∨∃ te pe,ev=.iface te pe) :
  Calls Tryz.prog 151 #[.string s] w fun e w'=>∃ N,e=.returned (.tuple #[.int .i64 (0),.iface 191 (.pointer (some ⟨N,0,none⟩))])/\w.heap.size<=N/\w'.heap[N]?=some (.cells #[.string ⟨#[65,116,111,105]⟩,.string s,ev] 212 (0,0))/\Below w.heap.size w w':=Any.strconv_Atoi_syntax Tryz.laysC172 s hlim (by cases hh:Lib.atoiAll s.data.toList with
   | ok n=>exact absurd hh (hok n)
   | range=>exact absurd hh hra
   | _=>rfl) ev w hv hev
open Go.RowKit in
theorem Tryz.strconv_Atoi_range (s:ByteArray) (hlim:s.size<=281474976710656) (h:Lib.atoiAll s.data.toList=.range) (ev:Value) (w:World) (hv:w.cell? ⟨8,0,none⟩=some ev) (hev:ev=.nilIface∨∃ te pe,ev=.iface te pe) :
  Calls Tryz.prog 151 #[.string s] w fun e w'=>∃ N,e=.returned (.tuple #[.int .i64 (Lib.atoiSat s.data.toList),.iface 191 (.pointer (some ⟨N,0,none⟩))])/\w.heap.size<=N/\w'.heap[N]?=some (.cells #[.string ⟨#[65,116,111,105]⟩,.string s,ev] 212 (0,0))/\Below w.heap.size w w':=Any.strconv_Atoi_range Tryz.laysC172 s hlim h ev w hv hev
def Tryz.lays99_ren:Go.Shelf.Ren:=⟨fun | 99=>158 | 206=>178 | n=>n,fun | 9=>9 | 4=>4 | 3=>3 | n=>n,fun | n=>n⟩
theorem Tryz.lays99:Go.Proofs.Lays.n99 Tryz.prog Tryz.lays99_ren:={
 mixed:=by kernel_rfl
 f99:=Tryz.func158.trans (congrArg some (by kernel_rfl))
 f206:=Tryz.func178.trans (congrArg some (by kernel_rfl))
 t3:=Tryz.underlying3
 a3:=Tryz.isAgg3
 z3:=Tryz.sizeOf3
 v3:=Tryz.zeroValue3
 t4:=Tryz.underlying4
 a4:=Tryz.isAgg4
 z4:=Tryz.sizeOf4
 v4:=Tryz.zeroValue4
 t9:=Tryz.underlying9
 a9:=Tryz.isAgg9
 z9:=Tryz.sizeOf9
 v9:=Tryz.zeroValue9 }
open Go.RowKit Go.Lib in
theorem Tryz.strings_HasPrefix (s p:ByteArray) (w:World) :
  Calls Tryz.prog 158 #[.string s,.string p] w fun e w'=>e=.returned (.bool (Lib.hasPrefix s.data.toList p.data.toList))/\w'=w:=Any.strings_HasPrefix Tryz.lays99 s p w
def Tryz.lays157_ren:Go.Shelf.Ren:=⟨fun | 157=>157 | 229=>176 | 199=>177 | 261=>204 | 311=>218 | 312=>219 | n=>n,fun | 9=>9 | 31=>102 | 3=>3 | 5=>5 | 4=>4 | 119=>168 | 0=>0 | 40=>170 | 152=>194 | 21=>21 | 154=>196 | 51=>197 | 141=>199 | 196=>217 | 193=>214 | 198=>220 | 49=>218 | 194=>215 | 201=>223 | 226=>231 | 46=>206 | 227=>232 | n=>n,fun | 0=>3 | 6=>4 | n=>n⟩
theorem Tryz.lays157:Go.Proofs.Lays.n157 Tryz.prog Tryz.lays157_ren:={
 mixed:=by kernel_rfl
 f157:=Tryz.func157.trans (congrArg some (by kernel_rfl))
 f199:=Tryz.func177.trans (congrArg some (by kernel_rfl))
 f229:=Tryz.func176.trans (congrArg some (by kernel_rfl))
 f261:=Tryz.func204.trans (congrArg some (by kernel_rfl))
 f311:=Tryz.func218.trans (congrArg some (by kernel_rfl))
 f312:=Tryz.func219.trans (congrArg some (by kernel_rfl))
 t0:=Tryz.underlying0
 a0:=Tryz.isAgg0
 z0:=Tryz.sizeOf0
 v0:=Tryz.zeroValue0
 t3:=Tryz.underlying3
 a3:=Tryz.isAgg3
 z3:=Tryz.sizeOf3
 v3:=Tryz.zeroValue3
 t4:=Tryz.underlying4
 a4:=Tryz.isAgg4
 z4:=Tryz.sizeOf4
 v4:=Tryz.zeroValue4
 t5:=Tryz.underlying5
 a5:=Tryz.isAgg5
 z5:=Tryz.sizeOf5
 v5:=Tryz.zeroValue5
 t9:=Tryz.underlying9
 a9:=Tryz.isAgg9
 z9:=Tryz.sizeOf9
 v9:=Tryz.zeroValue9
 t21:=Tryz.underlying21
 a21:=Tryz.isAgg21
 z21:=Tryz.sizeOf21
 v21:=Tryz.zeroValue21
 t31:=Tryz.underlying102
 a31:=Tryz.isAgg102
 z31:=Tryz.sizeOf102
 v31:=Tryz.zeroValue102
 t40:=Tryz.underlying170
 a40:=Tryz.isAgg170
 z40:=Tryz.sizeOf170
 v40:=Tryz.zeroValue170
 t46:=Tryz.underlying206
 a46:=Tryz.isAgg206
 z46:=Tryz.sizeOf206
 v46:=Tryz.zeroValue206
 t49:=Tryz.underlying218
 a49:=Tryz.isAgg218
 z49:=Tryz.sizeOf218
 v49:=Tryz.zeroValue218
 t51:=Tryz.underlying197
 a51:=Tryz.isAgg197
 z51:=Tryz.sizeOf197
 v51:=Tryz.zeroValue197
 t119:=Tryz.underlying168
 a119:=Tryz.isAgg168
 z119:=Tryz.sizeOf168
 t141:=Tryz.underlying199
 a141:=Tryz.isAgg199
 z141:=Tryz.sizeOf199
 v141:=Tryz.zeroValue199
 t152:=Tryz.underlying194
 a152:=Tryz.isAgg194
 z152:=Tryz.sizeOf194
 v152:=Tryz.zeroValue194
 t154:=Tryz.underlying196
 a154:=Tryz.isAgg196
 z154:=Tryz.sizeOf196
 v154:=Tryz.zeroValue196
 t193:=Tryz.underlying214
 a193:=Tryz.isAgg214
 z193:=Tryz.sizeOf214
 v193:=Tryz.zeroValue214
 t194:=Tryz.underlying215
 a194:=Tryz.isAgg215
 z194:=Tryz.sizeOf215
 v194:=Tryz.zeroValue215
 t196:=Tryz.underlying217
 a196:=Tryz.isAgg217
 z196:=Tryz.sizeOf217
 v196:=Tryz.zeroValue217
 t198:=Tryz.underlying220
 a198:=Tryz.isAgg220
 z198:=Tryz.sizeOf220
 v198:=Tryz.zeroValue220
 t201:=Tryz.underlying223
 a201:=Tryz.isAgg223
 z201:=Tryz.sizeOf223
 v201:=Tryz.zeroValue223
 t226:=Tryz.underlying231
 a226:=Tryz.isAgg231
 z226:=Tryz.sizeOf231
 v226:=Tryz.zeroValue231
 t227:=Tryz.underlying232
 a227:=Tryz.isAgg232
 z227:=Tryz.sizeOf232
 v227:=Tryz.zeroValue232
 g0:=by kernel_rfl
 g6:=by kernel_rfl }
open Go.RowKit Go.Lib in
theorem Tryz.strings_Fields (s : ByteArray) (w : World) (hs : s.size < 4294967281) (hascii : ∀ (j : Nat) b, s.data.toList[j]? = some b -> b.toNat < 128) (htab : Lib.TabIs Tryz.prog w "strings.asciiSpace" .u8 Lib.asciiSpaceTab) :
  Calls Tryz.prog 157 #[.string s] w fun e w' =>
   e=.returned (.slice (some ⟨w.heap.size,0,none⟩) (Lib.fields s.data.toList).length (Lib.fields s.data.toList).length)/\w'=w.alloc (.cells ((Lib.fields s.data.toList).map fun l=>Value.string ⟨l.toArray⟩).toArray 9):=Any.strings_Fields Tryz.lays157 (by kernel_rfl) (by kernel_rfl) s w hs hascii htab
def Tryz.lays108_ren:Go.Shelf.Ren:=⟨fun | 108=>171 | n=>n,fun | 28=>56 | 3=>3 | 0=>0 | 4=>4 | n=>n,fun | n=>n⟩
theorem Tryz.lays108:Go.Proofs.Lays.n108 Tryz.prog Tryz.lays108_ren:={
 mixed:=by kernel_rfl
 f108:=Tryz.func171.trans (congrArg some (by kernel_rfl))
 t0:=Tryz.underlying0
 a0:=Tryz.isAgg0
 z0:=Tryz.sizeOf0
 v0:=Tryz.zeroValue0
 t3:=Tryz.underlying3
 a3:=Tryz.isAgg3
 z3:=Tryz.sizeOf3
 v3:=Tryz.zeroValue3
 t4:=Tryz.underlying4
 a4:=Tryz.isAgg4
 z4:=Tryz.sizeOf4
 v4:=Tryz.zeroValue4
 t28:=Tryz.underlying56
 a28:=Tryz.isAgg56
 z28:=Tryz.sizeOf56
 v28:=Tryz.zeroValue56 }
open Go.Lib in
theorem Tryz.slices_Index_int (b off n c:Nat) (zs:List Int) (x:Int) (w:World) (hz:n<=zs.length) (hbig:n<=9223372036854775807) (hc:∀ j,j<zs.length->w.cell? ⟨b,off+j,none⟩=some (.int .i64 (zs.getD j 0))) :
  Calls Tryz.prog 171 #[.slice (some ⟨b,off,none⟩) n c,.int .i64 x] w fun e w'=>e=.returned (.int .i64 (Lib.idxOf (zs.take n) x))/\w'=w:=Any.slices_Index_int Tryz.lays108 b off n c zs x w hz hbig hc
open Go.Lib in
def Tryz.lays110_ren:Go.Shelf.Ren:=⟨fun | 110=>173 | 109=>198 | n=>n,fun | 31=>102 | 9=>9 | 4=>4 | 3=>3 | 0=>0 | n=>n,fun | n=>n⟩
theorem Tryz.lays110:Go.Proofs.Lays.n110 Tryz.prog Tryz.lays110_ren:={
 mixed:=by kernel_rfl
 f109:=Tryz.func198.trans (congrArg some (by kernel_rfl))
 f110:=Tryz.func173.trans (congrArg some (by kernel_rfl))
 t0:=Tryz.underlying0
 a0:=Tryz.isAgg0
 z0:=Tryz.sizeOf0
 v0:=Tryz.zeroValue0
 t3:=Tryz.underlying3
 a3:=Tryz.isAgg3
 z3:=Tryz.sizeOf3
 v3:=Tryz.zeroValue3
 t4:=Tryz.underlying4
 a4:=Tryz.isAgg4
 z4:=Tryz.sizeOf4
 v4:=Tryz.zeroValue4
 t9:=Tryz.underlying9
 a9:=Tryz.isAgg9
 z9:=Tryz.sizeOf9
 v9:=Tryz.zeroValue9
 t31:=Tryz.underlying102
 a31:=Tryz.isAgg102
 z31:=Tryz.sizeOf102
 v31:=Tryz.zeroValue102 }
open Go.Lib in
theorem Tryz.slices_Contains_string (b off n c:Nat) (zs:List ByteArray) (x:ByteArray) (w:World) (hz:n<=zs.length) (hbig:n<=9223372036854775807) (hc:∀ j,j<zs.length->w.cell? ⟨b,off+j,none⟩=some (.string (zs.getD j ByteArray.empty))) :
  Calls Tryz.prog 173 #[.slice (some ⟨b,off,none⟩) n c,.string x] w fun e w'=>e=.returned (.bool (Lib.containsS (zs.take n) x))/\w'=w:=Any.slices_Contains_string Tryz.lays110 b off n c zs x w hz hbig hc
end Go.Proofs
