/- Joined texts: Shelf. -/
import Derived.Shelf.Strings.Trim
import Derived.Shelf.Small.Utf8
import Derived.Shelf.Small.Strs
import Derived.Shelf.Strconv.Itoa0
import Derived.Shelf.Strconv.Itoa1
import Derived.Shelf.LaysM
import Derived.Shelf.Strconv.Itoa2
import Derived.Shelf.Strconv.Itoa3
import Derived.Shelf.Strings.Search1
import Derived.Shelf.Strings.Search2
import Derived.Shelf.Strings.Search3
import Derived.Shelf.Strings.Shaped
import Derived.Shelf.GgClosure.StringsIndexFunc
import Derived.Ground.GgwProg
import Derived.Shelf.GgClosure.StringsIndexFuncTop
import Derived.Shelf.Unicode.Decode
import Derived.Shelf.Strings.Runes
import Derived.Shelf.Strings.AsciiSet
import Derived.Shelf.Unicode.DecodeSlow
import Derived.Shelf.Unicode.DecodeAny
import Derived.Shelf.Unicode.DecodeLast
import Derived.Shelf.Strings.FuncGrows
import Derived.Ground.Names2Prog
import Derived.Shelf.Slices.Clone
import Derived.Shelf.Slices.SearchI
import Derived.Ground.SlgnProg
import Derived.Shelf.SlicesE.Clone
import Derived.Test.YtlfjjokcbeaekaaGreatDoorProg

/- The library's contracts at this seat's dump: written by the kit's lay-shelf and lay-plain, cut to what is used. -/
namespace Go.Proofs
open Go.Shelf
def Tryz.lays160_ren : Go.Shelf.Ren := ⟨fun | 160 => 143 | 232 => 148 | 231 => 147 | 227 => 149 | 234 => 151 | 233 => 150 | 236 => 153 | 235 => 152 | 228 => 162 | 271 => 165 | 151 => 164 | 197 => 163 | 120 => 175 | 152 => 174 | 260 => 173 | 137 => 178 | 119 => 179 | 224 => 160 | 225 => 159 | 217 => 158 | 266 => 171 | n => n, fun | 9 => 9 | 4 => 4 | 3 => 3 | 5 => 5 | 117 => 211 | 116 => 210 | 0 => 0 | 124 => 214 | 21 => 21 | 105 => 226 | 46 => 224 | 119 => 238 | 139 => 241 | 138 => 240 | n => n, fun | 3 => 10 | 4 => 11 | n => n⟩
theorem Tryz.lays160 : Go.Proofs.Lays.n160 Tryz.prog Tryz.lays160_ren := {
  mixed := by kernel_rfl
  f119 := Tryz.func179.trans (congrArg some (by kernel_rfl))
  f120 := Tryz.func175.trans (congrArg some (by kernel_rfl))
  f137 := Tryz.func178.trans (congrArg some (by kernel_rfl))
  f151 := Tryz.func164.trans (congrArg some (by kernel_rfl))
  f152 := Tryz.func174.trans (congrArg some (by kernel_rfl))
  f160 := Tryz.func143.trans (congrArg some (by kernel_rfl))
  f197 := Tryz.func163.trans (congrArg some (by kernel_rfl))
  f217 := Tryz.func158.trans (congrArg some (by kernel_rfl))
  f224 := Tryz.func160.trans (congrArg some (by kernel_rfl))
  f225 := Tryz.func159.trans (congrArg some (by kernel_rfl))
  f227 := Tryz.func149.trans (congrArg some (by kernel_rfl))
  f228 := Tryz.func162.trans (congrArg some (by kernel_rfl))
  f231 := Tryz.func147.trans (congrArg some (by kernel_rfl))
  f232 := Tryz.func148.trans (congrArg some (by kernel_rfl))
  f233 := Tryz.func150.trans (congrArg some (by kernel_rfl))
  f234 := Tryz.func151.trans (congrArg some (by kernel_rfl))
  f235 := Tryz.func152.trans (congrArg some (by kernel_rfl))
  f236 := Tryz.func153.trans (congrArg some (by kernel_rfl))
  f260 := Tryz.func173.trans (congrArg some (by kernel_rfl))
  f266 := Tryz.func171.trans (congrArg some (by kernel_rfl))
  f271 := Tryz.func165.trans (congrArg some (by kernel_rfl))
  t0 := Tryz.underlying0
  a0 := Tryz.isAgg0
  z0 := Tryz.sizeOf0
  v0 := Tryz.zeroValue0
  t3 := Tryz.underlying3
  a3 := Tryz.isAgg3
  z3 := Tryz.sizeOf3
  v3 := Tryz.zeroValue3
  t4 := Tryz.underlying4
  a4 := Tryz.isAgg4
  z4 := Tryz.sizeOf4
  v4 := Tryz.zeroValue4
  t5 := Tryz.underlying5
  a5 := Tryz.isAgg5
  z5 := Tryz.sizeOf5
  v5 := Tryz.zeroValue5
  t9 := Tryz.underlying9
  a9 := Tryz.isAgg9
  z9 := Tryz.sizeOf9
  v9 := Tryz.zeroValue9
  t21 := Tryz.underlying21
  a21 := Tryz.isAgg21
  z21 := Tryz.sizeOf21
  v21 := Tryz.zeroValue21
  t46 := Tryz.underlying224
  a46 := Tryz.isAgg224
  z46 := Tryz.sizeOf224
  v46 := Tryz.zeroValue224
  t105 := Tryz.underlying226
  a105 := Tryz.isAgg226
  z105 := Tryz.sizeOf226
  v105 := Tryz.zeroValue226
  t116 := Tryz.underlying210
  a116 := Tryz.isAgg210
  z116 := Tryz.sizeOf210
  t117 := Tryz.underlying211
  a117 := Tryz.isAgg211
  z117 := Tryz.sizeOf211
  v117 := Tryz.zeroValue211
  t119 := Tryz.underlying238
  a119 := Tryz.isAgg238
  z119 := Tryz.sizeOf238
  t124 := Tryz.underlying214
  a124 := Tryz.isAgg214
  z124 := Tryz.sizeOf214
  v124 := Tryz.zeroValue214
  t138 := Tryz.underlying240
  a138 := Tryz.isAgg240
  z138 := Tryz.sizeOf240
  v138 := Tryz.zeroValue240
  t139 := Tryz.underlying241
  a139 := Tryz.isAgg241
  z139 := Tryz.sizeOf241
  v139 := Tryz.zeroValue241
  g3 := by kernel_rfl
  g4 := by kernel_rfl }
open Go.RowKit in
theorem Tryz.strings_Trim_one (s : ByteArray) (c : UInt8) (hc : c.toNat < 128) (w : World) (hs : s.size ≤ 9223372036854775807) :
    Calls Tryz.prog 143 #[.string s, .string ⟨#[c]⟩] w fun e w' => e = .returned (.string ⟨(Lib.trimB s.data.toList c).toArray⟩) ∧ (w' = w ∨ w' = w.drew) := Any.strings_Trim_one Tryz.lays160 s c hc w hs
def Tryz.lays171_ren : Go.Shelf.Ren := ⟨fun | 171 => 118 | 243 => 139 | 246 => 144 | 283 => 154 | 284 => 155 | 285 => 156 | 286 => 157 | 129 => 167 | 317 => 166 | 318 => 168 | 319 => 169 | 320 => 170 | 337 => 176 | 338 => 177 | n => n, fun | 3 => 3 | 9 => 9 | 2 => 2 | 4 => 4 | 171 => 215 | 0 => 0 | 53 => 216 | 37 => 219 | 5 => 5 | 173 => 220 | 212 => 230 | 51 => 231 | 20 => 20 | 213 => 232 | 46 => 224 | 232 => 242 | 233 => 243 | n => n, fun | 17 => 9 | 18 => 12 | 19 => 13 | n => n⟩
theorem Tryz.lays171 : Go.Proofs.Lays.n171 Tryz.prog Tryz.lays171_ren := {
  mixed := by kernel_rfl
  f129 := Tryz.func167.trans (congrArg some (by kernel_rfl))
  f171 := Tryz.func118.trans (congrArg some (by kernel_rfl))
  f243 := Tryz.func139.trans (congrArg some (by kernel_rfl))
  f246 := Tryz.func144.trans (congrArg some (by kernel_rfl))
  f283 := Tryz.func154.trans (congrArg some (by kernel_rfl))
  f284 := Tryz.func155.trans (congrArg some (by kernel_rfl))
  f285 := Tryz.func156.trans (congrArg some (by kernel_rfl))
  f286 := Tryz.func157.trans (congrArg some (by kernel_rfl))
  f317 := Tryz.func166.trans (congrArg some (by kernel_rfl))
  f318 := Tryz.func168.trans (congrArg some (by kernel_rfl))
  f319 := Tryz.func169.trans (congrArg some (by kernel_rfl))
  f320 := Tryz.func170.trans (congrArg some (by kernel_rfl))
  f337 := Tryz.func176.trans (congrArg some (by kernel_rfl))
  f338 := Tryz.func177.trans (congrArg some (by kernel_rfl))
  t0 := Tryz.underlying0
  a0 := Tryz.isAgg0
  z0 := Tryz.sizeOf0
  v0 := Tryz.zeroValue0
  t2 := Tryz.underlying2
  a2 := Tryz.isAgg2
  z2 := Tryz.sizeOf2
  v2 := Tryz.zeroValue2
  t3 := Tryz.underlying3
  a3 := Tryz.isAgg3
  z3 := Tryz.sizeOf3
  v3 := Tryz.zeroValue3
  t4 := Tryz.underlying4
  a4 := Tryz.isAgg4
  z4 := Tryz.sizeOf4
  v4 := Tryz.zeroValue4
  t5 := Tryz.underlying5
  a5 := Tryz.isAgg5
  z5 := Tryz.sizeOf5
  v5 := Tryz.zeroValue5
  t9 := Tryz.underlying9
  a9 := Tryz.isAgg9
  z9 := Tryz.sizeOf9
  v9 := Tryz.zeroValue9
  t20 := Tryz.underlying20
  a20 := Tryz.isAgg20
  z20 := Tryz.sizeOf20
  v20 := Tryz.zeroValue20
  t37 := Tryz.underlying219
  a37 := Tryz.isAgg219
  z37 := Tryz.sizeOf219
  v37 := Tryz.zeroValue219
  t46 := Tryz.underlying224
  a46 := Tryz.isAgg224
  z46 := Tryz.sizeOf224
  v46 := Tryz.zeroValue224
  t51 := Tryz.underlying231
  a51 := Tryz.isAgg231
  z51 := Tryz.sizeOf231
  v51 := Tryz.zeroValue231
  t53 := Tryz.underlying216
  a53 := Tryz.isAgg216
  z53 := Tryz.sizeOf216
  v53 := Tryz.zeroValue216
  t171 := Tryz.underlying215
  a171 := Tryz.isAgg215
  z171 := Tryz.sizeOf215
  v171 := Tryz.zeroValue215
  t173 := Tryz.underlying220
  a173 := Tryz.isAgg220
  z173 := Tryz.sizeOf220
  v173 := Tryz.zeroValue220
  t212 := Tryz.underlying230
  a212 := Tryz.isAgg230
  z212 := Tryz.sizeOf230
  v212 := Tryz.zeroValue230
  t213 := Tryz.underlying232
  a213 := Tryz.isAgg232
  z213 := Tryz.sizeOf232
  t232 := Tryz.underlying242
  a232 := Tryz.isAgg242
  z232 := Tryz.sizeOf242
  v232 := Tryz.zeroValue242
  t233 := Tryz.underlying243
  a233 := Tryz.isAgg243
  z233 := Tryz.sizeOf243
  v233 := Tryz.zeroValue243
  g17 := by kernel_rfl
  g18 := by kernel_rfl
  g19 := by kernel_rfl }
open Go.RowKit Go.Sort Go.Lib in
theorem Tryz.strconv_Itoa_small (i : Nat) (hi : i < 100) (w : World) :
    Calls Tryz.prog 118 #[.int .i64 i] w fun e w' => e = .returned (.string ⟨(Lib.decDigits i).toArray⟩) ∧ w' = w := Any.strconv_Itoa_small Tryz.lays171 i hi w
def Tryz.lays144_ren : Go.Shelf.Ren := ⟨fun | 144 => 123 | 143 => 141 | 219 => 146 | 217 => 158 | 225 => 159 | 224 => 160 | 267 => 161 | 266 => 171 | 314 => 172 | n => n, fun | 9 => 9 | 4 => 4 | 3 => 3 | 5 => 5 | 46 => 224 | 146 => 234 | 51 => 231 | n => n, fun | 1 => 8 | n => n⟩
theorem Tryz.lays144 : Go.Proofs.Lays.n144 Tryz.prog Tryz.lays144_ren := {
  mixed := by kernel_rfl
  f143 := Tryz.func141.trans (congrArg some (by kernel_rfl))
  f144 := Tryz.func123.trans (congrArg some (by kernel_rfl))
  f217 := Tryz.func158.trans (congrArg some (by kernel_rfl))
  f219 := Tryz.func146.trans (congrArg some (by kernel_rfl))
  f224 := Tryz.func160.trans (congrArg some (by kernel_rfl))
  f225 := Tryz.func159.trans (congrArg some (by kernel_rfl))
  f266 := Tryz.func171.trans (congrArg some (by kernel_rfl))
  f267 := Tryz.func161.trans (congrArg some (by kernel_rfl))
  f314 := Tryz.func172.trans (congrArg some (by kernel_rfl))
  t3 := Tryz.underlying3
  a3 := Tryz.isAgg3
  z3 := Tryz.sizeOf3
  v3 := Tryz.zeroValue3
  t4 := Tryz.underlying4
  a4 := Tryz.isAgg4
  z4 := Tryz.sizeOf4
  v4 := Tryz.zeroValue4
  t5 := Tryz.underlying5
  a5 := Tryz.isAgg5
  z5 := Tryz.sizeOf5
  v5 := Tryz.zeroValue5
  t9 := Tryz.underlying9
  a9 := Tryz.isAgg9
  z9 := Tryz.sizeOf9
  v9 := Tryz.zeroValue9
  t46 := Tryz.underlying224
  a46 := Tryz.isAgg224
  z46 := Tryz.sizeOf224
  v46 := Tryz.zeroValue224
  t51 := Tryz.underlying231
  a51 := Tryz.isAgg231
  z51 := Tryz.sizeOf231
  v51 := Tryz.zeroValue231
  t146 := Tryz.underlying234
  a146 := Tryz.isAgg234
  z146 := Tryz.sizeOf234
  v146 := Tryz.zeroValue234
  g1 := by kernel_rfl }
open Go.RowKit Go.Lib in
theorem Tryz.strings_Contains (s sub : ByteArray) (m : Int) (w : World) (hs : s.size < 4294967281) (hm : w.cell? ⟨8, 0, none⟩ = some (.int .i64 m)) :
    Calls Tryz.prog 123 #[.string s, .string sub] w fun e w' => e = .returned (.bool (Lib.contains s.data.toList sub.data.toList)) ∧ w' = w := Any.strings_Contains Tryz.lays144 s sub m w hs hm
def Tryz.laysGw17_ren : Go.Shelf.Ren := ⟨fun | 17 => 122 | 15 => 140 | 20 => 145 | n => n, fun | 9 => 9 | 23 => 189 | 4 => 4 | 3 => 3 | 0 => 0 | 21 => 21 | n => n, fun | n => n⟩
theorem Tryz.laysGw17 : Go.Proofs.LaysGw.n17 Tryz.prog Tryz.laysGw17_ren := {
  mixed := by kernel_rfl
  f15 := Tryz.func140.trans (congrArg some (by kernel_rfl))
  f17 := Tryz.func122.trans (congrArg some (by kernel_rfl))
  f20 := Tryz.func145.trans (congrArg some (by kernel_rfl))
  t0 := Tryz.underlying0
  a0 := Tryz.isAgg0
  z0 := Tryz.sizeOf0
  v0 := Tryz.zeroValue0
  i0 := by kernel_rfl
  t3 := Tryz.underlying3
  a3 := Tryz.isAgg3
  z3 := Tryz.sizeOf3
  v3 := Tryz.zeroValue3
  i3 := by kernel_rfl
  t4 := Tryz.underlying4
  a4 := Tryz.isAgg4
  z4 := Tryz.sizeOf4
  v4 := Tryz.zeroValue4
  i4 := by kernel_rfl
  t9 := Tryz.underlying9
  a9 := Tryz.isAgg9
  z9 := Tryz.sizeOf9
  v9 := Tryz.zeroValue9
  i9 := by kernel_rfl
  t21 := Tryz.underlying21
  a21 := Tryz.isAgg21
  z21 := Tryz.sizeOf21
  v21 := Tryz.zeroValue21
  i21 := by kernel_rfl
  t23 := Tryz.underlying189
  a23 := Tryz.isAgg189
  z23 := Tryz.sizeOf189
  v23 := Tryz.zeroValue189
  i23 := by kernel_rfl }
open Go.RowKit Go.Lib in
theorem Tryz.strings_ContainsFunc_grows (g : Nat) (lb : Array Value) (eg : ∀ args w, (callFunc g args).run Tryz.prog w = .ok (.enter g args) w) (p : Nat → Bool) (s : ByteArray) (w : World) (hp : PredGrows Tryz.prog g lb p w) :
    Calls Tryz.prog 122 #[.string s, .func (.func g) #[] lb] w fun e w' => e = .returned (.bool (decide (0 ≤ Lib.idxFunc p true s))) ∧ Below w.heap.size w w' := Any.strings_ContainsFunc_grows Tryz.laysGw17 g lb eg p s w hp
end Go.Proofs
