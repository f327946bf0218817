/- Contracts of library functions, laid by the kit's shelf over this seat's translation. -/
import Derived.Test.YtaaeekahhhookaaGreatDoorShelf
import Derived.Test.YtaaeekahhhookaaGreatDoorShelf2
import Derived.Shelf.SlicesE.Reverse
import Derived.Ground.SlgnProg
import Derived.Shelf.Strings.Builder1
import Derived.Shelf.Strings.Builder2
import Derived.Shelf.Strings.OnBuilder
import Derived.Shelf.Strings.Trim
import Derived.Shelf.Small.Utf8
import Derived.Shelf.Small.Bits
import Derived.Shelf.Small.Strs
import Derived.Shelf.Small.Wraps
import Derived.Shelf.Strings.BuilderF
import Derived.Shelf.Strconv.Atoi
import Derived.Shelf.Strconv.Itoa0
import Derived.Shelf.Strconv.Itoa1
import Derived.Shelf.LaysM
import Derived.Shelf.Strconv.Itoa2
import Derived.Shelf.Strconv.Itoa3
import Derived.Shelf.Strconv.AtoiErrFast
import Derived.Shelf.Strconv.ParseIntEmpty
import Derived.Shelf.Strconv.AtoiFail
import Derived.Shelf.Strconv.Clone
import Derived.Shelf.Strconv.SyntaxError
import Derived.Shelf.LaysC
import Derived.Shelf.Strconv.ToError
import Derived.Shelf.Strconv.Lower
import Derived.Shelf.Strconv.ParseUint10
import Derived.Shelf.Strconv.ParseUint10Empty
import Derived.Shelf.Strconv.ParseUint10Any
import Derived.Shelf.Strconv.ParseInt10
import Derived.Shelf.Strconv.AtoiLong
import Derived.Shelf.Strconv.AtoiInnerAll
import Derived.Shelf.Strconv.RangeError
import Derived.Shelf.Strconv.ToErrorRange
import Derived.Shelf.Strconv.AtoiAll
import Derived.Shelf.Strconv.ErrVarAll
import Derived.Shelf.Strconv.ParseUintEmpty
import Derived.Shelf.Strconv.ParseUint10b64
import Derived.Shelf.Strconv.ParseUint10b32
import Derived.Shelf.Strconv.ParseUint10b16
import Derived.Shelf.Strconv.ParseUint10b8
import Derived.Shelf.Strconv.ParseUint10At
import Derived.Shelf.Strconv.ParseInt10At64
import Derived.Shelf.Strconv.ParseInt10At32
import Derived.Shelf.Strconv.ParseInt10At16
import Derived.Shelf.Strconv.ParseInt10At8
import Derived.Shelf.Strconv.ParseInt10All
import Derived.Shelf.Strconv.ParseIntPublic10
import Derived.Ground.MpProg
import Derived.Shelf.Pu.ParseUintPublic10
import Derived.Shelf.Pu.ErrVarParseUint
import Derived.Shelf.Strings.Search1
import Derived.Shelf.Strings.Search2
import Derived.Shelf.Strings.Search3
import Derived.Shelf.Strings.Cut
import Derived.Shelf.Strings.Count
import Derived.Shelf.Strings.Shaped
import Derived.Shelf.Strings.Prefix
import Derived.Shelf.Strings.Split
import Derived.Shelf.Strings.SplitShaped
import Derived.Shelf.Strings.Runes
import Derived.Shelf.Strings.IndexAny
import Derived.Shelf.Strings.AsciiSet
import Derived.Shelf.Strings.IndexAnyAll
import Derived.Shelf.Bits.Mul64
import Derived.Shelf.Strings.Repeat
import Derived.Shelf.Unicode.DecodeSlow
import Derived.Ground.SlgfProg
import Derived.Shelf.SlicesE.IndexFunc
import Derived.Test.YtaaeekahhhookaaGreatDoorProg
namespace Go.Proofs
open Go.Shelf
def Tryz.laysC174_ren : Go.Shelf.Ren := ⟨fun | 174 => 129 | 247 => 177 | 245 => 178 | 287 => 216 | 279 => 217 | 280 => 218 | 281 => 219 | 282 => 220 | 321 => 252 | 322 => 253 | 316 => 254 | 171 => 101 | 205 => 255 | 243 => 142 | 246 => 187 | 283 => 228 | 284 => 229 | 285 => 230 | 286 => 231 | 129 => 154 | 317 => 258 | 318 => 259 | 319 => 260 | 320 => 261 | 337 => 273 | 338 => 274 | n => n, fun | 9 => 9 | 3 => 3 | 2 => 2 | 75 => 130 | 85 => 207 | 4 => 4 | 167 => 275 | 5 => 5 | 53 => 229 | 175 => 276 | 46 => 186 | 168 => 278 | 37 => 22 | 0 => 0 | 210 => 313 | 21 => 21 | 127 => 180 | 145 => 334 | 143 => 332 | 171 => 287 | 173 => 289 | 212 => 319 | 51 => 227 | 20 => 20 | 213 => 320 | 232 => 336 | 233 => 337 | 80 => 138 | n => n, fun | 15 => 1 | 16 => 2 | 17 => 3 | 18 => 6 | 19 => 7 | n => n⟩
theorem Tryz.laysC174 : Go.Proofs.LaysC.n174 Tryz.prog Tryz.laysC174_ren := {
  mixed := by kernel_rfl
  f129 := Tryz.func154.trans (congrArg some (by kernel_rfl))
  f171 := Tryz.func101.trans (congrArg some (by kernel_rfl))
  f174 := Tryz.func129.trans (congrArg some (by kernel_rfl))
  f205 := Tryz.func255.trans (congrArg some (by kernel_rfl))
  f243 := Tryz.func142.trans (congrArg some (by kernel_rfl))
  f245 := Tryz.func178.trans (congrArg some (by kernel_rfl))
  f246 := Tryz.func187.trans (congrArg some (by kernel_rfl))
  f247 := Tryz.func177.trans (congrArg some (by kernel_rfl))
  f279 := Tryz.func217.trans (congrArg some (by kernel_rfl))
  f280 := Tryz.func218.trans (congrArg some (by kernel_rfl))
  f281 := Tryz.func219.trans (congrArg some (by kernel_rfl))
  f282 := Tryz.func220.trans (congrArg some (by kernel_rfl))
  f283 := Tryz.func228.trans (congrArg some (by kernel_rfl))
  f284 := Tryz.func229.trans (congrArg some (by kernel_rfl))
  f285 := Tryz.func230.trans (congrArg some (by kernel_rfl))
  f286 := Tryz.func231.trans (congrArg some (by kernel_rfl))
  f287 := Tryz.func216.trans (congrArg some (by kernel_rfl))
  f316 := Tryz.func254.trans (congrArg some (by kernel_rfl))
  f317 := Tryz.func258.trans (congrArg some (by kernel_rfl))
  f318 := Tryz.func259.trans (congrArg some (by kernel_rfl))
  f319 := Tryz.func260.trans (congrArg some (by kernel_rfl))
  f320 := Tryz.func261.trans (congrArg some (by kernel_rfl))
  f321 := Tryz.func252.trans (congrArg some (by kernel_rfl))
  f322 := Tryz.func253.trans (congrArg some (by kernel_rfl))
  f337 := Tryz.func273.trans (congrArg some (by kernel_rfl))
  f338 := Tryz.func274.trans (congrArg some (by kernel_rfl))
  t0 := Tryz.underlying0
  a0 := Tryz.isAgg0
  z0 := Tryz.sizeOf0
  v0 := Tryz.zeroValue0
  t2 := Tryz.underlying2
  a2 := Tryz.isAgg2
  z2 := Tryz.sizeOf2
  v2 := Tryz.zeroValue2
  t3 := Tryz.underlying3
  a3 := Tryz.isAgg3
  z3 := Tryz.sizeOf3
  v3 := Tryz.zeroValue3
  t4 := Tryz.underlying4
  a4 := Tryz.isAgg4
  z4 := Tryz.sizeOf4
  v4 := Tryz.zeroValue4
  t5 := Tryz.underlying5
  a5 := Tryz.isAgg5
  z5 := Tryz.sizeOf5
  v5 := Tryz.zeroValue5
  t9 := Tryz.underlying9
  a9 := Tryz.isAgg9
  z9 := Tryz.sizeOf9
  v9 := Tryz.zeroValue9
  t20 := Tryz.underlying20
  a20 := Tryz.isAgg20
  z20 := Tryz.sizeOf20
  v20 := Tryz.zeroValue20
  t21 := Tryz.underlying21
  a21 := Tryz.isAgg21
  z21 := Tryz.sizeOf21
  v21 := Tryz.zeroValue21
  t37 := Tryz.underlying22
  a37 := Tryz.isAgg22
  z37 := Tryz.sizeOf22
  v37 := Tryz.zeroValue22
  t46 := Tryz.underlying186
  a46 := Tryz.isAgg186
  z46 := Tryz.sizeOf186
  v46 := Tryz.zeroValue186
  t51 := Tryz.underlying227
  a51 := Tryz.isAgg227
  z51 := Tryz.sizeOf227
  v51 := Tryz.zeroValue227
  t53 := Tryz.underlying229
  a53 := Tryz.isAgg229
  z53 := Tryz.sizeOf229
  v53 := Tryz.zeroValue229
  t75 := Tryz.underlying130
  a75 := Tryz.isAgg130
  z75 := Tryz.sizeOf130
  v75 := Tryz.zeroValue130
  t85 := Tryz.underlying207
  a85 := Tryz.isAgg207
  z85 := Tryz.sizeOf207
  v85 := Tryz.zeroValue207
  t127 := Tryz.underlying180
  a127 := Tryz.isAgg180
  z127 := Tryz.sizeOf180
  v127 := Tryz.zeroValue180
  t143 := Tryz.underlying332
  a143 := Tryz.isAgg332
  z143 := Tryz.sizeOf332
  v143 := Tryz.zeroValue332
  t145 := Tryz.underlying334
  a145 := Tryz.isAgg334
  z145 := Tryz.sizeOf334
  v145 := Tryz.zeroValue334
  t167 := Tryz.underlying275
  a167 := Tryz.isAgg275
  z167 := Tryz.sizeOf275
  v167 := Tryz.zeroValue275
  t168 := Tryz.underlying278
  a168 := Tryz.isAgg278
  z168 := Tryz.sizeOf278
  v168 := Tryz.zeroValue278
  t171 := Tryz.underlying287
  a171 := Tryz.isAgg287
  z171 := Tryz.sizeOf287
  v171 := Tryz.zeroValue287
  t173 := Tryz.underlying289
  a173 := Tryz.isAgg289
  z173 := Tryz.sizeOf289
  v173 := Tryz.zeroValue289
  t175 := Tryz.underlying276
  a175 := Tryz.isAgg276
  z175 := Tryz.sizeOf276
  v175 := Tryz.zeroValue276
  t210 := Tryz.underlying313
  a210 := Tryz.isAgg313
  z210 := Tryz.sizeOf313
  v210 := Tryz.zeroValue313
  t212 := Tryz.underlying319
  a212 := Tryz.isAgg319
  z212 := Tryz.sizeOf319
  v212 := Tryz.zeroValue319
  t213 := Tryz.underlying320
  a213 := Tryz.isAgg320
  z213 := Tryz.sizeOf320
  t232 := Tryz.underlying336
  a232 := Tryz.isAgg336
  z232 := Tryz.sizeOf336
  v232 := Tryz.zeroValue336
  t233 := Tryz.underlying337
  a233 := Tryz.isAgg337
  z233 := Tryz.sizeOf337
  v233 := Tryz.zeroValue337
  g15 := by kernel_rfl
  g16 := by kernel_rfl
  g17 := by kernel_rfl
  g18 := by kernel_rfl
  g19 := by kernel_rfl
  t80 := Tryz.underlying138
  a80 := Tryz.isAgg138
  z80 := Tryz.sizeOf138
  v80 := Tryz.zeroValue138
  i0 := by kernel_rfl
  i2 := by kernel_rfl
  i3 := by kernel_rfl
  i4 := by kernel_rfl
  i5 := by kernel_rfl
  i9 := by kernel_rfl
  i20 := by kernel_rfl
  i21 := by kernel_rfl
  i37 := by kernel_rfl
  i46 := by kernel_rfl
  i51 := by kernel_rfl
  i53 := by kernel_rfl
  i75 := by kernel_rfl
  i80 := by kernel_rfl
  i85 := by kernel_rfl
  i127 := by kernel_rfl
  i143 := by kernel_rfl
  i145 := by kernel_rfl
  i167 := by kernel_rfl
  i168 := by kernel_rfl
  i171 := by kernel_rfl
  i173 := by kernel_rfl
  i175 := by kernel_rfl
  i210 := by kernel_rfl
  i212 := by kernel_rfl
  i232 := by kernel_rfl
  i233 := by kernel_rfl
  m15 := by kernel_rfl
  m16 := by kernel_rfl
  m17 := by kernel_rfl
  m18 := by kernel_rfl
  m19 := by kernel_rfl
  c0 := by kernel_rfl
  c2 := by kernel_rfl
  c3 := by kernel_rfl
  c4 := by kernel_rfl
  c5 := by kernel_rfl
  c9 := by kernel_rfl
  c20 := by kernel_rfl
  c21 := by kernel_rfl
  c37 := by kernel_rfl
  c46 := by kernel_rfl
  c51 := by kernel_rfl
  c53 := by kernel_rfl
  c75 := by kernel_rfl
  c80 := by kernel_rfl
  c85 := by kernel_rfl
  c127 := by kernel_rfl
  c143 := by kernel_rfl
  c145 := by kernel_rfl
  c167 := by kernel_rfl
  c168 := by kernel_rfl
  c171 := by kernel_rfl
  c173 := by kernel_rfl
  c175 := by kernel_rfl
  c210 := by kernel_rfl
  c212 := by kernel_rfl
  c213 := by kernel_rfl
  c232 := by kernel_rfl
  c233 := by kernel_rfl }
open Go.RowKit in
theorem Tryz.strconv_ParseInt_10_at64_ok (s : ByteArray) (hmax : s.size ≤ 9223372036854775806) (v : Int) (h : Lib.parseIntB 64 s.data.toList = .ok v) (w : World) :
    Calls Tryz.prog 129 #[.string s, .int .i64 10, .int .i64 64] w fun e w' => e = .returned (.tuple #[.int .i64 v, .nilIface]) ∧ (w' = w ∨ ∃ t, w' = Lib.bytesWorld w 5 t) := Any.strconv_ParseInt_10_at64_ok Tryz.laysC174 s hmax v h w
def Tryz.lays264_ren : Go.Shelf.Ren := ⟨fun | 264 => 270 | n => n, fun | 53 => 229 | 46 => 186 | n => n, fun | n => n⟩
theorem Tryz.lays264 : Go.Proofs.Lays.n264 Tryz.prog Tryz.lays264_ren := {
  mixed := by kernel_rfl
  f264 := Tryz.func270.trans (congrArg some (by kernel_rfl))
  t46 := Tryz.underlying186
  a46 := Tryz.isAgg186
  z46 := Tryz.sizeOf186
  v46 := Tryz.zeroValue186
  t53 := Tryz.underlying229
  a53 := Tryz.isAgg229
  z53 := Tryz.sizeOf229
  v53 := Tryz.zeroValue229 }
open Go.RowKit Go.Lib in
theorem Tryz.bits_Mul64 (x y : Nat) (hx : x < 18446744073709551616) (hy : y < 18446744073709551616) (w : World) :
    Calls Tryz.prog 270 #[.int .u64 x, .int .u64 y] w fun e w' => e = .returned (.tuple #[.int .u64 ((x * y / 18446744073709551616 : Nat) : Int), .int .u64 ((x * y % 18446744073709551616 : Nat) : Int)]) ∧ w' = w := Any.bits_Mul64 Tryz.lays264 x y hx hy w
end Go.Proofs
