/- DERIVED: THE SHELF's CONTRACTS AT THIS DUMP, IN PLAIN WORDS (tools/lay-plain.mjs out of 'TryzShelf.lean', which tools/lay-shelf.mjs wrote): THE SAME DECLARATIONS UNDER THE SAME NAMES: 'import', 'namespace', 'open', 'def', 'theorem' AND NOTHING ELSE: no command of the shelf's: FOR A HAND-IN. Each laying: the table of numbers ('.._ren') and one theorem, a field a fact of the dump's own or the kernel's comparison; each contract: ONE APPLICATION. -/
import Derived.Shelf.Strings.Builder1
import Derived.Shelf.Small.Strs
import Derived.Shelf.Small.Wraps
import Derived.Shelf.Strings.BuilderF
import Derived.Shelf.Strings.BuilderK
import Derived.Shelf.Strconv.Atoi
import Derived.Shelf.Strconv.Itoa0
import Derived.Shelf.Strconv.Itoa1
import Derived.Shelf.LaysM
import Derived.Shelf.Strconv.Itoa2
import Derived.Shelf.Strconv.Itoa3
import Derived.Shelf.Strconv.AtoiErrFast
import Derived.Shelf.Strconv.ParseIntEmpty
import Derived.Shelf.Strconv.AtoiFail
import Derived.Shelf.Strconv.Clone
import Derived.Shelf.Strconv.SyntaxError
import Derived.Shelf.LaysC
import Derived.Shelf.Strconv.ToError
import Derived.Shelf.Strconv.AtoiErr
import Derived.Shelf.Strconv.ErrVar
import Derived.Shelf.Strconv.Lower
import Derived.Shelf.Strconv.ParseUint10
import Derived.Shelf.Strconv.ParseUint10Empty
import Derived.Shelf.Strconv.ParseUint10Any
import Derived.Shelf.Strconv.ParseInt10
import Derived.Shelf.Strconv.AtoiLong
import Derived.Shelf.Strconv.AtoiInnerAll
import Derived.Shelf.Strconv.RangeError
import Derived.Shelf.Strconv.ToErrorRange
import Derived.Shelf.Strconv.AtoiAll
import Derived.Shelf.Strconv.ErrVarAll
import Derived.Shelf.Strconv.ParseUintEmpty
import Derived.Shelf.Strconv.ParseUint10b64
import Derived.Shelf.Strconv.ParseUint10b32
import Derived.Shelf.Strconv.ParseUint10b16
import Derived.Shelf.Strconv.ParseUint10b8
import Derived.Shelf.Strconv.ParseUint10At
import Derived.Shelf.Strconv.ParseInt10At64
import Derived.Shelf.Strconv.ParseInt10At32
import Derived.Shelf.Strconv.ParseInt10At16
import Derived.Shelf.Strconv.ParseInt10At8
import Derived.Shelf.Strconv.ParseInt10All
import Derived.Ground.MpProg
import Derived.Shelf.Pu.ParseUintPublic10
import Derived.Shelf.Pu.ErrVarParseUint
import Derived.Shelf.Strings.Search1
import Derived.Shelf.Strings.Search2
import Derived.Shelf.Strings.Cut
import Derived.Shelf.Strings.Shaped
import Derived.Shelf.Strings.Prefix
import Derived.Shelf.Bits.Mul64
import Derived.Shelf.Slices.Turned
import Derived.Test.YtbiffaciinppiaaGreatDoorProg
set_option linter.unusedVariables false
set_option linter.unusedSimpArgs false
namespace Go.Proofs
open Go.Shelf
def Tryz.lays169_ren : Go.Shelf.Ren := ⟨fun | 169 => 205 | n => n, fun | 70 => 277 | 9 => 9 | 0 => 0 | 72 => 279 | 37 => 53 | 127 => 303 | 3 => 3 | 5 => 5 | n => n, fun | n => n⟩
theorem Tryz.lays169 : Go.Proofs.Lays.n169 Tryz.prog Tryz.lays169_ren := {
  mixed := by kernel_rfl
  f169 := Tryz.func205.trans (congrArg some (by kernel_rfl))
  t0 := Tryz.underlying0
  a0 := Tryz.isAgg0
  z0 := Tryz.sizeOf0
  v0 := Tryz.zeroValue0
  t3 := Tryz.underlying3
  a3 := Tryz.isAgg3
  z3 := Tryz.sizeOf3
  v3 := Tryz.zeroValue3
  t9 := Tryz.underlying9
  a9 := Tryz.isAgg9
  z9 := Tryz.sizeOf9
  v9 := Tryz.zeroValue9
  t37 := Tryz.underlying53
  a37 := Tryz.isAgg53
  z37 := Tryz.sizeOf53
  v37 := Tryz.zeroValue53
  t70 := Tryz.underlying277
  a70 := Tryz.isAgg277
  z70 := Tryz.sizeOf277
  v70 := Tryz.zeroValue277
  t72 := Tryz.underlying279
  a72 := Tryz.isAgg279
  z72 := Tryz.sizeOf279
  v72 := Tryz.zeroValue279
  t127 := Tryz.underlying303
  a127 := Tryz.isAgg303
  z127 := Tryz.sizeOf303
  v127 := Tryz.zeroValue303 }
theorem Tryz.Builder_Extra_169 : Builder.Extra Tryz.prog Tryz.lays169_ren := {
  sizeBuilder := by kernel_rfl
  liesBuilder := by kernel_rfl
  t5 := Tryz.underlying5
  a5 := Tryz.isAgg5
  z5 := Tryz.sizeOf5
  v5 := Tryz.zeroValue5
  infoByte := by kernel_rfl
  cellsByte := by kernel_rfl
  sizeByte := by kernel_rfl
  neB5 := by decide }
open Go.RowKit in
/-- (*strings.Builder).String: "String returns the accumulated string.": WHATEVER THE BUILDER HOLDS. (LAID: no walk: one application.) -/
theorem Tryz.Builder_String_any (B b : Nat) (l : List UInt8) (w : World) (h : Lib.IsBuilder 279 5 B b (Lib.byteCells l) w) (hBw : B ≤ w.heap.size) :
    Calls Tryz.prog 205 #[.pointer (some ⟨b, 0, none⟩)] w fun e w' => e = .returned (.string ⟨l.toArray⟩) ∧ Below B w w' := Any.Builder_String_any Tryz.lays169 Tryz.Builder_Extra_169 B b l w h hBw
def Tryz.lays106_ren : Go.Shelf.Ren := ⟨fun | 106 => 154 | 213 => 195 | 265 => 226 | n => n, fun | 9 => 9 | 3 => 3 | n => n, fun | n => n⟩
theorem Tryz.lays106 : Go.Proofs.Lays.n106 Tryz.prog Tryz.lays106_ren := {
  mixed := by kernel_rfl
  f106 := Tryz.func154.trans (congrArg some (by kernel_rfl))
  f213 := Tryz.func195.trans (congrArg some (by kernel_rfl))
  f265 := Tryz.func226.trans (congrArg some (by kernel_rfl))
  t3 := Tryz.underlying3
  a3 := Tryz.isAgg3
  z3 := Tryz.sizeOf3
  v3 := Tryz.zeroValue3
  t9 := Tryz.underlying9
  a9 := Tryz.isAgg9
  z9 := Tryz.sizeOf9
  v9 := Tryz.zeroValue9 }
open Go.RowKit in
/-- strings.Compare: "Compare returns an integer comparing two strings lexicographically. The result will be 0 if a == b, -1 if a < b, and +1 if a > b.": IT RETURNS 'Lib.compareBytes a b'; the world is as it was. (LAID: no walk: one application.) -/
theorem Tryz.strings_Compare (a b : ByteArray) (w : World) :
    Calls Tryz.prog 154 #[.string a, .string b] w fun e w' => e = .returned (.int .i64 (Lib.compareBytes a.data.toList b.data.toList)) ∧ w' = w := Any.strings_Compare Tryz.lays106 a b w
def Tryz.lays137_ren : Go.Shelf.Ren := ⟨fun | 137 => 57 | 217 => 107 | 266 => 159 | n => n, fun | 9 => 9 | 5 => 5 | 3 => 3 | n => n, fun | n => n⟩
theorem Tryz.lays137 : Go.Proofs.Lays.n137 Tryz.prog Tryz.lays137_ren := {
  mixed := by kernel_rfl
  f137 := Tryz.func57.trans (congrArg some (by kernel_rfl))
  f217 := Tryz.func107.trans (congrArg some (by kernel_rfl))
  f266 := Tryz.func159.trans (congrArg some (by kernel_rfl))
  t3 := Tryz.underlying3
  a3 := Tryz.isAgg3
  z3 := Tryz.sizeOf3
  v3 := Tryz.zeroValue3
  t5 := Tryz.underlying5
  a5 := Tryz.isAgg5
  z5 := Tryz.sizeOf5
  v5 := Tryz.zeroValue5
  t9 := Tryz.underlying9
  a9 := Tryz.isAgg9
  z9 := Tryz.sizeOf9
  v9 := Tryz.zeroValue9 }
open Go.RowKit in
/-- strings.IndexByte: "IndexByte returns the index of the first instance of c in s, or -1 if c is not present in s.": IT RETURNS 'Lib.indexByte s c'; the world is as it was. (LAID: no walk: one application.) -/
theorem Tryz.strings_IndexByte (s : ByteArray) (c : Int) (w : World) :
    Calls Tryz.prog 57 #[.string s, .int .u8 c] w fun e w' => e = .returned (.int .i64 (Lib.indexByte s.data.toList c.toNat.toUInt8)) ∧ w' = w := Any.strings_IndexByte Tryz.lays137 s c w
def Tryz.lays103_ren : Go.Shelf.Ren := ⟨fun | 103 => 151 | 210 => 192 | 206 => 225 | n => n, fun | 9 => 9 | 4 => 4 | 24 => 219 | 3 => 3 | n => n, fun | n => n⟩
theorem Tryz.lays103 : Go.Proofs.Lays.n103 Tryz.prog Tryz.lays103_ren := {
  mixed := by kernel_rfl
  f103 := Tryz.func151.trans (congrArg some (by kernel_rfl))
  f206 := Tryz.func225.trans (congrArg some (by kernel_rfl))
  f210 := Tryz.func192.trans (congrArg some (by kernel_rfl))
  t3 := Tryz.underlying3
  a3 := Tryz.isAgg3
  z3 := Tryz.sizeOf3
  v3 := Tryz.zeroValue3
  t4 := Tryz.underlying4
  a4 := Tryz.isAgg4
  z4 := Tryz.sizeOf4
  v4 := Tryz.zeroValue4
  t9 := Tryz.underlying9
  a9 := Tryz.isAgg9
  z9 := Tryz.sizeOf9
  v9 := Tryz.zeroValue9
  t24 := Tryz.underlying219
  a24 := Tryz.isAgg219
  z24 := Tryz.sizeOf219
  v24 := Tryz.zeroValue219 }
open Go.RowKit in
/-- strings.CutPrefix: "CutPrefix returns s without the provided leading prefix string and reports whether it found the prefix. If s doesn't start with prefix, CutPrefix returns s, false. If prefix is the empty string, CutPrefix returns s, true.": IT RETURNS '(Lib.trimPrefix s p, Lib.hasPrefix s p)'; the world is as it was. (LAID: no walk: one application.) -/
theorem Tryz.strings_CutPrefix (s p : ByteArray) (w : World) :
    Calls Tryz.prog 151 #[.string s, .string p] w fun e w' => e = .returned (.tuple #[.string ⟨(Lib.trimPrefix s.data.toList p.data.toList).toArray⟩, .bool (Lib.hasPrefix s.data.toList p.data.toList)]) ∧ w' = w := Any.strings_CutPrefix Tryz.lays103 s p w
def Tryz.lays172_ren : Go.Shelf.Ren := ⟨fun | 172 => 190 | 244 => 220 | 245 => 221 | 247 => 233 | 279 => 234 | 280 => 235 | 281 => 236 | 282 => 237 | 287 => 227 | 316 => 246 | 171 => 165 | 205 => 247 | 321 => 239 | 322 => 240 | 243 => 209 | 246 => 231 | 283 => 242 | 284 => 243 | 285 => 244 | 286 => 245 | 129 => 249 | 317 => 248 | 318 => 250 | 319 => 251 | 320 => 252 | 337 => 253 | 338 => 254 | n => n, fun | 9 => 9 | 3 => 3 | 75 => 263 | 76 => 264 | 4 => 4 | 5 => 5 | 167 => 306 | 37 => 53 | 0 => 0 | 85 => 307 | 2 => 2 | 168 => 309 | 53 => 267 | 175 => 268 | 46 => 258 | 210 => 323 | 127 => 303 | 145 => 331 | 143 => 329 | 21 => 21 | 171 => 316 | 173 => 319 | 212 => 326 | 51 => 295 | 20 => 20 | 213 => 327 | 232 => 333 | 233 => 334 | 80 => 282 | n => n, fun | 15 => 1 | 16 => 2 | 17 => 3 | 18 => 4 | 19 => 5 | n => n⟩
theorem Tryz.lays172 : Go.Proofs.Lays.n172 Tryz.prog Tryz.lays172_ren := {
  mixed := by kernel_rfl
  f129 := Tryz.func249.trans (congrArg some (by kernel_rfl))
  f171 := Tryz.func165.trans (congrArg some (by kernel_rfl))
  f172 := Tryz.func190.trans (congrArg some (by kernel_rfl))
  f205 := Tryz.func247.trans (congrArg some (by kernel_rfl))
  f243 := Tryz.func209.trans (congrArg some (by kernel_rfl))
  f244 := Tryz.func220.trans (congrArg some (by kernel_rfl))
  f245 := Tryz.func221.trans (congrArg some (by kernel_rfl))
  f246 := Tryz.func231.trans (congrArg some (by kernel_rfl))
  f247 := Tryz.func233.trans (congrArg some (by kernel_rfl))
  f279 := Tryz.func234.trans (congrArg some (by kernel_rfl))
  f280 := Tryz.func235.trans (congrArg some (by kernel_rfl))
  f281 := Tryz.func236.trans (congrArg some (by kernel_rfl))
  f282 := Tryz.func237.trans (congrArg some (by kernel_rfl))
  f283 := Tryz.func242.trans (congrArg some (by kernel_rfl))
  f284 := Tryz.func243.trans (congrArg some (by kernel_rfl))
  f285 := Tryz.func244.trans (congrArg some (by kernel_rfl))
  f286 := Tryz.func245.trans (congrArg some (by kernel_rfl))
  f287 := Tryz.func227.trans (congrArg some (by kernel_rfl))
  f316 := Tryz.func246.trans (congrArg some (by kernel_rfl))
  f317 := Tryz.func248.trans (congrArg some (by kernel_rfl))
  f318 := Tryz.func250.trans (congrArg some (by kernel_rfl))
  f319 := Tryz.func251.trans (congrArg some (by kernel_rfl))
  f320 := Tryz.func252.trans (congrArg some (by kernel_rfl))
  f321 := Tryz.func239.trans (congrArg some (by kernel_rfl))
  f322 := Tryz.func240.trans (congrArg some (by kernel_rfl))
  f337 := Tryz.func253.trans (congrArg some (by kernel_rfl))
  f338 := Tryz.func254.trans (congrArg some (by kernel_rfl))
  t0 := Tryz.underlying0
  a0 := Tryz.isAgg0
  z0 := Tryz.sizeOf0
  v0 := Tryz.zeroValue0
  t2 := Tryz.underlying2
  a2 := Tryz.isAgg2
  z2 := Tryz.sizeOf2
  v2 := Tryz.zeroValue2
  t3 := Tryz.underlying3
  a3 := Tryz.isAgg3
  z3 := Tryz.sizeOf3
  v3 := Tryz.zeroValue3
  t4 := Tryz.underlying4
  a4 := Tryz.isAgg4
  z4 := Tryz.sizeOf4
  v4 := Tryz.zeroValue4
  t5 := Tryz.underlying5
  a5 := Tryz.isAgg5
  z5 := Tryz.sizeOf5
  v5 := Tryz.zeroValue5
  t9 := Tryz.underlying9
  a9 := Tryz.isAgg9
  z9 := Tryz.sizeOf9
  v9 := Tryz.zeroValue9
  t20 := Tryz.underlying20
  a20 := Tryz.isAgg20
  z20 := Tryz.sizeOf20
  v20 := Tryz.zeroValue20
  t21 := Tryz.underlying21
  a21 := Tryz.isAgg21
  z21 := Tryz.sizeOf21
  v21 := Tryz.zeroValue21
  t37 := Tryz.underlying53
  a37 := Tryz.isAgg53
  z37 := Tryz.sizeOf53
  v37 := Tryz.zeroValue53
  t46 := Tryz.underlying258
  a46 := Tryz.isAgg258
  z46 := Tryz.sizeOf258
  v46 := Tryz.zeroValue258
  t51 := Tryz.underlying295
  a51 := Tryz.isAgg295
  z51 := Tryz.sizeOf295
  v51 := Tryz.zeroValue295
  t53 := Tryz.underlying267
  a53 := Tryz.isAgg267
  z53 := Tryz.sizeOf267
  v53 := Tryz.zeroValue267
  t75 := Tryz.underlying263
  a75 := Tryz.isAgg263
  z75 := Tryz.sizeOf263
  v75 := Tryz.zeroValue263
  t76 := Tryz.underlying264
  a76 := Tryz.isAgg264
  z76 := Tryz.sizeOf264
  v76 := Tryz.zeroValue264
  t85 := Tryz.underlying307
  a85 := Tryz.isAgg307
  z85 := Tryz.sizeOf307
  v85 := Tryz.zeroValue307
  t127 := Tryz.underlying303
  a127 := Tryz.isAgg303
  z127 := Tryz.sizeOf303
  v127 := Tryz.zeroValue303
  t143 := Tryz.underlying329
  a143 := Tryz.isAgg329
  z143 := Tryz.sizeOf329
  v143 := Tryz.zeroValue329
  t145 := Tryz.underlying331
  a145 := Tryz.isAgg331
  z145 := Tryz.sizeOf331
  v145 := Tryz.zeroValue331
  t167 := Tryz.underlying306
  a167 := Tryz.isAgg306
  z167 := Tryz.sizeOf306
  v167 := Tryz.zeroValue306
  t168 := Tryz.underlying309
  a168 := Tryz.isAgg309
  z168 := Tryz.sizeOf309
  v168 := Tryz.zeroValue309
  t171 := Tryz.underlying316
  a171 := Tryz.isAgg316
  z171 := Tryz.sizeOf316
  v171 := Tryz.zeroValue316
  t173 := Tryz.underlying319
  a173 := Tryz.isAgg319
  z173 := Tryz.sizeOf319
  v173 := Tryz.zeroValue319
  t175 := Tryz.underlying268
  a175 := Tryz.isAgg268
  z175 := Tryz.sizeOf268
  v175 := Tryz.zeroValue268
  t210 := Tryz.underlying323
  a210 := Tryz.isAgg323
  z210 := Tryz.sizeOf323
  v210 := Tryz.zeroValue323
  t212 := Tryz.underlying326
  a212 := Tryz.isAgg326
  z212 := Tryz.sizeOf326
  v212 := Tryz.zeroValue326
  t213 := Tryz.underlying327
  a213 := Tryz.isAgg327
  z213 := Tryz.sizeOf327
  t232 := Tryz.underlying333
  a232 := Tryz.isAgg333
  z232 := Tryz.sizeOf333
  v232 := Tryz.zeroValue333
  t233 := Tryz.underlying334
  a233 := Tryz.isAgg334
  z233 := Tryz.sizeOf334
  v233 := Tryz.zeroValue334
  g15 := by kernel_rfl
  g16 := by kernel_rfl
  g17 := by kernel_rfl
  g18 := by kernel_rfl
  g19 := by kernel_rfl }
open Go.RowKit in
/-- strconv.Atoi: "Atoi is equivalent to ParseInt(s, 10, 0), converted to type int.": AT A DECIMAL NUMERAL OF AT MOST 18 BYTES: its value, and a nil error. The world behind the call: the one new row that the library's '[]byte(s)' lays. (LAID: no walk: one application.) -/
theorem Tryz.strconv_Atoi (s : ByteArray) (n : Int) (hl : s.size ≤ 18) (h : Lib.atoi s.data.toList = some n) (w : World) :
    Calls Tryz.prog 190 #[.string s] w fun e w' => e = .returned (.tuple #[.int .i64 n, .nilIface]) ∧ ∃ t, w' = Lib.bytesWorld w 5 t := Any.strconv_Atoi Tryz.lays172 s n hl h w
def Tryz.lays283_ren : Go.Shelf.Ren := ⟨fun | 283 => 242 | n => n, fun | 3 => 3 | 9 => 9 | 4 => 4 | n => n, fun | n => n⟩
theorem Tryz.lays283 : Go.Proofs.Lays.n283 Tryz.prog Tryz.lays283_ren := {
  mixed := by kernel_rfl
  f283 := Tryz.func242.trans (congrArg some (by kernel_rfl))
  t3 := Tryz.underlying3
  a3 := Tryz.isAgg3
  z3 := Tryz.sizeOf3
  v3 := Tryz.zeroValue3
  t4 := Tryz.underlying4
  a4 := Tryz.isAgg4
  z4 := Tryz.sizeOf4
  v4 := Tryz.zeroValue4
  t9 := Tryz.underlying9
  a9 := Tryz.isAgg9
  z9 := Tryz.sizeOf9
  v9 := Tryz.zeroValue9 }
open Go.Lib in
/-- internal/strconv.small: "small returns the string for an i with 0 <= i < nSmalls.": i's decimal numeral. The world is as it was. (LAID: no walk: one application.) -/
theorem Tryz.internal_strconv_small (i : Nat) (h : i < 100) (w : World) :
    Calls Tryz.prog 242 #[.int .i64 i] w fun e w' => e = .returned (.string ⟨(Lib.decDigits i).toArray⟩) ∧ w' = w := Any.internal_strconv_small Tryz.lays283 i h w
def Tryz.laysM284_ren : Go.Shelf.Ren := ⟨fun | 284 => 243 | 129 => 249 | 317 => 248 | 318 => 250 | n => n, fun | 53 => 267 | 3 => 3 | 212 => 326 | 0 => 0 | 4 => 4 | 46 => 258 | 5 => 5 | 9 => 9 | n => n, fun | 17 => 3 | n => n⟩
theorem Tryz.laysM284 : Go.Proofs.LaysM.n284 Tryz.prog Tryz.laysM284_ren := {
  mixed := by kernel_rfl
  f129 := Tryz.func249.trans (congrArg some (by kernel_rfl))
  f284 := Tryz.func243.trans (congrArg some (by kernel_rfl))
  f317 := Tryz.func248.trans (congrArg some (by kernel_rfl))
  f318 := Tryz.func250.trans (congrArg some (by kernel_rfl))
  t0 := Tryz.underlying0
  a0 := Tryz.isAgg0
  z0 := Tryz.sizeOf0
  v0 := Tryz.zeroValue0
  t3 := Tryz.underlying3
  a3 := Tryz.isAgg3
  z3 := Tryz.sizeOf3
  v3 := Tryz.zeroValue3
  t4 := Tryz.underlying4
  a4 := Tryz.isAgg4
  z4 := Tryz.sizeOf4
  v4 := Tryz.zeroValue4
  t5 := Tryz.underlying5
  a5 := Tryz.isAgg5
  z5 := Tryz.sizeOf5
  v5 := Tryz.zeroValue5
  t9 := Tryz.underlying9
  a9 := Tryz.isAgg9
  z9 := Tryz.sizeOf9
  v9 := Tryz.zeroValue9
  t46 := Tryz.underlying258
  a46 := Tryz.isAgg258
  z46 := Tryz.sizeOf258
  v46 := Tryz.zeroValue258
  t53 := Tryz.underlying267
  a53 := Tryz.isAgg267
  z53 := Tryz.sizeOf267
  v53 := Tryz.zeroValue267
  t212 := Tryz.underlying326
  a212 := Tryz.isAgg326
  z212 := Tryz.sizeOf326
  v212 := Tryz.zeroValue326
  g17 := by kernel_rfl
  i0 := by kernel_rfl
  i3 := by kernel_rfl
  i4 := by kernel_rfl
  i5 := by kernel_rfl
  i9 := by kernel_rfl
  i46 := by kernel_rfl
  i53 := by kernel_rfl
  i212 := by kernel_rfl
  m17 := by kernel_rfl }
open Go.Lib in
/-- internal/strconv.numDigits, at a d that is not 0: THE NUMBER OF d's DECIMAL DIGITS. The world is as it was. (LAID: no walk: one application.) -/
theorem Tryz.internal_strconv_numDigits (u : Nat) (h1 : 1 ≤ u) (h2 : u < 18446744073709551616) (w : World) (htab : Lib.TabIs Tryz.prog w "internal/strconv.uint64pow10" .u64 Lib.pow10Tab) :
    Calls Tryz.prog 243 #[.int .u64 u] w fun e w' => e = .returned (.int .i64 (Lib.nDigits u)) ∧ w' = w := Any.internal_strconv_numDigits Tryz.laysM284 u h1 h2 w htab
def Tryz.lays285_ren : Go.Shelf.Ren := ⟨fun | 285 => 244 | n => n, fun | 37 => 53 | 53 => 267 | 3 => 3 | 4 => 4 | 51 => 295 | 9 => 9 | 5 => 5 | 0 => 0 | n => n, fun | n => n⟩
theorem Tryz.lays285 : Go.Proofs.Lays.n285 Tryz.prog Tryz.lays285_ren := {
  mixed := by kernel_rfl
  f285 := Tryz.func244.trans (congrArg some (by kernel_rfl))
  t0 := Tryz.underlying0
  a0 := Tryz.isAgg0
  z0 := Tryz.sizeOf0
  v0 := Tryz.zeroValue0
  t3 := Tryz.underlying3
  a3 := Tryz.isAgg3
  z3 := Tryz.sizeOf3
  v3 := Tryz.zeroValue3
  t4 := Tryz.underlying4
  a4 := Tryz.isAgg4
  z4 := Tryz.sizeOf4
  v4 := Tryz.zeroValue4
  t5 := Tryz.underlying5
  a5 := Tryz.isAgg5
  z5 := Tryz.sizeOf5
  v5 := Tryz.zeroValue5
  t9 := Tryz.underlying9
  a9 := Tryz.isAgg9
  z9 := Tryz.sizeOf9
  v9 := Tryz.zeroValue9
  t37 := Tryz.underlying53
  a37 := Tryz.isAgg53
  z37 := Tryz.sizeOf53
  v37 := Tryz.zeroValue53
  t51 := Tryz.underlying295
  a51 := Tryz.isAgg295
  z51 := Tryz.sizeOf295
  v51 := Tryz.zeroValue295
  t53 := Tryz.underlying267
  a53 := Tryz.isAgg267
  z53 := Tryz.sizeOf267
  v53 := Tryz.zeroValue267 }
open Go.RowKit Go.Sort Go.Lib in
/-- internal/strconv.formatBase10: "formatBase10 formats the decimal representation of u into a. The caller is responsible for ensuring that a is big enough to hold u. If a is too big, leading zeros will be filled in as needed.": THE ROW HOLDS u's DIGITS ('FmtInv .. 0 ..': every place t holds 'dg u (len - 1 - t)'); all else is as it was but for the count of draws. (LAID: no walk: one application.) -/
theorem Tryz.internal_strconv_formatBase10 (blk off cap : Nat) (u : Nat) (d : Array UInt8) (w : World) (hH : Holds (fun (b : UInt8) => Value.int .u8 (b.toNat : Int)) w blk off d) (hu : u < 10 ^ d.size) (hu64 : u < 18446744073709551616) (hsz : d.size < 4611686018427387904) :
    Calls Tryz.prog 244 #[.slice (some ⟨blk, off, none⟩) d.size cap, .int .u64 u] w fun e w' =>
      e = .returned (.tuple #[]) ∧ ∃ (n v' : Nat) (dk : Array UInt8), w' = (putRow (fun (b : UInt8) => Value.int .u8 (b.toNat : Int)) w blk off dk).drewN n ∧ FmtInv d.size u 0 v' dk := Any.internal_strconv_formatBase10 Tryz.lays285 blk off cap u d w hH hu hu64 hsz
def Tryz.laysM246_ren : Go.Shelf.Ren := ⟨fun | 246 => 231 | 283 => 242 | 284 => 243 | 285 => 244 | 286 => 245 | 129 => 249 | 317 => 248 | 318 => 250 | 319 => 251 | 320 => 252 | 337 => 253 | 338 => 254 | n => n, fun | 2 => 2 | 3 => 3 | 9 => 9 | 4 => 4 | 171 => 316 | 0 => 0 | 53 => 267 | 37 => 53 | 5 => 5 | 173 => 319 | 212 => 326 | 51 => 295 | 20 => 20 | 213 => 327 | 46 => 258 | 232 => 333 | 233 => 334 | n => n, fun | 17 => 3 | 18 => 4 | 19 => 5 | n => n⟩
theorem Tryz.laysM246 : Go.Proofs.LaysM.n246 Tryz.prog Tryz.laysM246_ren := {
  mixed := by kernel_rfl
  f129 := Tryz.func249.trans (congrArg some (by kernel_rfl))
  f246 := Tryz.func231.trans (congrArg some (by kernel_rfl))
  f283 := Tryz.func242.trans (congrArg some (by kernel_rfl))
  f284 := Tryz.func243.trans (congrArg some (by kernel_rfl))
  f285 := Tryz.func244.trans (congrArg some (by kernel_rfl))
  f286 := Tryz.func245.trans (congrArg some (by kernel_rfl))
  f317 := Tryz.func248.trans (congrArg some (by kernel_rfl))
  f318 := Tryz.func250.trans (congrArg some (by kernel_rfl))
  f319 := Tryz.func251.trans (congrArg some (by kernel_rfl))
  f320 := Tryz.func252.trans (congrArg some (by kernel_rfl))
  f337 := Tryz.func253.trans (congrArg some (by kernel_rfl))
  f338 := Tryz.func254.trans (congrArg some (by kernel_rfl))
  t0 := Tryz.underlying0
  a0 := Tryz.isAgg0
  z0 := Tryz.sizeOf0
  v0 := Tryz.zeroValue0
  t2 := Tryz.underlying2
  a2 := Tryz.isAgg2
  z2 := Tryz.sizeOf2
  v2 := Tryz.zeroValue2
  t3 := Tryz.underlying3
  a3 := Tryz.isAgg3
  z3 := Tryz.sizeOf3
  v3 := Tryz.zeroValue3
  t4 := Tryz.underlying4
  a4 := Tryz.isAgg4
  z4 := Tryz.sizeOf4
  v4 := Tryz.zeroValue4
  t5 := Tryz.underlying5
  a5 := Tryz.isAgg5
  z5 := Tryz.sizeOf5
  v5 := Tryz.zeroValue5
  t9 := Tryz.underlying9
  a9 := Tryz.isAgg9
  z9 := Tryz.sizeOf9
  v9 := Tryz.zeroValue9
  t20 := Tryz.underlying20
  a20 := Tryz.isAgg20
  z20 := Tryz.sizeOf20
  v20 := Tryz.zeroValue20
  t37 := Tryz.underlying53
  a37 := Tryz.isAgg53
  z37 := Tryz.sizeOf53
  v37 := Tryz.zeroValue53
  t46 := Tryz.underlying258
  a46 := Tryz.isAgg258
  z46 := Tryz.sizeOf258
  v46 := Tryz.zeroValue258
  t51 := Tryz.underlying295
  a51 := Tryz.isAgg295
  z51 := Tryz.sizeOf295
  v51 := Tryz.zeroValue295
  t53 := Tryz.underlying267
  a53 := Tryz.isAgg267
  z53 := Tryz.sizeOf267
  v53 := Tryz.zeroValue267
  t171 := Tryz.underlying316
  a171 := Tryz.isAgg316
  z171 := Tryz.sizeOf316
  v171 := Tryz.zeroValue316
  t173 := Tryz.underlying319
  a173 := Tryz.isAgg319
  z173 := Tryz.sizeOf319
  v173 := Tryz.zeroValue319
  t212 := Tryz.underlying326
  a212 := Tryz.isAgg326
  z212 := Tryz.sizeOf326
  v212 := Tryz.zeroValue326
  t213 := Tryz.underlying327
  a213 := Tryz.isAgg327
  z213 := Tryz.sizeOf327
  t232 := Tryz.underlying333
  a232 := Tryz.isAgg333
  z232 := Tryz.sizeOf333
  v232 := Tryz.zeroValue333
  t233 := Tryz.underlying334
  a233 := Tryz.isAgg334
  z233 := Tryz.sizeOf334
  v233 := Tryz.zeroValue334
  g17 := by kernel_rfl
  g18 := by kernel_rfl
  g19 := by kernel_rfl
  i0 := by kernel_rfl
  i2 := by kernel_rfl
  i3 := by kernel_rfl
  i4 := by kernel_rfl
  i5 := by kernel_rfl
  i9 := by kernel_rfl
  i20 := by kernel_rfl
  i37 := by kernel_rfl
  i46 := by kernel_rfl
  i51 := by kernel_rfl
  i53 := by kernel_rfl
  i171 := by kernel_rfl
  i173 := by kernel_rfl
  i212 := by kernel_rfl
  i232 := by kernel_rfl
  i233 := by kernel_rfl
  m17 := by kernel_rfl
  m18 := by kernel_rfl
  m19 := by kernel_rfl }
open Go.RowKit Go.Sort Go.Lib in
/-- internal/strconv.FormatInt: "FormatInt returns the string representation of i in the given base": AT BASE 10: i's decimal numeral, for every int64. The world behind the call: the world before it, new blocks behind the heap, draws. (LAID: no walk: one application.) -/
theorem Tryz.internal_strconv_FormatInt_10 (n : Int) (h0 : -9223372036854775808 ≤ n) (h1 : n ≤ 9223372036854775807) (w : World) (htab : Lib.TabIs Tryz.prog w "internal/strconv.uint64pow10" .u64 Lib.pow10Tab) :
    Calls Tryz.prog 231 #[.int .i64 n, .int .i64 10] w fun e w' => e = .returned (.string ⟨(Lib.itoa n).toArray⟩) ∧ ∃ k os, w' = grow (w.drewN k) os := Any.internal_strconv_FormatInt_10 Tryz.laysM246 n h0 h1 w htab
def Tryz.laysM171_ren : Go.Shelf.Ren := ⟨fun | 171 => 165 | 243 => 209 | 246 => 231 | 283 => 242 | 284 => 243 | 285 => 244 | 286 => 245 | 129 => 249 | 317 => 248 | 318 => 250 | 319 => 251 | 320 => 252 | 337 => 253 | 338 => 254 | n => n, fun | 3 => 3 | 9 => 9 | 2 => 2 | 4 => 4 | 171 => 316 | 0 => 0 | 53 => 267 | 37 => 53 | 5 => 5 | 173 => 319 | 212 => 326 | 51 => 295 | 20 => 20 | 213 => 327 | 46 => 258 | 232 => 333 | 233 => 334 | n => n, fun | 17 => 3 | 18 => 4 | 19 => 5 | n => n⟩
theorem Tryz.laysM171 : Go.Proofs.LaysM.n171 Tryz.prog Tryz.laysM171_ren := {
  mixed := by kernel_rfl
  f129 := Tryz.func249.trans (congrArg some (by kernel_rfl))
  f171 := Tryz.func165.trans (congrArg some (by kernel_rfl))
  f243 := Tryz.func209.trans (congrArg some (by kernel_rfl))
  f246 := Tryz.func231.trans (congrArg some (by kernel_rfl))
  f283 := Tryz.func242.trans (congrArg some (by kernel_rfl))
  f284 := Tryz.func243.trans (congrArg some (by kernel_rfl))
  f285 := Tryz.func244.trans (congrArg some (by kernel_rfl))
  f286 := Tryz.func245.trans (congrArg some (by kernel_rfl))
  f317 := Tryz.func248.trans (congrArg some (by kernel_rfl))
  f318 := Tryz.func250.trans (congrArg some (by kernel_rfl))
  f319 := Tryz.func251.trans (congrArg some (by kernel_rfl))
  f320 := Tryz.func252.trans (congrArg some (by kernel_rfl))
  f337 := Tryz.func253.trans (congrArg some (by kernel_rfl))
  f338 := Tryz.func254.trans (congrArg some (by kernel_rfl))
  t0 := Tryz.underlying0
  a0 := Tryz.isAgg0
  z0 := Tryz.sizeOf0
  v0 := Tryz.zeroValue0
  t2 := Tryz.underlying2
  a2 := Tryz.isAgg2
  z2 := Tryz.sizeOf2
  v2 := Tryz.zeroValue2
  t3 := Tryz.underlying3
  a3 := Tryz.isAgg3
  z3 := Tryz.sizeOf3
  v3 := Tryz.zeroValue3
  t4 := Tryz.underlying4
  a4 := Tryz.isAgg4
  z4 := Tryz.sizeOf4
  v4 := Tryz.zeroValue4
  t5 := Tryz.underlying5
  a5 := Tryz.isAgg5
  z5 := Tryz.sizeOf5
  v5 := Tryz.zeroValue5
  t9 := Tryz.underlying9
  a9 := Tryz.isAgg9
  z9 := Tryz.sizeOf9
  v9 := Tryz.zeroValue9
  t20 := Tryz.underlying20
  a20 := Tryz.isAgg20
  z20 := Tryz.sizeOf20
  v20 := Tryz.zeroValue20
  t37 := Tryz.underlying53
  a37 := Tryz.isAgg53
  z37 := Tryz.sizeOf53
  v37 := Tryz.zeroValue53
  t46 := Tryz.underlying258
  a46 := Tryz.isAgg258
  z46 := Tryz.sizeOf258
  v46 := Tryz.zeroValue258
  t51 := Tryz.underlying295
  a51 := Tryz.isAgg295
  z51 := Tryz.sizeOf295
  v51 := Tryz.zeroValue295
  t53 := Tryz.underlying267
  a53 := Tryz.isAgg267
  z53 := Tryz.sizeOf267
  v53 := Tryz.zeroValue267
  t171 := Tryz.underlying316
  a171 := Tryz.isAgg316
  z171 := Tryz.sizeOf316
  v171 := Tryz.zeroValue316
  t173 := Tryz.underlying319
  a173 := Tryz.isAgg319
  z173 := Tryz.sizeOf319
  v173 := Tryz.zeroValue319
  t212 := Tryz.underlying326
  a212 := Tryz.isAgg326
  z212 := Tryz.sizeOf326
  v212 := Tryz.zeroValue326
  t213 := Tryz.underlying327
  a213 := Tryz.isAgg327
  z213 := Tryz.sizeOf327
  t232 := Tryz.underlying333
  a232 := Tryz.isAgg333
  z232 := Tryz.sizeOf333
  v232 := Tryz.zeroValue333
  t233 := Tryz.underlying334
  a233 := Tryz.isAgg334
  z233 := Tryz.sizeOf334
  v233 := Tryz.zeroValue334
  g17 := by kernel_rfl
  g18 := by kernel_rfl
  g19 := by kernel_rfl
  i0 := by kernel_rfl
  i2 := by kernel_rfl
  i3 := by kernel_rfl
  i4 := by kernel_rfl
  i5 := by kernel_rfl
  i9 := by kernel_rfl
  i20 := by kernel_rfl
  i37 := by kernel_rfl
  i46 := by kernel_rfl
  i51 := by kernel_rfl
  i53 := by kernel_rfl
  i171 := by kernel_rfl
  i173 := by kernel_rfl
  i212 := by kernel_rfl
  i232 := by kernel_rfl
  i233 := by kernel_rfl
  m17 := by kernel_rfl
  m18 := by kernel_rfl
  m19 := by kernel_rfl }
open Go.RowKit Go.Sort Go.Lib in
/-- strconv.Itoa: "Itoa is equivalent to FormatInt(int64(i), 10).": i's DECIMAL NUMERAL ('Lib.itoa': a '-' where i is negative, then the digits), FOR EVERY int. The world behind the call: the world before it, new blocks behind the heap (the library's 'var a [24]byte'), draws. (LAID: no walk: one application.) -/
theorem Tryz.strconv_Itoa (n : Int) (h0 : -9223372036854775808 ≤ n) (h1 : n ≤ 9223372036854775807) (w : World) (htab : Lib.TabIs Tryz.prog w "internal/strconv.uint64pow10" .u64 Lib.pow10Tab) :
    Calls Tryz.prog 165 #[.int .i64 n] w fun e w' => e = .returned (.string ⟨(Lib.itoa n).toArray⟩) ∧ ∃ k os, w' = grow (w.drewN k) os := Any.strconv_Itoa Tryz.laysM171 n h0 h1 w htab
def Tryz.laysM316_ren : Go.Shelf.Ren := ⟨fun | 316 => 246 | n => n, fun | 9 => 9 | 3 => 3 | 4 => 4 | 37 => 53 | 0 => 0 | 127 => 303 | 5 => 5 | n => n, fun | n => n⟩
theorem Tryz.laysM316 : Go.Proofs.LaysM.n316 Tryz.prog Tryz.laysM316_ren := {
  mixed := by kernel_rfl
  f316 := Tryz.func246.trans (congrArg some (by kernel_rfl))
  t0 := Tryz.underlying0
  a0 := Tryz.isAgg0
  z0 := Tryz.sizeOf0
  v0 := Tryz.zeroValue0
  t3 := Tryz.underlying3
  a3 := Tryz.isAgg3
  z3 := Tryz.sizeOf3
  v3 := Tryz.zeroValue3
  t4 := Tryz.underlying4
  a4 := Tryz.isAgg4
  z4 := Tryz.sizeOf4
  v4 := Tryz.zeroValue4
  t9 := Tryz.underlying9
  a9 := Tryz.isAgg9
  z9 := Tryz.sizeOf9
  v9 := Tryz.zeroValue9
  t37 := Tryz.underlying53
  a37 := Tryz.isAgg53
  z37 := Tryz.sizeOf53
  v37 := Tryz.zeroValue53
  t127 := Tryz.underlying303
  a127 := Tryz.isAgg303
  z127 := Tryz.sizeOf303
  v127 := Tryz.zeroValue303
  t5 := Tryz.underlying5
  a5 := Tryz.isAgg5
  z5 := Tryz.sizeOf5
  v5 := Tryz.zeroValue5
  i0 := by kernel_rfl
  i3 := by kernel_rfl
  i4 := by kernel_rfl
  i5 := by kernel_rfl
  i9 := by kernel_rfl
  i37 := by kernel_rfl
  i127 := by kernel_rfl }
open Go.RowKit in
/-- internal/stringslite.Clone (what strings.Clone calls): "Clone returns a fresh copy of s.": THE SAME BYTES. Of what was there nothing has turned (a new row is laid, and frozen, where s is not empty). (LAID: no walk: one application.) -/
theorem Tryz.stringslite_Clone (s : ByteArray) (w : World) (hlim : s.size ≤ 281474976710656) :
    Calls Tryz.prog 246 #[.string s] w fun e w' => e = .returned (.string s) ∧ Below w.heap.size w w' := Any.stringslite_Clone Tryz.laysM316 s w hlim
def Tryz.laysC172_ren : Go.Shelf.Ren := ⟨fun | 172 => 190 | 244 => 220 | 245 => 221 | 247 => 233 | 279 => 234 | 280 => 235 | 281 => 236 | 282 => 237 | 287 => 227 | 316 => 246 | 171 => 165 | 205 => 247 | 321 => 239 | 322 => 240 | 243 => 209 | 246 => 231 | 283 => 242 | 284 => 243 | 285 => 244 | 286 => 245 | 129 => 249 | 317 => 248 | 318 => 250 | 319 => 251 | 320 => 252 | 337 => 253 | 338 => 254 | n => n, fun | 9 => 9 | 3 => 3 | 75 => 263 | 76 => 264 | 4 => 4 | 5 => 5 | 167 => 306 | 37 => 53 | 0 => 0 | 85 => 307 | 2 => 2 | 168 => 309 | 53 => 267 | 175 => 268 | 46 => 258 | 210 => 323 | 127 => 303 | 145 => 331 | 143 => 329 | 21 => 21 | 171 => 316 | 173 => 319 | 212 => 326 | 51 => 295 | 20 => 20 | 213 => 327 | 232 => 333 | 233 => 334 | 80 => 282 | n => n, fun | 15 => 1 | 16 => 2 | 17 => 3 | 18 => 4 | 19 => 5 | n => n⟩
theorem Tryz.laysC172 : Go.Proofs.LaysC.n172 Tryz.prog Tryz.laysC172_ren := {
  mixed := by kernel_rfl
  f129 := Tryz.func249.trans (congrArg some (by kernel_rfl))
  f171 := Tryz.func165.trans (congrArg some (by kernel_rfl))
  f172 := Tryz.func190.trans (congrArg some (by kernel_rfl))
  f205 := Tryz.func247.trans (congrArg some (by kernel_rfl))
  f243 := Tryz.func209.trans (congrArg some (by kernel_rfl))
  f244 := Tryz.func220.trans (congrArg some (by kernel_rfl))
  f245 := Tryz.func221.trans (congrArg some (by kernel_rfl))
  f246 := Tryz.func231.trans (congrArg some (by kernel_rfl))
  f247 := Tryz.func233.trans (congrArg some (by kernel_rfl))
  f279 := Tryz.func234.trans (congrArg some (by kernel_rfl))
  f280 := Tryz.func235.trans (congrArg some (by kernel_rfl))
  f281 := Tryz.func236.trans (congrArg some (by kernel_rfl))
  f282 := Tryz.func237.trans (congrArg some (by kernel_rfl))
  f283 := Tryz.func242.trans (congrArg some (by kernel_rfl))
  f284 := Tryz.func243.trans (congrArg some (by kernel_rfl))
  f285 := Tryz.func244.trans (congrArg some (by kernel_rfl))
  f286 := Tryz.func245.trans (congrArg some (by kernel_rfl))
  f287 := Tryz.func227.trans (congrArg some (by kernel_rfl))
  f316 := Tryz.func246.trans (congrArg some (by kernel_rfl))
  f317 := Tryz.func248.trans (congrArg some (by kernel_rfl))
  f318 := Tryz.func250.trans (congrArg some (by kernel_rfl))
  f319 := Tryz.func251.trans (congrArg some (by kernel_rfl))
  f320 := Tryz.func252.trans (congrArg some (by kernel_rfl))
  f321 := Tryz.func239.trans (congrArg some (by kernel_rfl))
  f322 := Tryz.func240.trans (congrArg some (by kernel_rfl))
  f337 := Tryz.func253.trans (congrArg some (by kernel_rfl))
  f338 := Tryz.func254.trans (congrArg some (by kernel_rfl))
  t0 := Tryz.underlying0
  a0 := Tryz.isAgg0
  z0 := Tryz.sizeOf0
  v0 := Tryz.zeroValue0
  t2 := Tryz.underlying2
  a2 := Tryz.isAgg2
  z2 := Tryz.sizeOf2
  v2 := Tryz.zeroValue2
  t3 := Tryz.underlying3
  a3 := Tryz.isAgg3
  z3 := Tryz.sizeOf3
  v3 := Tryz.zeroValue3
  t4 := Tryz.underlying4
  a4 := Tryz.isAgg4
  z4 := Tryz.sizeOf4
  v4 := Tryz.zeroValue4
  t5 := Tryz.underlying5
  a5 := Tryz.isAgg5
  z5 := Tryz.sizeOf5
  v5 := Tryz.zeroValue5
  t9 := Tryz.underlying9
  a9 := Tryz.isAgg9
  z9 := Tryz.sizeOf9
  v9 := Tryz.zeroValue9
  t20 := Tryz.underlying20
  a20 := Tryz.isAgg20
  z20 := Tryz.sizeOf20
  v20 := Tryz.zeroValue20
  t21 := Tryz.underlying21
  a21 := Tryz.isAgg21
  z21 := Tryz.sizeOf21
  v21 := Tryz.zeroValue21
  t37 := Tryz.underlying53
  a37 := Tryz.isAgg53
  z37 := Tryz.sizeOf53
  v37 := Tryz.zeroValue53
  t46 := Tryz.underlying258
  a46 := Tryz.isAgg258
  z46 := Tryz.sizeOf258
  v46 := Tryz.zeroValue258
  t51 := Tryz.underlying295
  a51 := Tryz.isAgg295
  z51 := Tryz.sizeOf295
  v51 := Tryz.zeroValue295
  t53 := Tryz.underlying267
  a53 := Tryz.isAgg267
  z53 := Tryz.sizeOf267
  v53 := Tryz.zeroValue267
  t75 := Tryz.underlying263
  a75 := Tryz.isAgg263
  z75 := Tryz.sizeOf263
  v75 := Tryz.zeroValue263
  t76 := Tryz.underlying264
  a76 := Tryz.isAgg264
  z76 := Tryz.sizeOf264
  v76 := Tryz.zeroValue264
  t85 := Tryz.underlying307
  a85 := Tryz.isAgg307
  z85 := Tryz.sizeOf307
  v85 := Tryz.zeroValue307
  t127 := Tryz.underlying303
  a127 := Tryz.isAgg303
  z127 := Tryz.sizeOf303
  v127 := Tryz.zeroValue303
  t143 := Tryz.underlying329
  a143 := Tryz.isAgg329
  z143 := Tryz.sizeOf329
  v143 := Tryz.zeroValue329
  t145 := Tryz.underlying331
  a145 := Tryz.isAgg331
  z145 := Tryz.sizeOf331
  v145 := Tryz.zeroValue331
  t167 := Tryz.underlying306
  a167 := Tryz.isAgg306
  z167 := Tryz.sizeOf306
  v167 := Tryz.zeroValue306
  t168 := Tryz.underlying309
  a168 := Tryz.isAgg309
  z168 := Tryz.sizeOf309
  v168 := Tryz.zeroValue309
  t171 := Tryz.underlying316
  a171 := Tryz.isAgg316
  z171 := Tryz.sizeOf316
  v171 := Tryz.zeroValue316
  t173 := Tryz.underlying319
  a173 := Tryz.isAgg319
  z173 := Tryz.sizeOf319
  v173 := Tryz.zeroValue319
  t175 := Tryz.underlying268
  a175 := Tryz.isAgg268
  z175 := Tryz.sizeOf268
  v175 := Tryz.zeroValue268
  t210 := Tryz.underlying323
  a210 := Tryz.isAgg323
  z210 := Tryz.sizeOf323
  v210 := Tryz.zeroValue323
  t212 := Tryz.underlying326
  a212 := Tryz.isAgg326
  z212 := Tryz.sizeOf326
  v212 := Tryz.zeroValue326
  t213 := Tryz.underlying327
  a213 := Tryz.isAgg327
  z213 := Tryz.sizeOf327
  t232 := Tryz.underlying333
  a232 := Tryz.isAgg333
  z232 := Tryz.sizeOf333
  v232 := Tryz.zeroValue333
  t233 := Tryz.underlying334
  a233 := Tryz.isAgg334
  z233 := Tryz.sizeOf334
  v233 := Tryz.zeroValue334
  g15 := by kernel_rfl
  g16 := by kernel_rfl
  g17 := by kernel_rfl
  g18 := by kernel_rfl
  g19 := by kernel_rfl
  t80 := Tryz.underlying282
  a80 := Tryz.isAgg282
  z80 := Tryz.sizeOf282
  v80 := Tryz.zeroValue282
  i0 := by kernel_rfl
  i2 := by kernel_rfl
  i3 := by kernel_rfl
  i4 := by kernel_rfl
  i5 := by kernel_rfl
  i9 := by kernel_rfl
  i20 := by kernel_rfl
  i21 := by kernel_rfl
  i37 := by kernel_rfl
  i46 := by kernel_rfl
  i51 := by kernel_rfl
  i53 := by kernel_rfl
  i75 := by kernel_rfl
  i76 := by kernel_rfl
  i80 := by kernel_rfl
  i85 := by kernel_rfl
  i127 := by kernel_rfl
  i143 := by kernel_rfl
  i145 := by kernel_rfl
  i167 := by kernel_rfl
  i168 := by kernel_rfl
  i171 := by kernel_rfl
  i173 := by kernel_rfl
  i175 := by kernel_rfl
  i210 := by kernel_rfl
  i212 := by kernel_rfl
  i232 := by kernel_rfl
  i233 := by kernel_rfl
  m15 := by kernel_rfl
  m16 := by kernel_rfl
  m17 := by kernel_rfl
  m18 := by kernel_rfl
  m19 := by kernel_rfl
  c0 := by kernel_rfl
  c2 := by kernel_rfl
  c3 := by kernel_rfl
  c4 := by kernel_rfl
  c5 := by kernel_rfl
  c9 := by kernel_rfl
  c20 := by kernel_rfl
  c21 := by kernel_rfl
  c37 := by kernel_rfl
  c46 := by kernel_rfl
  c51 := by kernel_rfl
  c53 := by kernel_rfl
  c75 := by kernel_rfl
  c76 := by kernel_rfl
  c80 := by kernel_rfl
  c85 := by kernel_rfl
  c127 := by kernel_rfl
  c143 := by kernel_rfl
  c145 := by kernel_rfl
  c167 := by kernel_rfl
  c168 := by kernel_rfl
  c171 := by kernel_rfl
  c173 := by kernel_rfl
  c175 := by kernel_rfl
  c210 := by kernel_rfl
  c212 := by kernel_rfl
  c213 := by kernel_rfl
  c232 := by kernel_rfl
  c233 := by kernel_rfl }
open Go.RowKit in
/-- strconv.Atoi, AT EVERY STRING THAT SPELLS AN int ('Lib.atoiAll .. = .ok v'; of whatever length: leading zeros count): v, AND NO ERROR. The world: as it was, or with the one new row that '[]byte(..)' lays. (LAID: no walk: one application.) -/
theorem Tryz.strconv_Atoi_ok (s : ByteArray) (hmax : s.size ≤ 9223372036854775806) (v : Int) (h : Lib.atoiAll s.data.toList = .ok v) (w : World) :
    Calls Tryz.prog 190 #[.string s] w fun e w' => e = .returned (.tuple #[.int .i64 v, .nilIface]) ∧ (w' = w ∨ ∃ t, w' = Lib.bytesWorld w 5 t) := Any.strconv_Atoi_ok Tryz.laysC172 s hmax v h w
open Go.RowKit in
/-- strconv.Atoi, AT EVERY NUMERAL THAT NO int HOLDS ('.range'): THE GREATEST OR THE LEAST int, BY THE SIGN ('Lib.atoiSat'), AND AN ERROR THAT IS NOT nil: a *NumError in a new block N: {Func: "Atoi", Num: s's bytes, Err: what the variable ErrRange holds}. Of what was there nothing has turned. (LAID: no walk: one application.) -/
theorem Tryz.strconv_Atoi_range (s : ByteArray) (hlim : s.size ≤ 281474976710656) (h : Lib.atoiAll s.data.toList = .range) (ev : Value) (w : World) (hv : w.cell? ⟨2, 0, none⟩ = some ev) (hev : ev = .nilIface ∨ ∃ te pe, ev = .iface te pe) :
    Calls Tryz.prog 190 #[.string s] w fun e w' => ∃ N, e = .returned (.tuple #[.int .i64 (Lib.atoiSat s.data.toList), .iface 309 (.pointer (some ⟨N, 0, none⟩))]) ∧ w.heap.size ≤ N ∧ w'.heap[N]? = some (.cells #[.string ⟨#[65, 116, 111, 105]⟩, .string s, ev] 323 (0, 0)) ∧ Below w.heap.size w w' := Any.strconv_Atoi_range Tryz.laysC172 s hlim h ev w hv hev
def Tryz.laysPu14_ren : Go.Shelf.Ren := ⟨fun | 14 => 196 | 16 => 227 | 17 => 221 | 19 => 239 | 20 => 240 | 21 => 234 | 22 => 235 | 23 => 236 | 24 => 237 | 25 => 246 | 27 => 165 | 26 => 247 | 28 => 209 | 29 => 231 | 30 => 242 | 31 => 243 | 32 => 244 | 33 => 245 | 35 => 249 | 34 => 248 | 36 => 250 | 37 => 251 | 38 => 252 | 39 => 253 | 40 => 254 | n => n, fun | 9 => 9 | 3 => 3 | 22 => 267 | 24 => 263 | 25 => 268 | 4 => 4 | 34 => 306 | 5 => 5 | 36 => 258 | 37 => 53 | 0 => 0 | 39 => 309 | 21 => 21 | 44 => 323 | 47 => 303 | 50 => 331 | 48 => 329 | 2 => 2 | 52 => 316 | 55 => 319 | 59 => 326 | 60 => 295 | 20 => 20 | 61 => 327 | 65 => 333 | 66 => 334 | 67 => 282 | n => n, fun | 0 => 1 | 1 => 2 | 2 => 3 | 3 => 4 | 4 => 5 | n => n⟩
theorem Tryz.laysPu14 : Go.Proofs.LaysPu.n14 Tryz.prog Tryz.laysPu14_ren := {
  mixed := by kernel_rfl
  f14 := Tryz.func196.trans (congrArg some (by kernel_rfl))
  f16 := Tryz.func227.trans (congrArg some (by kernel_rfl))
  f17 := Tryz.func221.trans (congrArg some (by kernel_rfl))
  f19 := Tryz.func239.trans (congrArg some (by kernel_rfl))
  f20 := Tryz.func240.trans (congrArg some (by kernel_rfl))
  f21 := Tryz.func234.trans (congrArg some (by kernel_rfl))
  f22 := Tryz.func235.trans (congrArg some (by kernel_rfl))
  f23 := Tryz.func236.trans (congrArg some (by kernel_rfl))
  f24 := Tryz.func237.trans (congrArg some (by kernel_rfl))
  f25 := Tryz.func246.trans (congrArg some (by kernel_rfl))
  f26 := Tryz.func247.trans (congrArg some (by kernel_rfl))
  f27 := Tryz.func165.trans (congrArg some (by kernel_rfl))
  f28 := Tryz.func209.trans (congrArg some (by kernel_rfl))
  f29 := Tryz.func231.trans (congrArg some (by kernel_rfl))
  f30 := Tryz.func242.trans (congrArg some (by kernel_rfl))
  f31 := Tryz.func243.trans (congrArg some (by kernel_rfl))
  f32 := Tryz.func244.trans (congrArg some (by kernel_rfl))
  f33 := Tryz.func245.trans (congrArg some (by kernel_rfl))
  f34 := Tryz.func248.trans (congrArg some (by kernel_rfl))
  f35 := Tryz.func249.trans (congrArg some (by kernel_rfl))
  f36 := Tryz.func250.trans (congrArg some (by kernel_rfl))
  f37 := Tryz.func251.trans (congrArg some (by kernel_rfl))
  f38 := Tryz.func252.trans (congrArg some (by kernel_rfl))
  f39 := Tryz.func253.trans (congrArg some (by kernel_rfl))
  f40 := Tryz.func254.trans (congrArg some (by kernel_rfl))
  t0 := Tryz.underlying0
  a0 := Tryz.isAgg0
  z0 := Tryz.sizeOf0
  v0 := Tryz.zeroValue0
  i0 := by kernel_rfl
  t2 := Tryz.underlying2
  a2 := Tryz.isAgg2
  z2 := Tryz.sizeOf2
  v2 := Tryz.zeroValue2
  i2 := by kernel_rfl
  t3 := Tryz.underlying3
  a3 := Tryz.isAgg3
  z3 := Tryz.sizeOf3
  v3 := Tryz.zeroValue3
  i3 := by kernel_rfl
  t4 := Tryz.underlying4
  a4 := Tryz.isAgg4
  z4 := Tryz.sizeOf4
  v4 := Tryz.zeroValue4
  i4 := by kernel_rfl
  t5 := Tryz.underlying5
  a5 := Tryz.isAgg5
  z5 := Tryz.sizeOf5
  v5 := Tryz.zeroValue5
  i5 := by kernel_rfl
  t9 := Tryz.underlying9
  a9 := Tryz.isAgg9
  z9 := Tryz.sizeOf9
  v9 := Tryz.zeroValue9
  i9 := by kernel_rfl
  t20 := Tryz.underlying20
  a20 := Tryz.isAgg20
  z20 := Tryz.sizeOf20
  v20 := Tryz.zeroValue20
  i20 := by kernel_rfl
  t21 := Tryz.underlying21
  a21 := Tryz.isAgg21
  z21 := Tryz.sizeOf21
  v21 := Tryz.zeroValue21
  i21 := by kernel_rfl
  t22 := Tryz.underlying267
  a22 := Tryz.isAgg267
  z22 := Tryz.sizeOf267
  v22 := Tryz.zeroValue267
  i22 := by kernel_rfl
  t24 := Tryz.underlying263
  a24 := Tryz.isAgg263
  z24 := Tryz.sizeOf263
  v24 := Tryz.zeroValue263
  i24 := by kernel_rfl
  t25 := Tryz.underlying268
  a25 := Tryz.isAgg268
  z25 := Tryz.sizeOf268
  v25 := Tryz.zeroValue268
  i25 := by kernel_rfl
  t34 := Tryz.underlying306
  a34 := Tryz.isAgg306
  z34 := Tryz.sizeOf306
  v34 := Tryz.zeroValue306
  i34 := by kernel_rfl
  c34 := by kernel_rfl
  t36 := Tryz.underlying258
  a36 := Tryz.isAgg258
  z36 := Tryz.sizeOf258
  v36 := Tryz.zeroValue258
  i36 := by kernel_rfl
  t37 := Tryz.underlying53
  a37 := Tryz.isAgg53
  z37 := Tryz.sizeOf53
  v37 := Tryz.zeroValue53
  i37 := by kernel_rfl
  t39 := Tryz.underlying309
  a39 := Tryz.isAgg309
  z39 := Tryz.sizeOf309
  v39 := Tryz.zeroValue309
  i39 := by kernel_rfl
  t44 := Tryz.underlying323
  a44 := Tryz.isAgg323
  z44 := Tryz.sizeOf323
  v44 := Tryz.zeroValue323
  i44 := by kernel_rfl
  t47 := Tryz.underlying303
  a47 := Tryz.isAgg303
  z47 := Tryz.sizeOf303
  v47 := Tryz.zeroValue303
  i47 := by kernel_rfl
  t48 := Tryz.underlying329
  a48 := Tryz.isAgg329
  z48 := Tryz.sizeOf329
  v48 := Tryz.zeroValue329
  i48 := by kernel_rfl
  t50 := Tryz.underlying331
  a50 := Tryz.isAgg331
  z50 := Tryz.sizeOf331
  v50 := Tryz.zeroValue331
  i50 := by kernel_rfl
  t52 := Tryz.underlying316
  a52 := Tryz.isAgg316
  z52 := Tryz.sizeOf316
  v52 := Tryz.zeroValue316
  i52 := by kernel_rfl
  t55 := Tryz.underlying319
  a55 := Tryz.isAgg319
  z55 := Tryz.sizeOf319
  v55 := Tryz.zeroValue319
  i55 := by kernel_rfl
  t59 := Tryz.underlying326
  a59 := Tryz.isAgg326
  z59 := Tryz.sizeOf326
  v59 := Tryz.zeroValue326
  i59 := by kernel_rfl
  t60 := Tryz.underlying295
  a60 := Tryz.isAgg295
  z60 := Tryz.sizeOf295
  v60 := Tryz.zeroValue295
  i60 := by kernel_rfl
  t61 := Tryz.underlying327
  a61 := Tryz.isAgg327
  z61 := Tryz.sizeOf327
  t65 := Tryz.underlying333
  a65 := Tryz.isAgg333
  z65 := Tryz.sizeOf333
  v65 := Tryz.zeroValue333
  i65 := by kernel_rfl
  t66 := Tryz.underlying334
  a66 := Tryz.isAgg334
  z66 := Tryz.sizeOf334
  v66 := Tryz.zeroValue334
  i66 := by kernel_rfl
  t67 := Tryz.underlying282
  a67 := Tryz.isAgg282
  z67 := Tryz.sizeOf282
  v67 := Tryz.zeroValue282
  i67 := by kernel_rfl
  g0 := by kernel_rfl
  m0 := by kernel_rfl
  g1 := by kernel_rfl
  m1 := by kernel_rfl
  g2 := by kernel_rfl
  m2 := by kernel_rfl
  g3 := by kernel_rfl
  m3 := by kernel_rfl
  g4 := by kernel_rfl
  m4 := by kernel_rfl }
open Go.RowKit in
/-- strconv.ParseUint(s, 10, 64), AT EVERY STRING THAT SPELLS A uint64 ('Lib.parseUintB 64 s.data.toList = .ok u'): u, AND NO ERROR. (LAID: no walk: one application.) -/
theorem Tryz.strconv_ParseUint_10_at64_ok (s : ByteArray) (hmax : s.size ≤ 9223372036854775806) (u : Nat) (h : Lib.parseUintB 64 s.data.toList = .ok u) (w : World) :
    Calls Tryz.prog 196 #[.string s, .int .i64 10, .int .i64 64] w fun e w' => e = .returned (.tuple #[.int .u64 u, .nilIface]) ∧ (w' = w ∨ w' = Lib.bytesWorld w 5 s) := Any.strconv_ParseUint_10_at64_ok Tryz.laysPu14 s hmax u h w
def Tryz.lays217_ren : Go.Shelf.Ren := ⟨fun | 217 => 107 | 266 => 159 | n => n, fun | 9 => 9 | 5 => 5 | 3 => 3 | n => n, fun | n => n⟩
theorem Tryz.lays217 : Go.Proofs.Lays.n217 Tryz.prog Tryz.lays217_ren := {
  mixed := by kernel_rfl
  f217 := Tryz.func107.trans (congrArg some (by kernel_rfl))
  f266 := Tryz.func159.trans (congrArg some (by kernel_rfl))
  t3 := Tryz.underlying3
  a3 := Tryz.isAgg3
  z3 := Tryz.sizeOf3
  v3 := Tryz.zeroValue3
  t5 := Tryz.underlying5
  a5 := Tryz.isAgg5
  z5 := Tryz.sizeOf5
  v5 := Tryz.zeroValue5
  t9 := Tryz.underlying9
  a9 := Tryz.isAgg9
  z9 := Tryz.sizeOf9
  v9 := Tryz.zeroValue9 }
open Go.RowKit Go.Lib in
/-- internal/stringslite.IndexByte (what strings.IndexByte calls): IT RETURNS 'Lib.indexByte s c'; the world is as it was. (LAID: no walk: one application.) -/
theorem Tryz.stringslite_IndexByte (s : ByteArray) (c : Int) (w : World) :
    Calls Tryz.prog 107 #[.string s, .int .u8 c] w fun e w' => e = .returned (.int .i64 (Lib.indexByte s.data.toList c.toNat.toUInt8)) ∧ w' = w := Any.stringslite_IndexByte Tryz.lays217 s c w
def Tryz.lays145_ren : Go.Shelf.Ren := ⟨fun | 145 => 101 | 220 => 150 | 219 => 191 | 217 => 107 | 225 => 222 | 224 => 223 | 267 => 224 | 266 => 159 | 314 => 238 | n => n, fun | 9 => 9 | 4 => 4 | 59 => 184 | 3 => 3 | 5 => 5 | 46 => 258 | 146 => 296 | 51 => 295 | n => n, fun | 1 => 0 | n => n⟩
theorem Tryz.lays145 : Go.Proofs.Lays.n145 Tryz.prog Tryz.lays145_ren := {
  mixed := by kernel_rfl
  f145 := Tryz.func101.trans (congrArg some (by kernel_rfl))
  f217 := Tryz.func107.trans (congrArg some (by kernel_rfl))
  f219 := Tryz.func191.trans (congrArg some (by kernel_rfl))
  f220 := Tryz.func150.trans (congrArg some (by kernel_rfl))
  f224 := Tryz.func223.trans (congrArg some (by kernel_rfl))
  f225 := Tryz.func222.trans (congrArg some (by kernel_rfl))
  f266 := Tryz.func159.trans (congrArg some (by kernel_rfl))
  f267 := Tryz.func224.trans (congrArg some (by kernel_rfl))
  f314 := Tryz.func238.trans (congrArg some (by kernel_rfl))
  t3 := Tryz.underlying3
  a3 := Tryz.isAgg3
  z3 := Tryz.sizeOf3
  v3 := Tryz.zeroValue3
  t4 := Tryz.underlying4
  a4 := Tryz.isAgg4
  z4 := Tryz.sizeOf4
  v4 := Tryz.zeroValue4
  t5 := Tryz.underlying5
  a5 := Tryz.isAgg5
  z5 := Tryz.sizeOf5
  v5 := Tryz.zeroValue5
  t9 := Tryz.underlying9
  a9 := Tryz.isAgg9
  z9 := Tryz.sizeOf9
  v9 := Tryz.zeroValue9
  t46 := Tryz.underlying258
  a46 := Tryz.isAgg258
  z46 := Tryz.sizeOf258
  v46 := Tryz.zeroValue258
  t51 := Tryz.underlying295
  a51 := Tryz.isAgg295
  z51 := Tryz.sizeOf295
  v51 := Tryz.zeroValue295
  t59 := Tryz.underlying184
  a59 := Tryz.isAgg184
  z59 := Tryz.sizeOf184
  v59 := Tryz.zeroValue184
  t146 := Tryz.underlying296
  a146 := Tryz.isAgg296
  z146 := Tryz.sizeOf296
  v146 := Tryz.zeroValue296
  g1 := by kernel_rfl }
open Go.RowKit Go.Lib in
/-- strings.Cut: "Cut slices s around the first instance of sep, returning the text before and after sep. The found result reports whether sep appears in s. If sep does not appear in s, cut returns s, "", false.": IT RETURNS 'Lib.cut s sep'; the world is as it was but for the count of draws. (LAID: no walk: one application.) -/
theorem Tryz.strings_Cut (s sep : ByteArray) (m : Int) (w : World) (hs : s.size < 4294967281) (hm : w.cell? ⟨0, 0, none⟩ = some (.int .i64 m)) :
    Calls Tryz.prog 101 #[.string s, .string sep] w fun e w' => e = .returned (.tuple #[.string ⟨(Lib.cut s.data.toList sep.data.toList).1.toArray⟩, .string ⟨(Lib.cut s.data.toList sep.data.toList).2.1.toArray⟩, .bool (Lib.cut s.data.toList sep.data.toList).2.2]) ∧ ∃ n, w' = w.drewN n := Any.strings_Cut Tryz.lays145 s sep m w hs hm
def Tryz.lays99_ren : Go.Shelf.Ren := ⟨fun | 99 => 193 | 206 => 225 | n => n, fun | 9 => 9 | 4 => 4 | 3 => 3 | n => n, fun | n => n⟩
theorem Tryz.lays99 : Go.Proofs.Lays.n99 Tryz.prog Tryz.lays99_ren := {
  mixed := by kernel_rfl
  f99 := Tryz.func193.trans (congrArg some (by kernel_rfl))
  f206 := Tryz.func225.trans (congrArg some (by kernel_rfl))
  t3 := Tryz.underlying3
  a3 := Tryz.isAgg3
  z3 := Tryz.sizeOf3
  v3 := Tryz.zeroValue3
  t4 := Tryz.underlying4
  a4 := Tryz.isAgg4
  z4 := Tryz.sizeOf4
  v4 := Tryz.zeroValue4
  t9 := Tryz.underlying9
  a9 := Tryz.isAgg9
  z9 := Tryz.sizeOf9
  v9 := Tryz.zeroValue9 }
open Go.RowKit Go.Lib in
/-- strings.HasPrefix: "HasPrefix reports whether the string s begins with prefix.": IT RETURNS 'Lib.hasPrefix s prefix'; the world is as it was. (LAID: no walk: one application.) -/
theorem Tryz.strings_HasPrefix (s p : ByteArray) (w : World) :
    Calls Tryz.prog 193 #[.string s, .string p] w fun e w' => e = .returned (.bool (Lib.hasPrefix s.data.toList p.data.toList)) ∧ w' = w := Any.strings_HasPrefix Tryz.lays99 s p w
def Tryz.lays101_ren : Go.Shelf.Ren := ⟨fun | 101 => 153 | 208 => 194 | 206 => 225 | n => n, fun | 9 => 9 | 4 => 4 | 3 => 3 | n => n, fun | n => n⟩
theorem Tryz.lays101 : Go.Proofs.Lays.n101 Tryz.prog Tryz.lays101_ren := {
  mixed := by kernel_rfl
  f101 := Tryz.func153.trans (congrArg some (by kernel_rfl))
  f206 := Tryz.func225.trans (congrArg some (by kernel_rfl))
  f208 := Tryz.func194.trans (congrArg some (by kernel_rfl))
  t3 := Tryz.underlying3
  a3 := Tryz.isAgg3
  z3 := Tryz.sizeOf3
  v3 := Tryz.zeroValue3
  t4 := Tryz.underlying4
  a4 := Tryz.isAgg4
  z4 := Tryz.sizeOf4
  v4 := Tryz.zeroValue4
  t9 := Tryz.underlying9
  a9 := Tryz.isAgg9
  z9 := Tryz.sizeOf9
  v9 := Tryz.zeroValue9 }
open Go.RowKit Go.Lib in
/-- strings.TrimPrefix: "TrimPrefix returns s without the provided leading prefix string. If s doesn't start with prefix, s is returned unchanged.": IT RETURNS 'Lib.trimPrefix s prefix'; the world is as it was. (LAID: no walk: one application.) -/
theorem Tryz.strings_TrimPrefix (s p : ByteArray) (w : World) :
    Calls Tryz.prog 153 #[.string s, .string p] w fun e w' => e = .returned (.string ⟨(Lib.trimPrefix s.data.toList p.data.toList).toArray⟩) ∧ w' = w := Any.strings_TrimPrefix Tryz.lays101 s p w
def Tryz.lays264_ren : Go.Shelf.Ren := ⟨fun | 264 => 219 | n => n, fun | 53 => 267 | 46 => 258 | n => n, fun | n => n⟩
theorem Tryz.lays264 : Go.Proofs.Lays.n264 Tryz.prog Tryz.lays264_ren := {
  mixed := by kernel_rfl
  f264 := Tryz.func219.trans (congrArg some (by kernel_rfl))
  t46 := Tryz.underlying258
  a46 := Tryz.isAgg258
  z46 := Tryz.sizeOf258
  v46 := Tryz.zeroValue258
  t53 := Tryz.underlying267
  a53 := Tryz.isAgg267
  z53 := Tryz.sizeOf267
  v53 := Tryz.zeroValue267 }
open Go.RowKit Go.Lib in
theorem Tryz.bits_Mul64 (x y : Nat) (hx : x < 18446744073709551616) (hy : y < 18446744073709551616) (w : World) :
    Calls Tryz.prog 219 #[.int .u64 x, .int .u64 y] w fun e w' => e = .returned (.tuple #[.int .u64 ((x * y / 18446744073709551616 : Nat) : Int), .int .u64 ((x * y % 18446744073709551616 : Nat) : Int)]) ∧ w' = w := Any.bits_Mul64 Tryz.lays264 x y hx hy w
def Tryz.lays212_ren : Go.Shelf.Ren := ⟨fun | 212 => 187 | 263 => 218 | 264 => 219 | n => n, fun | 46 => 258 | 51 => 295 | 146 => 296 | 53 => 267 | 148 => 298 | n => n, fun | n => n⟩
theorem Tryz.lays212 : Go.Proofs.Lays.n212 Tryz.prog Tryz.lays212_ren := {
  mixed := by kernel_rfl
  f212 := Tryz.func187.trans (congrArg some (by kernel_rfl))
  f263 := Tryz.func218.trans (congrArg some (by kernel_rfl))
  f264 := Tryz.func219.trans (congrArg some (by kernel_rfl))
  t46 := Tryz.underlying258
  a46 := Tryz.isAgg258
  z46 := Tryz.sizeOf258
  v46 := Tryz.zeroValue258
  t51 := Tryz.underlying295
  a51 := Tryz.isAgg295
  z51 := Tryz.sizeOf295
  v51 := Tryz.zeroValue295
  t53 := Tryz.underlying267
  a53 := Tryz.isAgg267
  z53 := Tryz.sizeOf267
  v53 := Tryz.zeroValue267
  t146 := Tryz.underlying296
  a146 := Tryz.isAgg296
  z146 := Tryz.sizeOf296
  v146 := Tryz.zeroValue296
  t148 := Tryz.underlying298
  a148 := Tryz.isAgg298
  z148 := Tryz.sizeOf298
  v148 := Tryz.zeroValue298 }
open Go.RowKit Go.Lib in
/-- math/bits.Mul: "Mul returns the full-width product of x and y": on a machine of 64 bits: Mul64's. (LAID: no walk: one application.) -/
theorem Tryz.bits_Mul (x y : Nat) (hx : x < 18446744073709551616) (hy : y < 18446744073709551616) (w : World) :
    Calls Tryz.prog 187 #[.int .u64 x, .int .u64 y] w fun e w' => e = .returned (.tuple #[.int .u64 ((x * y / 18446744073709551616 : Nat) : Int), .int .u64 ((x * y % 18446744073709551616 : Nat) : Int)]) ∧ w' = w := Any.bits_Mul Tryz.lays212 x y hx hy w
end Go.Proofs
