/- Contracts of the library that the walks lean on, laid at this program. -/
import Derived.Shelf.Strings.Builder1
import Derived.Shelf.Strings.Builder2
import Derived.Shelf.Strings.OnBuilder
import Derived.Shelf.Small.Bits
import Derived.Shelf.Small.Strs
import Derived.Shelf.Small.Wraps
import Derived.Shelf.Strings.BuilderF
import Derived.Shelf.Strings.BuilderK
import Derived.Shelf.Utf8.RuneCount
import Derived.Shelf.Strings.Builder2Cap
import Derived.Shelf.Strconv.Atoi
import Derived.Shelf.Strconv.Itoa0
import Derived.Shelf.Strconv.Itoa1
import Derived.Shelf.LaysM
import Derived.Shelf.Strconv.Itoa2
import Derived.Shelf.Strconv.Itoa3
import Derived.Shelf.Strconv.AtoiErrFast
import Derived.Shelf.Strconv.ParseIntEmpty
import Derived.Shelf.Strconv.AtoiFail
import Derived.Shelf.Strconv.Clone
import Derived.Shelf.Strconv.SyntaxError
import Derived.Shelf.LaysC
import Derived.Shelf.Strconv.ToError
import Derived.Shelf.Strconv.Lower
import Derived.Shelf.Strconv.ParseUint10
import Derived.Shelf.Strconv.ParseUint10Empty
import Derived.Shelf.Strconv.ParseUint10Any
import Derived.Shelf.Strconv.ParseInt10
import Derived.Shelf.Strconv.AtoiLong
import Derived.Shelf.Strconv.AtoiInnerAll
import Derived.Shelf.Strconv.RangeError
import Derived.Shelf.Strconv.ToErrorRange
import Derived.Shelf.Strconv.AtoiAll
import Derived.Shelf.Strconv.ErrVarAll
import Derived.Shelf.Strconv.ParseUintEmpty
import Derived.Shelf.Strconv.ParseUint10b64
import Derived.Shelf.Strconv.ParseUint10b32
import Derived.Shelf.Strconv.ParseUint10b16
import Derived.Shelf.Strconv.ParseUint10b8
import Derived.Shelf.Strconv.ParseUint10At
import Derived.Shelf.Strconv.ParseInt10At64
import Derived.Shelf.Strconv.ParseInt10At32
import Derived.Shelf.Strconv.ParseInt10At16
import Derived.Shelf.Strconv.ParseInt10At8
import Derived.Shelf.Strconv.ParseInt10All
import Derived.Shelf.Strings.Search1
import Derived.Shelf.Strings.Search2
import Derived.Shelf.Strings.Search3
import Derived.Shelf.Strings.Count
import Derived.Shelf.Strings.Shaped
import Derived.Shelf.Strings.Prefix
import Derived.Shelf.Strings.Split
import Derived.Shelf.Strings.Fields
import Derived.Shelf.Strings.SplitShaped
import Derived.Shelf.Unicode.Latin
import Derived.Shelf.Unicode.Decode
import Derived.Shelf.Strings.RuneCount
import Derived.Shelf.Strings.Explode
import Derived.Shelf.Unicode.DecodeSlow
import Derived.Shelf.Unicode.DecodeAny
import Derived.Shelf.Unicode.Is16White
import Derived.Shelf.Unicode.IsSpaceAny
import Derived.Shelf.Strings.FieldsFuncAny
import Derived.Shelf.Unicode.Is16Any
import Derived.Shelf.Unicode.Is32Any
import Derived.Shelf.Unicode.ExclAny
import Derived.Shelf.Strings.BuilderCap
import Derived.Test.YtfffpflflggonaaGreatDoorProg
import Derived.Shelf.Unicode.ValidAny
namespace Go.Proofs
open Go.Shelf
def Tryz.lays169_ren : Go.Shelf.Ren := ⟨fun | 169 => 201 | n => n, fun | 70 => 239 | 9 => 9 | 0 => 0 | 72 => 241 | 37 => 22 | 127 => 301 | 3 => 3 | 5 => 5 | n => n, fun | n => n⟩
theorem Tryz.lays169 : Go.Proofs.Lays.n169 Tryz.prog Tryz.lays169_ren := {
  mixed := by kernel_rfl
  f169 := Tryz.func201.trans (congrArg some (by kernel_rfl))
  t0 := Tryz.underlying0
  a0 := Tryz.isAgg0
  z0 := Tryz.sizeOf0
  v0 := Tryz.zeroValue0
  t3 := Tryz.underlying3
  a3 := Tryz.isAgg3
  z3 := Tryz.sizeOf3
  v3 := Tryz.zeroValue3
  t9 := Tryz.underlying9
  a9 := Tryz.isAgg9
  z9 := Tryz.sizeOf9
  v9 := Tryz.zeroValue9
  t37 := Tryz.underlying22
  a37 := Tryz.isAgg22
  z37 := Tryz.sizeOf22
  v37 := Tryz.zeroValue22
  t70 := Tryz.underlying239
  a70 := Tryz.isAgg239
  z70 := Tryz.sizeOf239
  v70 := Tryz.zeroValue239
  t72 := Tryz.underlying241
  a72 := Tryz.isAgg241
  z72 := Tryz.sizeOf241
  v72 := Tryz.zeroValue241
  t127 := Tryz.underlying301
  a127 := Tryz.isAgg301
  z127 := Tryz.sizeOf301
  v127 := Tryz.zeroValue301 }
theorem Tryz.Builder_Extra_169 : Builder.Extra Tryz.prog Tryz.lays169_ren := {
  sizeBuilder := by kernel_rfl
  liesBuilder := by kernel_rfl
  t5 := Tryz.underlying5
  a5 := Tryz.isAgg5
  z5 := Tryz.sizeOf5
  v5 := Tryz.zeroValue5
  infoByte := by kernel_rfl
  cellsByte := by kernel_rfl
  sizeByte := by kernel_rfl
  neB5 := by decide }
open Go.RowKit in
theorem Tryz.Builder_String_any (B b : Nat) (l : List UInt8) (w : World) (h : Lib.IsBuilder 241 5 B b (Lib.byteCells l) w) (hBw : B ≤ w.heap.size) :
    Calls Tryz.prog 201 #[.pointer (some ⟨b, 0, none⟩)] w fun e w' => e = .returned (.string ⟨l.toArray⟩) ∧ Below B w w' := Any.Builder_String_any Tryz.lays169 Tryz.Builder_Extra_169 B b l w h hBw
def Tryz.lays165_ren : Go.Shelf.Ren := ⟨fun | 165 => 199 | 240 => 275 | 241 => 276 | 276 => 303 | 277 => 304 | n => n, fun | 70 => 239 | 3 => 3 | 0 => 0 | 4 => 4 | 9 => 9 | 20 => 20 | 72 => 241 | 37 => 22 | 164 => 322 | 5 => 5 | n => n, fun | n => n⟩
theorem Tryz.lays165 : Go.Proofs.Lays.n165 Tryz.prog Tryz.lays165_ren := {
  mixed := by kernel_rfl
  f165 := Tryz.func199.trans (congrArg some (by kernel_rfl))
  f240 := Tryz.func275.trans (congrArg some (by kernel_rfl))
  f241 := Tryz.func276.trans (congrArg some (by kernel_rfl))
  f276 := Tryz.func303.trans (congrArg some (by kernel_rfl))
  f277 := Tryz.func304.trans (congrArg some (by kernel_rfl))
  t0 := Tryz.underlying0
  a0 := Tryz.isAgg0
  z0 := Tryz.sizeOf0
  v0 := Tryz.zeroValue0
  t3 := Tryz.underlying3
  a3 := Tryz.isAgg3
  z3 := Tryz.sizeOf3
  v3 := Tryz.zeroValue3
  t4 := Tryz.underlying4
  a4 := Tryz.isAgg4
  z4 := Tryz.sizeOf4
  v4 := Tryz.zeroValue4
  t9 := Tryz.underlying9
  a9 := Tryz.isAgg9
  z9 := Tryz.sizeOf9
  v9 := Tryz.zeroValue9
  t20 := Tryz.underlying20
  a20 := Tryz.isAgg20
  z20 := Tryz.sizeOf20
  v20 := Tryz.zeroValue20
  t37 := Tryz.underlying22
  a37 := Tryz.isAgg22
  z37 := Tryz.sizeOf22
  v37 := Tryz.zeroValue22
  t70 := Tryz.underlying239
  a70 := Tryz.isAgg239
  z70 := Tryz.sizeOf239
  v70 := Tryz.zeroValue239
  t72 := Tryz.underlying241
  a72 := Tryz.isAgg241
  z72 := Tryz.sizeOf241
  v72 := Tryz.zeroValue241
  t164 := Tryz.underlying322
  a164 := Tryz.isAgg322
  z164 := Tryz.sizeOf322
  v164 := Tryz.zeroValue322 }
theorem Tryz.Builder_Extra_165 : Builder.Extra Tryz.prog Tryz.lays165_ren := {
  sizeBuilder := by kernel_rfl
  liesBuilder := by kernel_rfl
  t5 := Tryz.underlying5
  a5 := Tryz.isAgg5
  z5 := Tryz.sizeOf5
  v5 := Tryz.zeroValue5
  infoByte := by kernel_rfl
  cellsByte := by kernel_rfl
  sizeByte := by kernel_rfl
  neB5 := by decide }
open Go.RowKit in
theorem Tryz.Builder_Grow_fresh (B b n : Nat) (w : World) (hB : B ≤ b) (hbk : w.heap[b]? = some (.cells #[.pointer none, .slice none 0 0] 241 (0, 0))) (hBw : B ≤ w.heap.size) (hn : n ≤ 281474976710656) :
    Calls Tryz.prog 199 #[.pointer (some ⟨b, 0, none⟩), .int .i64 n] w fun e w' => e = .returned (.tuple #[]) ∧ (Lib.BuilderAt 241 5 B b (.pointer (some ⟨b, 0, none⟩)) [] w' ∧ Below B w w') := Any.Builder_Grow_fresh Tryz.lays165 Tryz.Builder_Extra_165 B b n w hB hbk hBw hn
def Tryz.lays106_ren : Go.Shelf.Ren := ⟨fun | 106 => 76 | 213 => 154 | 265 => 222 | n => n, fun | 9 => 9 | 3 => 3 | n => n, fun | n => n⟩
theorem Tryz.lays106 : Go.Proofs.Lays.n106 Tryz.prog Tryz.lays106_ren := {
  mixed := by kernel_rfl
  f106 := Tryz.func76.trans (congrArg some (by kernel_rfl))
  f213 := Tryz.func154.trans (congrArg some (by kernel_rfl))
  f265 := Tryz.func222.trans (congrArg some (by kernel_rfl))
  t3 := Tryz.underlying3
  a3 := Tryz.isAgg3
  z3 := Tryz.sizeOf3
  v3 := Tryz.zeroValue3
  t9 := Tryz.underlying9
  a9 := Tryz.isAgg9
  z9 := Tryz.sizeOf9
  v9 := Tryz.zeroValue9 }
open Go.RowKit in
theorem Tryz.strings_Compare (a b : ByteArray) (w : World) :
    Calls Tryz.prog 76 #[.string a, .string b] w fun e w' => e = .returned (.int .i64 (Lib.compareBytes a.data.toList b.data.toList)) ∧ w' = w := Any.strings_Compare Tryz.lays106 a b w
def Tryz.lays137_ren : Go.Shelf.Ren := ⟨fun | 137 => 186 | 217 => 263 | 266 => 300 | n => n, fun | 9 => 9 | 5 => 5 | 3 => 3 | n => n, fun | n => n⟩
theorem Tryz.lays137 : Go.Proofs.Lays.n137 Tryz.prog Tryz.lays137_ren := {
  mixed := by kernel_rfl
  f137 := Tryz.func186.trans (congrArg some (by kernel_rfl))
  f217 := Tryz.func263.trans (congrArg some (by kernel_rfl))
  f266 := Tryz.func300.trans (congrArg some (by kernel_rfl))
  t3 := Tryz.underlying3
  a3 := Tryz.isAgg3
  z3 := Tryz.sizeOf3
  v3 := Tryz.zeroValue3
  t5 := Tryz.underlying5
  a5 := Tryz.isAgg5
  z5 := Tryz.sizeOf5
  v5 := Tryz.zeroValue5
  t9 := Tryz.underlying9
  a9 := Tryz.isAgg9
  z9 := Tryz.sizeOf9
  v9 := Tryz.zeroValue9 }
open Go.RowKit in
theorem Tryz.strings_IndexByte (s : ByteArray) (c : Int) (w : World) :
    Calls Tryz.prog 186 #[.string s, .int .u8 c] w fun e w' => e = .returned (.int .i64 (Lib.indexByte s.data.toList c.toNat.toUInt8)) ∧ w' = w := Any.strings_IndexByte Tryz.lays137 s c w
def Tryz.lays103_ren : Go.Shelf.Ren := ⟨fun | 103 => 260 | 210 => 297 | 206 => 314 | n => n, fun | 9 => 9 | 4 => 4 | 24 => 298 | 3 => 3 | n => n, fun | n => n⟩
theorem Tryz.lays103 : Go.Proofs.Lays.n103 Tryz.prog Tryz.lays103_ren := {
  mixed := by kernel_rfl
  f103 := Tryz.func260.trans (congrArg some (by kernel_rfl))
  f206 := Tryz.func314.trans (congrArg some (by kernel_rfl))
  f210 := Tryz.func297.trans (congrArg some (by kernel_rfl))
  t3 := Tryz.underlying3
  a3 := Tryz.isAgg3
  z3 := Tryz.sizeOf3
  v3 := Tryz.zeroValue3
  t4 := Tryz.underlying4
  a4 := Tryz.isAgg4
  z4 := Tryz.sizeOf4
  v4 := Tryz.zeroValue4
  t9 := Tryz.underlying9
  a9 := Tryz.isAgg9
  z9 := Tryz.sizeOf9
  v9 := Tryz.zeroValue9
  t24 := Tryz.underlying298
  a24 := Tryz.isAgg298
  z24 := Tryz.sizeOf298
  v24 := Tryz.zeroValue298 }
open Go.RowKit in
theorem Tryz.strings_CutPrefix (s p : ByteArray) (w : World) :
    Calls Tryz.prog 260 #[.string s, .string p] w fun e w' => e = .returned (.tuple #[.string ⟨(Lib.trimPrefix s.data.toList p.data.toList).toArray⟩, .bool (Lib.hasPrefix s.data.toList p.data.toList)]) ∧ w' = w := Any.strings_CutPrefix Tryz.lays103 s p w
open Go.RowKit in
theorem Tryz.Builder_String_any_f (B b : Nat) (l : List UInt8) (w : World) (h : Lib.IsBuilderF 241 5 B b (Lib.byteCells l) w) (hBw : B ≤ w.heap.size) :
    Calls Tryz.prog 201 #[.pointer (some ⟨b, 0, none⟩)] w fun e w' => e = .returned (.string ⟨l.toArray⟩) ∧ (Lib.IsBuilderF 241 5 B b (Lib.byteCells l) w' ∧ Below B w w') := Any.Builder_String_any_f Tryz.lays169 Tryz.Builder_Extra_169 B b l w h hBw
def Tryz.laysM171_ren : Go.Shelf.Ren := ⟨fun | 171 => 277 | 243 => 305 | 246 => 320 | 283 => 327 | 284 => 328 | 285 => 329 | 286 => 330 | 129 => 221 | 317 => 337 | 318 => 338 | 319 => 339 | 320 => 340 | 337 => 345 | 338 => 346 | n => n, fun | 3 => 3 | 9 => 9 | 2 => 2 | 4 => 4 | 171 => 361 | 0 => 0 | 53 => 266 | 37 => 22 | 5 => 5 | 173 => 363 | 212 => 372 | 51 => 264 | 20 => 20 | 213 => 373 | 46 => 208 | 232 => 376 | 233 => 377 | n => n, fun | 17 => 11 | 18 => 12 | 19 => 13 | n => n⟩
theorem Tryz.laysM171 : Go.Proofs.LaysM.n171 Tryz.prog Tryz.laysM171_ren := {
  mixed := by kernel_rfl
  f129 := Tryz.func221.trans (congrArg some (by kernel_rfl))
  f171 := Tryz.func277.trans (congrArg some (by kernel_rfl))
  f243 := Tryz.func305.trans (congrArg some (by kernel_rfl))
  f246 := Tryz.func320.trans (congrArg some (by kernel_rfl))
  f283 := Tryz.func327.trans (congrArg some (by kernel_rfl))
  f284 := Tryz.func328.trans (congrArg some (by kernel_rfl))
  f285 := Tryz.func329.trans (congrArg some (by kernel_rfl))
  f286 := Tryz.func330.trans (congrArg some (by kernel_rfl))
  f317 := Tryz.func337.trans (congrArg some (by kernel_rfl))
  f318 := Tryz.func338.trans (congrArg some (by kernel_rfl))
  f319 := Tryz.func339.trans (congrArg some (by kernel_rfl))
  f320 := Tryz.func340.trans (congrArg some (by kernel_rfl))
  f337 := Tryz.func345.trans (congrArg some (by kernel_rfl))
  f338 := Tryz.func346.trans (congrArg some (by kernel_rfl))
  t0 := Tryz.underlying0
  a0 := Tryz.isAgg0
  z0 := Tryz.sizeOf0
  v0 := Tryz.zeroValue0
  t2 := Tryz.underlying2
  a2 := Tryz.isAgg2
  z2 := Tryz.sizeOf2
  v2 := Tryz.zeroValue2
  t3 := Tryz.underlying3
  a3 := Tryz.isAgg3
  z3 := Tryz.sizeOf3
  v3 := Tryz.zeroValue3
  t4 := Tryz.underlying4
  a4 := Tryz.isAgg4
  z4 := Tryz.sizeOf4
  v4 := Tryz.zeroValue4
  t5 := Tryz.underlying5
  a5 := Tryz.isAgg5
  z5 := Tryz.sizeOf5
  v5 := Tryz.zeroValue5
  t9 := Tryz.underlying9
  a9 := Tryz.isAgg9
  z9 := Tryz.sizeOf9
  v9 := Tryz.zeroValue9
  t20 := Tryz.underlying20
  a20 := Tryz.isAgg20
  z20 := Tryz.sizeOf20
  v20 := Tryz.zeroValue20
  t37 := Tryz.underlying22
  a37 := Tryz.isAgg22
  z37 := Tryz.sizeOf22
  v37 := Tryz.zeroValue22
  t46 := Tryz.underlying208
  a46 := Tryz.isAgg208
  z46 := Tryz.sizeOf208
  v46 := Tryz.zeroValue208
  t51 := Tryz.underlying264
  a51 := Tryz.isAgg264
  z51 := Tryz.sizeOf264
  v51 := Tryz.zeroValue264
  t53 := Tryz.underlying266
  a53 := Tryz.isAgg266
  z53 := Tryz.sizeOf266
  v53 := Tryz.zeroValue266
  t171 := Tryz.underlying361
  a171 := Tryz.isAgg361
  z171 := Tryz.sizeOf361
  v171 := Tryz.zeroValue361
  t173 := Tryz.underlying363
  a173 := Tryz.isAgg363
  z173 := Tryz.sizeOf363
  v173 := Tryz.zeroValue363
  t212 := Tryz.underlying372
  a212 := Tryz.isAgg372
  z212 := Tryz.sizeOf372
  v212 := Tryz.zeroValue372
  t213 := Tryz.underlying373
  a213 := Tryz.isAgg373
  z213 := Tryz.sizeOf373
  t232 := Tryz.underlying376
  a232 := Tryz.isAgg376
  z232 := Tryz.sizeOf376
  v232 := Tryz.zeroValue376
  t233 := Tryz.underlying377
  a233 := Tryz.isAgg377
  z233 := Tryz.sizeOf377
  v233 := Tryz.zeroValue377
  g17 := by kernel_rfl
  g18 := by kernel_rfl
  g19 := by kernel_rfl
  i0 := by kernel_rfl
  i2 := by kernel_rfl
  i3 := by kernel_rfl
  i4 := by kernel_rfl
  i5 := by kernel_rfl
  i9 := by kernel_rfl
  i20 := by kernel_rfl
  i37 := by kernel_rfl
  i46 := by kernel_rfl
  i51 := by kernel_rfl
  i53 := by kernel_rfl
  i171 := by kernel_rfl
  i173 := by kernel_rfl
  i212 := by kernel_rfl
  i232 := by kernel_rfl
  i233 := by kernel_rfl
  m17 := by kernel_rfl
  m18 := by kernel_rfl
  m19 := by kernel_rfl }
open Go.RowKit Go.Sort Go.Lib in
theorem Tryz.strconv_Itoa (n : Int) (h0 : -9223372036854775808 ≤ n) (h1 : n ≤ 9223372036854775807) (w : World) (htab : Lib.TabIs Tryz.prog w "internal/strconv.uint64pow10" .u64 Lib.pow10Tab) :
    Calls Tryz.prog 277 #[.int .i64 n] w fun e w' => e = .returned (.string ⟨(Lib.itoa n).toArray⟩) ∧ ∃ k os, w' = grow (w.drewN k) os := Any.strconv_Itoa Tryz.laysM171 n h0 h1 w htab
def Tryz.laysC172_ren : Go.Shelf.Ren := ⟨fun | 172 => 261 | 244 => 298 | 245 => 299 | 247 => 315 | 279 => 316 | 280 => 317 | 281 => 318 | 282 => 319 | 287 => 324 | 316 => 325 | 171 => 277 | 205 => 326 | 321 => 335 | 322 => 336 | 243 => 305 | 246 => 320 | 283 => 327 | 284 => 328 | 285 => 329 | 286 => 330 | 129 => 221 | 317 => 337 | 318 => 338 | 319 => 339 | 320 => 340 | 337 => 345 | 338 => 346 | n => n, fun | 9 => 9 | 3 => 3 | 75 => 244 | 76 => 245 | 4 => 4 | 5 => 5 | 167 => 345 | 37 => 22 | 0 => 0 | 85 => 346 | 2 => 2 | 168 => 348 | 53 => 266 | 175 => 355 | 46 => 208 | 210 => 359 | 127 => 301 | 145 => 370 | 143 => 368 | 21 => 21 | 171 => 361 | 173 => 363 | 212 => 372 | 51 => 264 | 20 => 20 | 213 => 373 | 232 => 376 | 233 => 377 | 80 => 74 | n => n, fun | 15 => 9 | 16 => 10 | 17 => 11 | 18 => 12 | 19 => 13 | n => n⟩
theorem Tryz.laysC172 : Go.Proofs.LaysC.n172 Tryz.prog Tryz.laysC172_ren := {
  mixed := by kernel_rfl
  f129 := Tryz.func221.trans (congrArg some (by kernel_rfl))
  f171 := Tryz.func277.trans (congrArg some (by kernel_rfl))
  f172 := Tryz.func261.trans (congrArg some (by kernel_rfl))
  f205 := Tryz.func326.trans (congrArg some (by kernel_rfl))
  f243 := Tryz.func305.trans (congrArg some (by kernel_rfl))
  f244 := Tryz.func298.trans (congrArg some (by kernel_rfl))
  f245 := Tryz.func299.trans (congrArg some (by kernel_rfl))
  f246 := Tryz.func320.trans (congrArg some (by kernel_rfl))
  f247 := Tryz.func315.trans (congrArg some (by kernel_rfl))
  f279 := Tryz.func316.trans (congrArg some (by kernel_rfl))
  f280 := Tryz.func317.trans (congrArg some (by kernel_rfl))
  f281 := Tryz.func318.trans (congrArg some (by kernel_rfl))
  f282 := Tryz.func319.trans (congrArg some (by kernel_rfl))
  f283 := Tryz.func327.trans (congrArg some (by kernel_rfl))
  f284 := Tryz.func328.trans (congrArg some (by kernel_rfl))
  f285 := Tryz.func329.trans (congrArg some (by kernel_rfl))
  f286 := Tryz.func330.trans (congrArg some (by kernel_rfl))
  f287 := Tryz.func324.trans (congrArg some (by kernel_rfl))
  f316 := Tryz.func325.trans (congrArg some (by kernel_rfl))
  f317 := Tryz.func337.trans (congrArg some (by kernel_rfl))
  f318 := Tryz.func338.trans (congrArg some (by kernel_rfl))
  f319 := Tryz.func339.trans (congrArg some (by kernel_rfl))
  f320 := Tryz.func340.trans (congrArg some (by kernel_rfl))
  f321 := Tryz.func335.trans (congrArg some (by kernel_rfl))
  f322 := Tryz.func336.trans (congrArg some (by kernel_rfl))
  f337 := Tryz.func345.trans (congrArg some (by kernel_rfl))
  f338 := Tryz.func346.trans (congrArg some (by kernel_rfl))
  t0 := Tryz.underlying0
  a0 := Tryz.isAgg0
  z0 := Tryz.sizeOf0
  v0 := Tryz.zeroValue0
  t2 := Tryz.underlying2
  a2 := Tryz.isAgg2
  z2 := Tryz.sizeOf2
  v2 := Tryz.zeroValue2
  t3 := Tryz.underlying3
  a3 := Tryz.isAgg3
  z3 := Tryz.sizeOf3
  v3 := Tryz.zeroValue3
  t4 := Tryz.underlying4
  a4 := Tryz.isAgg4
  z4 := Tryz.sizeOf4
  v4 := Tryz.zeroValue4
  t5 := Tryz.underlying5
  a5 := Tryz.isAgg5
  z5 := Tryz.sizeOf5
  v5 := Tryz.zeroValue5
  t9 := Tryz.underlying9
  a9 := Tryz.isAgg9
  z9 := Tryz.sizeOf9
  v9 := Tryz.zeroValue9
  t20 := Tryz.underlying20
  a20 := Tryz.isAgg20
  z20 := Tryz.sizeOf20
  v20 := Tryz.zeroValue20
  t21 := Tryz.underlying21
  a21 := Tryz.isAgg21
  z21 := Tryz.sizeOf21
  v21 := Tryz.zeroValue21
  t37 := Tryz.underlying22
  a37 := Tryz.isAgg22
  z37 := Tryz.sizeOf22
  v37 := Tryz.zeroValue22
  t46 := Tryz.underlying208
  a46 := Tryz.isAgg208
  z46 := Tryz.sizeOf208
  v46 := Tryz.zeroValue208
  t51 := Tryz.underlying264
  a51 := Tryz.isAgg264
  z51 := Tryz.sizeOf264
  v51 := Tryz.zeroValue264
  t53 := Tryz.underlying266
  a53 := Tryz.isAgg266
  z53 := Tryz.sizeOf266
  v53 := Tryz.zeroValue266
  t75 := Tryz.underlying244
  a75 := Tryz.isAgg244
  z75 := Tryz.sizeOf244
  v75 := Tryz.zeroValue244
  t76 := Tryz.underlying245
  a76 := Tryz.isAgg245
  z76 := Tryz.sizeOf245
  v76 := Tryz.zeroValue245
  t85 := Tryz.underlying346
  a85 := Tryz.isAgg346
  z85 := Tryz.sizeOf346
  v85 := Tryz.zeroValue346
  t127 := Tryz.underlying301
  a127 := Tryz.isAgg301
  z127 := Tryz.sizeOf301
  v127 := Tryz.zeroValue301
  t143 := Tryz.underlying368
  a143 := Tryz.isAgg368
  z143 := Tryz.sizeOf368
  v143 := Tryz.zeroValue368
  t145 := Tryz.underlying370
  a145 := Tryz.isAgg370
  z145 := Tryz.sizeOf370
  v145 := Tryz.zeroValue370
  t167 := Tryz.underlying345
  a167 := Tryz.isAgg345
  z167 := Tryz.sizeOf345
  v167 := Tryz.zeroValue345
  t168 := Tryz.underlying348
  a168 := Tryz.isAgg348
  z168 := Tryz.sizeOf348
  v168 := Tryz.zeroValue348
  t171 := Tryz.underlying361
  a171 := Tryz.isAgg361
  z171 := Tryz.sizeOf361
  v171 := Tryz.zeroValue361
  t173 := Tryz.underlying363
  a173 := Tryz.isAgg363
  z173 := Tryz.sizeOf363
  v173 := Tryz.zeroValue363
  t175 := Tryz.underlying355
  a175 := Tryz.isAgg355
  z175 := Tryz.sizeOf355
  v175 := Tryz.zeroValue355
  t210 := Tryz.underlying359
  a210 := Tryz.isAgg359
  z210 := Tryz.sizeOf359
  v210 := Tryz.zeroValue359
  t212 := Tryz.underlying372
  a212 := Tryz.isAgg372
  z212 := Tryz.sizeOf372
  v212 := Tryz.zeroValue372
  t213 := Tryz.underlying373
  a213 := Tryz.isAgg373
  z213 := Tryz.sizeOf373
  t232 := Tryz.underlying376
  a232 := Tryz.isAgg376
  z232 := Tryz.sizeOf376
  v232 := Tryz.zeroValue376
  t233 := Tryz.underlying377
  a233 := Tryz.isAgg377
  z233 := Tryz.sizeOf377
  v233 := Tryz.zeroValue377
  g15 := by kernel_rfl
  g16 := by kernel_rfl
  g17 := by kernel_rfl
  g18 := by kernel_rfl
  g19 := by kernel_rfl
  t80 := Tryz.underlying74
  a80 := Tryz.isAgg74
  z80 := Tryz.sizeOf74
  v80 := Tryz.zeroValue74
  i0 := by kernel_rfl
  i2 := by kernel_rfl
  i3 := by kernel_rfl
  i4 := by kernel_rfl
  i5 := by kernel_rfl
  i9 := by kernel_rfl
  i20 := by kernel_rfl
  i21 := by kernel_rfl
  i37 := by kernel_rfl
  i46 := by kernel_rfl
  i51 := by kernel_rfl
  i53 := by kernel_rfl
  i75 := by kernel_rfl
  i76 := by kernel_rfl
  i80 := by kernel_rfl
  i85 := by kernel_rfl
  i127 := by kernel_rfl
  i143 := by kernel_rfl
  i145 := by kernel_rfl
  i167 := by kernel_rfl
  i168 := by kernel_rfl
  i171 := by kernel_rfl
  i173 := by kernel_rfl
  i175 := by kernel_rfl
  i210 := by kernel_rfl
  i212 := by kernel_rfl
  i232 := by kernel_rfl
  i233 := by kernel_rfl
  m15 := by kernel_rfl
  m16 := by kernel_rfl
  m17 := by kernel_rfl
  m18 := by kernel_rfl
  m19 := by kernel_rfl
  c0 := by kernel_rfl
  c2 := by kernel_rfl
  c3 := by kernel_rfl
  c4 := by kernel_rfl
  c5 := by kernel_rfl
  c9 := by kernel_rfl
  c20 := by kernel_rfl
  c21 := by kernel_rfl
  c37 := by kernel_rfl
  c46 := by kernel_rfl
  c51 := by kernel_rfl
  c53 := by kernel_rfl
  c75 := by kernel_rfl
  c76 := by kernel_rfl
  c80 := by kernel_rfl
  c85 := by kernel_rfl
  c127 := by kernel_rfl
  c143 := by kernel_rfl
  c145 := by kernel_rfl
  c167 := by kernel_rfl
  c168 := by kernel_rfl
  c171 := by kernel_rfl
  c173 := by kernel_rfl
  c175 := by kernel_rfl
  c210 := by kernel_rfl
  c212 := by kernel_rfl
  c213 := by kernel_rfl
  c232 := by kernel_rfl
  c233 := by kernel_rfl }
open Go.RowKit in
theorem Tryz.strconv_Atoi_ok (s : ByteArray) (hmax : s.size ≤ 9223372036854775806) (v : Int) (h : Lib.atoiAll s.data.toList = .ok v) (w : World) :
    Calls Tryz.prog 261 #[.string s] w fun e w' => e = .returned (.tuple #[.int .i64 v, .nilIface]) ∧ (w' = w ∨ ∃ t, w' = Lib.bytesWorld w 5 t) := Any.strconv_Atoi_ok Tryz.laysC172 s hmax v h w
open Go.RowKit in
theorem Tryz.strconv_Atoi_range_var (s : ByteArray) (hlim : s.size ≤ 281474976710656) (h : Lib.atoiAll s.data.toList = .range) (tp : TypeId) (p : Value) (w : World) (hvar : w.var? Tryz.prog "strconv.ErrRange" = some #[.iface tp p]) :
    Calls Tryz.prog 261 #[.string s] w fun e w' => ∃ N, e = .returned (.tuple #[.int .i64 (Lib.atoiSat s.data.toList), .iface 348 (.pointer (some ⟨N, 0, none⟩))]) ∧ w.heap.size ≤ N ∧ w'.heap[N]? = some (.cells #[.string ⟨#[65, 116, 111, 105]⟩, .string s, .iface tp p] 359 (0, 0)) ∧ Below w.heap.size w w' := Any.strconv_Atoi_range_var Tryz.laysC172 s hlim h tp p w hvar
def Tryz.lays146_ren : Go.Shelf.Ren := ⟨fun | 146 => 296 | 221 => 313 | 268 => 321 | 138 => 322 | 143 => 323 | 195 => 331 | 197 => 332 | 218 => 333 | 219 => 334 | 260 => 341 | 217 => 263 | 225 => 342 | 224 => 343 | 267 => 344 | 266 => 300 | 314 => 347 | n => n, fun | 9 => 9 | 31 => 38 | 3 => 3 | 4 => 4 | 0 => 0 | 105 => 365 | 21 => 21 | 5 => 5 | 46 => 208 | 119 => 288 | 139 => 291 | 138 => 290 | 146 => 374 | 51 => 264 | n => n, fun | 1 => 4 | 3 => 5 | 4 => 6 | n => n⟩
theorem Tryz.lays146 : Go.Proofs.Lays.n146 Tryz.prog Tryz.lays146_ren := {
  mixed := by kernel_rfl
  f138 := Tryz.func322.trans (congrArg some (by kernel_rfl))
  f143 := Tryz.func323.trans (congrArg some (by kernel_rfl))
  f146 := Tryz.func296.trans (congrArg some (by kernel_rfl))
  f195 := Tryz.func331.trans (congrArg some (by kernel_rfl))
  f197 := Tryz.func332.trans (congrArg some (by kernel_rfl))
  f217 := Tryz.func263.trans (congrArg some (by kernel_rfl))
  f218 := Tryz.func333.trans (congrArg some (by kernel_rfl))
  f219 := Tryz.func334.trans (congrArg some (by kernel_rfl))
  f221 := Tryz.func313.trans (congrArg some (by kernel_rfl))
  f224 := Tryz.func343.trans (congrArg some (by kernel_rfl))
  f225 := Tryz.func342.trans (congrArg some (by kernel_rfl))
  f260 := Tryz.func341.trans (congrArg some (by kernel_rfl))
  f266 := Tryz.func300.trans (congrArg some (by kernel_rfl))
  f267 := Tryz.func344.trans (congrArg some (by kernel_rfl))
  f268 := Tryz.func321.trans (congrArg some (by kernel_rfl))
  f314 := Tryz.func347.trans (congrArg some (by kernel_rfl))
  t0 := Tryz.underlying0
  a0 := Tryz.isAgg0
  z0 := Tryz.sizeOf0
  v0 := Tryz.zeroValue0
  t3 := Tryz.underlying3
  a3 := Tryz.isAgg3
  z3 := Tryz.sizeOf3
  v3 := Tryz.zeroValue3
  t4 := Tryz.underlying4
  a4 := Tryz.isAgg4
  z4 := Tryz.sizeOf4
  v4 := Tryz.zeroValue4
  t5 := Tryz.underlying5
  a5 := Tryz.isAgg5
  z5 := Tryz.sizeOf5
  v5 := Tryz.zeroValue5
  t9 := Tryz.underlying9
  a9 := Tryz.isAgg9
  z9 := Tryz.sizeOf9
  v9 := Tryz.zeroValue9
  t21 := Tryz.underlying21
  a21 := Tryz.isAgg21
  z21 := Tryz.sizeOf21
  v21 := Tryz.zeroValue21
  t31 := Tryz.underlying38
  a31 := Tryz.isAgg38
  z31 := Tryz.sizeOf38
  v31 := Tryz.zeroValue38
  t46 := Tryz.underlying208
  a46 := Tryz.isAgg208
  z46 := Tryz.sizeOf208
  v46 := Tryz.zeroValue208
  t51 := Tryz.underlying264
  a51 := Tryz.isAgg264
  z51 := Tryz.sizeOf264
  v51 := Tryz.zeroValue264
  t105 := Tryz.underlying365
  a105 := Tryz.isAgg365
  z105 := Tryz.sizeOf365
  v105 := Tryz.zeroValue365
  t119 := Tryz.underlying288
  a119 := Tryz.isAgg288
  z119 := Tryz.sizeOf288
  t138 := Tryz.underlying290
  a138 := Tryz.isAgg290
  z138 := Tryz.sizeOf290
  v138 := Tryz.zeroValue290
  t139 := Tryz.underlying291
  a139 := Tryz.isAgg291
  z139 := Tryz.sizeOf291
  v139 := Tryz.zeroValue291
  t146 := Tryz.underlying374
  a146 := Tryz.isAgg374
  z146 := Tryz.sizeOf374
  v146 := Tryz.zeroValue374
  g1 := by kernel_rfl
  g3 := by kernel_rfl
  g4 := by kernel_rfl }
open Go.RowKit Go.Lib in
theorem Tryz.strings_Split (s sep : ByteArray) (m : Int) (w : World) (hs : s.size < 4294967281) (hm : w.cell? ⟨4, 0, none⟩ = some (.int .i64 m)) (h1 : 1 ≤ sep.size) :
    Calls Tryz.prog 296 #[.string s, .string sep] w fun e w' =>
      e = .returned (.slice (some ⟨w.heap.size, 0, none⟩) (Lib.countB s sep + 1) (Lib.countB s sep + 1)) ∧ w' = w.alloc (.cells ((Lib.splitB sep 0 (Lib.countB s sep) s).map Value.string).toArray 9) := Any.strings_Split Tryz.lays146 (by kernel_rfl) s sep m w hs hm h1
def Tryz.lays157_ren : Go.Shelf.Ren := ⟨fun | 157 => 161 | 229 => 256 | 199 => 257 | 261 => 295 | 311 => 311 | 312 => 312 | n => n, fun | 9 => 9 | 31 => 38 | 3 => 3 | 5 => 5 | 4 => 4 | 119 => 288 | 0 => 0 | 40 => 293 | 152 => 315 | 21 => 21 | 154 => 317 | 51 => 264 | 141 => 319 | 196 => 335 | 193 => 332 | 198 => 338 | 49 => 336 | 194 => 333 | 201 => 341 | 226 => 352 | 46 => 208 | 227 => 353 | n => n, fun | 0 => 7 | 6 => 8 | n => n⟩
theorem Tryz.lays157 : Go.Proofs.Lays.n157 Tryz.prog Tryz.lays157_ren := {
  mixed := by kernel_rfl
  f157 := Tryz.func161.trans (congrArg some (by kernel_rfl))
  f199 := Tryz.func257.trans (congrArg some (by kernel_rfl))
  f229 := Tryz.func256.trans (congrArg some (by kernel_rfl))
  f261 := Tryz.func295.trans (congrArg some (by kernel_rfl))
  f311 := Tryz.func311.trans (congrArg some (by kernel_rfl))
  f312 := Tryz.func312.trans (congrArg some (by kernel_rfl))
  t0 := Tryz.underlying0
  a0 := Tryz.isAgg0
  z0 := Tryz.sizeOf0
  v0 := Tryz.zeroValue0
  t3 := Tryz.underlying3
  a3 := Tryz.isAgg3
  z3 := Tryz.sizeOf3
  v3 := Tryz.zeroValue3
  t4 := Tryz.underlying4
  a4 := Tryz.isAgg4
  z4 := Tryz.sizeOf4
  v4 := Tryz.zeroValue4
  t5 := Tryz.underlying5
  a5 := Tryz.isAgg5
  z5 := Tryz.sizeOf5
  v5 := Tryz.zeroValue5
  t9 := Tryz.underlying9
  a9 := Tryz.isAgg9
  z9 := Tryz.sizeOf9
  v9 := Tryz.zeroValue9
  t21 := Tryz.underlying21
  a21 := Tryz.isAgg21
  z21 := Tryz.sizeOf21
  v21 := Tryz.zeroValue21
  t31 := Tryz.underlying38
  a31 := Tryz.isAgg38
  z31 := Tryz.sizeOf38
  v31 := Tryz.zeroValue38
  t40 := Tryz.underlying293
  a40 := Tryz.isAgg293
  z40 := Tryz.sizeOf293
  v40 := Tryz.zeroValue293
  t46 := Tryz.underlying208
  a46 := Tryz.isAgg208
  z46 := Tryz.sizeOf208
  v46 := Tryz.zeroValue208
  t49 := Tryz.underlying336
  a49 := Tryz.isAgg336
  z49 := Tryz.sizeOf336
  v49 := Tryz.zeroValue336
  t51 := Tryz.underlying264
  a51 := Tryz.isAgg264
  z51 := Tryz.sizeOf264
  v51 := Tryz.zeroValue264
  t119 := Tryz.underlying288
  a119 := Tryz.isAgg288
  z119 := Tryz.sizeOf288
  t141 := Tryz.underlying319
  a141 := Tryz.isAgg319
  z141 := Tryz.sizeOf319
  v141 := Tryz.zeroValue319
  t152 := Tryz.underlying315
  a152 := Tryz.isAgg315
  z152 := Tryz.sizeOf315
  v152 := Tryz.zeroValue315
  t154 := Tryz.underlying317
  a154 := Tryz.isAgg317
  z154 := Tryz.sizeOf317
  v154 := Tryz.zeroValue317
  t193 := Tryz.underlying332
  a193 := Tryz.isAgg332
  z193 := Tryz.sizeOf332
  v193 := Tryz.zeroValue332
  t194 := Tryz.underlying333
  a194 := Tryz.isAgg333
  z194 := Tryz.sizeOf333
  v194 := Tryz.zeroValue333
  t196 := Tryz.underlying335
  a196 := Tryz.isAgg335
  z196 := Tryz.sizeOf335
  v196 := Tryz.zeroValue335
  t198 := Tryz.underlying338
  a198 := Tryz.isAgg338
  z198 := Tryz.sizeOf338
  v198 := Tryz.zeroValue338
  t201 := Tryz.underlying341
  a201 := Tryz.isAgg341
  z201 := Tryz.sizeOf341
  v201 := Tryz.zeroValue341
  t226 := Tryz.underlying352
  a226 := Tryz.isAgg352
  z226 := Tryz.sizeOf352
  v226 := Tryz.zeroValue352
  t227 := Tryz.underlying353
  a227 := Tryz.isAgg353
  z227 := Tryz.sizeOf353
  v227 := Tryz.zeroValue353
  g0 := by kernel_rfl
  g6 := by kernel_rfl }
open Go.RowKit Go.Lib in
theorem Tryz.strings_Fields (s : ByteArray) (w : World) (hs : s.size < 4294967281) (hascii : ∀ (j : Nat) b, s.data.toList[j]? = some b → b.toNat < 128) (htab : Lib.TabIs Tryz.prog w "strings.asciiSpace" .u8 Lib.asciiSpaceTab) :
    Calls Tryz.prog 161 #[.string s] w fun e w' =>
      e = .returned (.slice (some ⟨w.heap.size, 0, none⟩) (Lib.fields s.data.toList).length (Lib.fields s.data.toList).length) ∧ w' = w.alloc (.cells ((Lib.fields s.data.toList).map fun l => Value.string ⟨l.toArray⟩).toArray 9) := Any.strings_Fields Tryz.lays157 (by kernel_rfl) (by kernel_rfl) s w hs hascii htab
def Tryz.laysM146_ren : Go.Shelf.Ren := ⟨fun | 146 => 296 | 221 => 313 | 268 => 321 | 138 => 322 | 143 => 323 | 195 => 331 | 197 => 332 | 218 => 333 | 219 => 334 | 260 => 341 | 217 => 263 | 225 => 342 | 224 => 343 | 267 => 344 | 266 => 300 | 314 => 347 | n => n, fun | 9 => 9 | 31 => 38 | 3 => 3 | 4 => 4 | 0 => 0 | 105 => 365 | 21 => 21 | 5 => 5 | 46 => 208 | 119 => 288 | 139 => 291 | 138 => 290 | 146 => 374 | 51 => 264 | n => n, fun | 1 => 4 | 3 => 5 | 4 => 6 | n => n⟩
theorem Tryz.laysM146 : Go.Proofs.LaysM.n146 Tryz.prog Tryz.laysM146_ren := {
  mixed := by kernel_rfl
  f138 := Tryz.func322.trans (congrArg some (by kernel_rfl))
  f143 := Tryz.func323.trans (congrArg some (by kernel_rfl))
  f146 := Tryz.func296.trans (congrArg some (by kernel_rfl))
  f195 := Tryz.func331.trans (congrArg some (by kernel_rfl))
  f197 := Tryz.func332.trans (congrArg some (by kernel_rfl))
  f217 := Tryz.func263.trans (congrArg some (by kernel_rfl))
  f218 := Tryz.func333.trans (congrArg some (by kernel_rfl))
  f219 := Tryz.func334.trans (congrArg some (by kernel_rfl))
  f221 := Tryz.func313.trans (congrArg some (by kernel_rfl))
  f224 := Tryz.func343.trans (congrArg some (by kernel_rfl))
  f225 := Tryz.func342.trans (congrArg some (by kernel_rfl))
  f260 := Tryz.func341.trans (congrArg some (by kernel_rfl))
  f266 := Tryz.func300.trans (congrArg some (by kernel_rfl))
  f267 := Tryz.func344.trans (congrArg some (by kernel_rfl))
  f268 := Tryz.func321.trans (congrArg some (by kernel_rfl))
  f314 := Tryz.func347.trans (congrArg some (by kernel_rfl))
  t0 := Tryz.underlying0
  a0 := Tryz.isAgg0
  z0 := Tryz.sizeOf0
  v0 := Tryz.zeroValue0
  t3 := Tryz.underlying3
  a3 := Tryz.isAgg3
  z3 := Tryz.sizeOf3
  v3 := Tryz.zeroValue3
  t4 := Tryz.underlying4
  a4 := Tryz.isAgg4
  z4 := Tryz.sizeOf4
  v4 := Tryz.zeroValue4
  t5 := Tryz.underlying5
  a5 := Tryz.isAgg5
  z5 := Tryz.sizeOf5
  v5 := Tryz.zeroValue5
  t9 := Tryz.underlying9
  a9 := Tryz.isAgg9
  z9 := Tryz.sizeOf9
  v9 := Tryz.zeroValue9
  t21 := Tryz.underlying21
  a21 := Tryz.isAgg21
  z21 := Tryz.sizeOf21
  v21 := Tryz.zeroValue21
  t31 := Tryz.underlying38
  a31 := Tryz.isAgg38
  z31 := Tryz.sizeOf38
  v31 := Tryz.zeroValue38
  t46 := Tryz.underlying208
  a46 := Tryz.isAgg208
  z46 := Tryz.sizeOf208
  v46 := Tryz.zeroValue208
  t51 := Tryz.underlying264
  a51 := Tryz.isAgg264
  z51 := Tryz.sizeOf264
  v51 := Tryz.zeroValue264
  t105 := Tryz.underlying365
  a105 := Tryz.isAgg365
  z105 := Tryz.sizeOf365
  v105 := Tryz.zeroValue365
  t119 := Tryz.underlying288
  a119 := Tryz.isAgg288
  z119 := Tryz.sizeOf288
  t138 := Tryz.underlying290
  a138 := Tryz.isAgg290
  z138 := Tryz.sizeOf290
  v138 := Tryz.zeroValue290
  t139 := Tryz.underlying291
  a139 := Tryz.isAgg291
  z139 := Tryz.sizeOf291
  v139 := Tryz.zeroValue291
  t146 := Tryz.underlying374
  a146 := Tryz.isAgg374
  z146 := Tryz.sizeOf374
  v146 := Tryz.zeroValue374
  g1 := by kernel_rfl
  g3 := by kernel_rfl
  g4 := by kernel_rfl
  i0 := by kernel_rfl
  i3 := by kernel_rfl
  i4 := by kernel_rfl
  i5 := by kernel_rfl
  i9 := by kernel_rfl
  i21 := by kernel_rfl
  i31 := by kernel_rfl
  i46 := by kernel_rfl
  i51 := by kernel_rfl
  i105 := by kernel_rfl
  i138 := by kernel_rfl
  i139 := by kernel_rfl
  i146 := by kernel_rfl
  m1 := by kernel_rfl
  s1_3 := fun w h => Go.Proofs.cell_of_shapedOpen_int (zero := #[.int .i64 0]) (t := 3) h (of_decide_eq_true (by kernel_rfl)) (by kernel_rfl) rfl (by kernel_rfl) (by kernel_rfl) Tryz.underlying3
  m3 := by kernel_rfl
  m4 := by kernel_rfl }
def Tryz.lays229_ren : Go.Shelf.Ren := ⟨fun | 229 => 256 | n => n, fun | 9 => 9 | 40 => 293 | 31 => 38 | 152 => 315 | 3 => 3 | 0 => 0 | 4 => 4 | 21 => 21 | 154 => 317 | n => n, fun | n => n⟩
theorem Tryz.lays229 : Go.Proofs.Lays.n229 Tryz.prog Tryz.lays229_ren := {
  mixed := by kernel_rfl
  f229 := Tryz.func256.trans (congrArg some (by kernel_rfl))
  t0 := Tryz.underlying0
  a0 := Tryz.isAgg0
  z0 := Tryz.sizeOf0
  v0 := Tryz.zeroValue0
  t3 := Tryz.underlying3
  a3 := Tryz.isAgg3
  z3 := Tryz.sizeOf3
  v3 := Tryz.zeroValue3
  t4 := Tryz.underlying4
  a4 := Tryz.isAgg4
  z4 := Tryz.sizeOf4
  v4 := Tryz.zeroValue4
  t9 := Tryz.underlying9
  a9 := Tryz.isAgg9
  z9 := Tryz.sizeOf9
  v9 := Tryz.zeroValue9
  t21 := Tryz.underlying21
  a21 := Tryz.isAgg21
  z21 := Tryz.sizeOf21
  v21 := Tryz.zeroValue21
  t31 := Tryz.underlying38
  a31 := Tryz.isAgg38
  z31 := Tryz.sizeOf38
  v31 := Tryz.zeroValue38
  t40 := Tryz.underlying293
  a40 := Tryz.isAgg293
  z40 := Tryz.sizeOf293
  v40 := Tryz.zeroValue293
  t152 := Tryz.underlying315
  a152 := Tryz.isAgg315
  z152 := Tryz.sizeOf315
  v152 := Tryz.zeroValue315
  t154 := Tryz.underlying317
  a154 := Tryz.isAgg317
  z154 := Tryz.sizeOf317
  v154 := Tryz.zeroValue317 }
open Go.RowKit Go.Lib in
theorem Tryz.strings_FieldsFunc_runes (g : Nat) (lb : Array Value) (eg : ∀ args w, (callFunc g args).run Tryz.prog w = .ok (.enter g args) w) (p : Nat → Bool) (s : ByteArray) (w : World) (hs : s.size ≤ 4294967296) (hp : PredAtRunes Tryz.prog g lb p w) :
    Calls Tryz.prog 256 #[.string s, .func (.func g) #[] lb] w fun e w' => ∃ A, e = .returned (.slice (some ⟨A, 0, none⟩) (Lib.goFieldsP p s).length (Lib.goFieldsP p s).length) ∧ w.heap.size ≤ A ∧
      w'.ownsRow w.heap.size 9 1 (.slice (some ⟨A, 0, none⟩) (Lib.goFieldsP p s).length (Lib.goFieldsP p s).length) (Lib.goFieldsP p s).length ((Lib.goFieldsP p s).map Value.string) ∧ Below w.heap.size w w' := Any.strings_FieldsFunc_runes Tryz.lays229 g lb eg p s w hs hp (by kernel_rfl) (by kernel_rfl)
def Tryz.laysValid_ren : Go.Shelf.Ren := ⟨fun | 196 => 160 | 259 => 255 | n => n, fun | 9 => 9 | 4 => 4 | 3 => 3 | 5 => 5 | 12 => 12 | 119 => 288 | 0 => 0 | 46 => 208 | 139 => 291 | 138 => 290 | 53 => 266 | n => n, fun | 3 => 5 | 4 => 6 | n => n⟩
theorem Tryz.laysValid : Go.Proofs.Lays.n196 Tryz.prog Tryz.laysValid_ren := {
  mixed := by kernel_rfl
  f196 := Tryz.func160.trans (congrArg some (by kernel_rfl))
  f259 := Tryz.func255.trans (congrArg some (by kernel_rfl))
  t0 := Tryz.underlying0
  a0 := Tryz.isAgg0
  z0 := Tryz.sizeOf0
  v0 := Tryz.zeroValue0
  t3 := Tryz.underlying3
  a3 := Tryz.isAgg3
  z3 := Tryz.sizeOf3
  v3 := Tryz.zeroValue3
  t4 := Tryz.underlying4
  a4 := Tryz.isAgg4
  z4 := Tryz.sizeOf4
  v4 := Tryz.zeroValue4
  t5 := Tryz.underlying5
  a5 := Tryz.isAgg5
  z5 := Tryz.sizeOf5
  v5 := Tryz.zeroValue5
  t9 := Tryz.underlying9
  a9 := Tryz.isAgg9
  z9 := Tryz.sizeOf9
  v9 := Tryz.zeroValue9
  t12 := Tryz.underlying12
  a12 := Tryz.isAgg12
  z12 := Tryz.sizeOf12
  v12 := Tryz.zeroValue12
  t46 := Tryz.underlying208
  a46 := Tryz.isAgg208
  z46 := Tryz.sizeOf208
  v46 := Tryz.zeroValue208
  t53 := Tryz.underlying266
  a53 := Tryz.isAgg266
  z53 := Tryz.sizeOf266
  v53 := Tryz.zeroValue266
  t119 := Tryz.underlying288
  a119 := Tryz.isAgg288
  z119 := Tryz.sizeOf288
  t138 := Tryz.underlying290
  a138 := Tryz.isAgg290
  z138 := Tryz.sizeOf290
  v138 := Tryz.zeroValue290
  t139 := Tryz.underlying291
  a139 := Tryz.isAgg291
  z139 := Tryz.sizeOf291
  v139 := Tryz.zeroValue291
  g3 := by kernel_rfl
  g4 := by kernel_rfl }
end Go.Proofs
