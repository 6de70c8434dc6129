/- Contracts of the library that the walks lean on, laid at this program. -/
import Derived.Shelf.Strings.Builder1
import Derived.Shelf.Strings.Builder2
import Derived.Shelf.Strings.OnBuilder
import Derived.Shelf.Small.Bits
import Derived.Shelf.Small.Strs
import Derived.Shelf.Small.Wraps
import Derived.Shelf.Strings.BuilderF
import Derived.Shelf.Strings.BuilderK
import Derived.Shelf.Strings.Builder2Cap
import Derived.Shelf.Strconv.Atoi
import Derived.Shelf.Strconv.Itoa0
import Derived.Shelf.Strconv.Itoa1
import Derived.Shelf.LaysM
import Derived.Shelf.Strconv.Itoa2
import Derived.Shelf.Strconv.Itoa3
import Derived.Shelf.Strconv.AtoiErrFast
import Derived.Shelf.Strconv.ParseIntEmpty
import Derived.Shelf.Strconv.AtoiFail
import Derived.Shelf.Strconv.Clone
import Derived.Shelf.Strconv.SyntaxError
import Derived.Shelf.LaysC
import Derived.Shelf.Strconv.ToError
import Derived.Shelf.Strconv.Lower
import Derived.Shelf.Strconv.ParseUint10
import Derived.Shelf.Strconv.ParseUint10Empty
import Derived.Shelf.Strconv.ParseUint10Any
import Derived.Shelf.Strconv.ParseInt10
import Derived.Shelf.Strconv.AtoiLong
import Derived.Shelf.Strconv.AtoiInnerAll
import Derived.Shelf.Strconv.RangeError
import Derived.Shelf.Strconv.ToErrorRange
import Derived.Shelf.Strconv.AtoiAll
import Derived.Shelf.Strconv.ErrVarAll
import Derived.Shelf.Strconv.ParseUintEmpty
import Derived.Shelf.Strconv.ParseUint10b64
import Derived.Shelf.Strconv.ParseUint10b32
import Derived.Shelf.Strconv.ParseUint10b16
import Derived.Shelf.Strconv.ParseUint10b8
import Derived.Shelf.Strconv.ParseUint10At
import Derived.Shelf.Strconv.ParseInt10At64
import Derived.Shelf.Strconv.ParseInt10At32
import Derived.Shelf.Strconv.ParseInt10At16
import Derived.Shelf.Strconv.ParseInt10At8
import Derived.Shelf.Strconv.ParseInt10All
import Derived.Shelf.Strings.Search1
import Derived.Shelf.Strings.Search2
import Derived.Shelf.Strings.Search3
import Derived.Shelf.Strings.Count
import Derived.Shelf.Strings.Shaped
import Derived.Shelf.Strings.Prefix
import Derived.Shelf.Strings.Split
import Derived.Shelf.Strings.Fields
import Derived.Shelf.Strings.SplitShaped
import Derived.Shelf.Unicode.Latin
import Derived.Shelf.Unicode.Decode
import Derived.Shelf.Strings.RuneCount
import Derived.Shelf.Strings.Explode
import Derived.Shelf.Unicode.DecodeSlow
import Derived.Shelf.Unicode.DecodeAny
import Derived.Shelf.Unicode.Is16White
import Derived.Shelf.Unicode.IsSpaceAny
import Derived.Shelf.Strings.FieldsFuncAny
import Derived.Shelf.Unicode.Is16Any
import Derived.Shelf.Unicode.Is32Any
import Derived.Shelf.Unicode.ExclAny
import Derived.Shelf.Strings.BuilderCap
import Derived.Ground.Names2Prog
import Derived.Shelf.Slices.Clone
import Derived.Test.YtamkmdlfhlbbeaaGreatDoorProg
import Derived.Shelf.Unicode.ValidAny
namespace Go.Proofs
open Go.Shelf
def Tryz.lays169_ren : Go.Shelf.Ren := ⟨fun | 169 => 89 | n => n, fun | 70 => 114 | 9 => 9 | 0 => 0 | 72 => 116 | 37 => 25 | 127 => 157 | 3 => 3 | 5 => 5 | n => n, fun | n => n⟩
theorem Tryz.lays169 : Go.Proofs.Lays.n169 Tryz.prog Tryz.lays169_ren := {
  mixed := by kernel_rfl
  f169 := Tryz.func89.trans (congrArg some (by kernel_rfl))
  t0 := Tryz.underlying0
  a0 := Tryz.isAgg0
  z0 := Tryz.sizeOf0
  v0 := Tryz.zeroValue0
  t3 := Tryz.underlying3
  a3 := Tryz.isAgg3
  z3 := Tryz.sizeOf3
  v3 := Tryz.zeroValue3
  t9 := Tryz.underlying9
  a9 := Tryz.isAgg9
  z9 := Tryz.sizeOf9
  v9 := Tryz.zeroValue9
  t37 := Tryz.underlying25
  a37 := Tryz.isAgg25
  z37 := Tryz.sizeOf25
  v37 := Tryz.zeroValue25
  t70 := Tryz.underlying114
  a70 := Tryz.isAgg114
  z70 := Tryz.sizeOf114
  v70 := Tryz.zeroValue114
  t72 := Tryz.underlying116
  a72 := Tryz.isAgg116
  z72 := Tryz.sizeOf116
  v72 := Tryz.zeroValue116
  t127 := Tryz.underlying157
  a127 := Tryz.isAgg157
  z127 := Tryz.sizeOf157
  v127 := Tryz.zeroValue157 }
theorem Tryz.Builder_Extra_169 : Builder.Extra Tryz.prog Tryz.lays169_ren := {
  sizeBuilder := by kernel_rfl
  liesBuilder := by kernel_rfl
  t5 := Tryz.underlying5
  a5 := Tryz.isAgg5
  z5 := Tryz.sizeOf5
  v5 := Tryz.zeroValue5
  infoByte := by kernel_rfl
  cellsByte := by kernel_rfl
  sizeByte := by kernel_rfl
  neB5 := by decide }
open Go.RowKit in
theorem Tryz.Builder_String_any (B b : Nat) (l : List UInt8) (w : World) (h : Lib.IsBuilder 116 5 B b (Lib.byteCells l) w) (hBw : B ≤ w.heap.size) :
    Calls Tryz.prog 89 #[.pointer (some ⟨b, 0, none⟩)] w fun e w' => e = .returned (.string ⟨l.toArray⟩) ∧ Below B w w' := Any.Builder_String_any Tryz.lays169 Tryz.Builder_Extra_169 B b l w h hBw
def Tryz.lays165_ren : Go.Shelf.Ren := ⟨fun | 165 => 90 | 240 => 119 | 241 => 120 | 276 => 137 | 277 => 138 | n => n, fun | 70 => 114 | 3 => 3 | 0 => 0 | 4 => 4 | 9 => 9 | 20 => 20 | 72 => 116 | 37 => 25 | 164 => 176 | 5 => 5 | n => n, fun | n => n⟩
theorem Tryz.lays165 : Go.Proofs.Lays.n165 Tryz.prog Tryz.lays165_ren := {
  mixed := by kernel_rfl
  f165 := Tryz.func90.trans (congrArg some (by kernel_rfl))
  f240 := Tryz.func119.trans (congrArg some (by kernel_rfl))
  f241 := Tryz.func120.trans (congrArg some (by kernel_rfl))
  f276 := Tryz.func137.trans (congrArg some (by kernel_rfl))
  f277 := Tryz.func138.trans (congrArg some (by kernel_rfl))
  t0 := Tryz.underlying0
  a0 := Tryz.isAgg0
  z0 := Tryz.sizeOf0
  v0 := Tryz.zeroValue0
  t3 := Tryz.underlying3
  a3 := Tryz.isAgg3
  z3 := Tryz.sizeOf3
  v3 := Tryz.zeroValue3
  t4 := Tryz.underlying4
  a4 := Tryz.isAgg4
  z4 := Tryz.sizeOf4
  v4 := Tryz.zeroValue4
  t9 := Tryz.underlying9
  a9 := Tryz.isAgg9
  z9 := Tryz.sizeOf9
  v9 := Tryz.zeroValue9
  t20 := Tryz.underlying20
  a20 := Tryz.isAgg20
  z20 := Tryz.sizeOf20
  v20 := Tryz.zeroValue20
  t37 := Tryz.underlying25
  a37 := Tryz.isAgg25
  z37 := Tryz.sizeOf25
  v37 := Tryz.zeroValue25
  t70 := Tryz.underlying114
  a70 := Tryz.isAgg114
  z70 := Tryz.sizeOf114
  v70 := Tryz.zeroValue114
  t72 := Tryz.underlying116
  a72 := Tryz.isAgg116
  z72 := Tryz.sizeOf116
  v72 := Tryz.zeroValue116
  t164 := Tryz.underlying176
  a164 := Tryz.isAgg176
  z164 := Tryz.sizeOf176
  v164 := Tryz.zeroValue176 }
theorem Tryz.Builder_Extra_165 : Builder.Extra Tryz.prog Tryz.lays165_ren := {
  sizeBuilder := by kernel_rfl
  liesBuilder := by kernel_rfl
  t5 := Tryz.underlying5
  a5 := Tryz.isAgg5
  z5 := Tryz.sizeOf5
  v5 := Tryz.zeroValue5
  infoByte := by kernel_rfl
  cellsByte := by kernel_rfl
  sizeByte := by kernel_rfl
  neB5 := by decide }
open Go.RowKit in
theorem Tryz.Builder_Grow_fresh (B b n : Nat) (w : World) (hB : B ≤ b) (hbk : w.heap[b]? = some (.cells #[.pointer none, .slice none 0 0] 116 (0, 0))) (hBw : B ≤ w.heap.size) (hn : n ≤ 281474976710656) :
    Calls Tryz.prog 90 #[.pointer (some ⟨b, 0, none⟩), .int .i64 n] w fun e w' => e = .returned (.tuple #[]) ∧ (Lib.BuilderAt 116 5 B b (.pointer (some ⟨b, 0, none⟩)) [] w' ∧ Below B w w') := Any.Builder_Grow_fresh Tryz.lays165 Tryz.Builder_Extra_165 B b n w hB hbk hBw hn
def Tryz.lays106_ren : Go.Shelf.Ren := ⟨fun | 106 => 77 | 213 => 108 | 265 => 123 | n => n, fun | 9 => 9 | 3 => 3 | n => n, fun | n => n⟩
theorem Tryz.lays106 : Go.Proofs.Lays.n106 Tryz.prog Tryz.lays106_ren := {
  mixed := by kernel_rfl
  f106 := Tryz.func77.trans (congrArg some (by kernel_rfl))
  f213 := Tryz.func108.trans (congrArg some (by kernel_rfl))
  f265 := Tryz.func123.trans (congrArg some (by kernel_rfl))
  t3 := Tryz.underlying3
  a3 := Tryz.isAgg3
  z3 := Tryz.sizeOf3
  v3 := Tryz.zeroValue3
  t9 := Tryz.underlying9
  a9 := Tryz.isAgg9
  z9 := Tryz.sizeOf9
  v9 := Tryz.zeroValue9 }
open Go.RowKit in
theorem Tryz.strings_Compare (a b : ByteArray) (w : World) :
    Calls Tryz.prog 77 #[.string a, .string b] w fun e w' => e = .returned (.int .i64 (Lib.compareBytes a.data.toList b.data.toList)) ∧ w' = w := Any.strings_Compare Tryz.lays106 a b w
def Tryz.lays103_ren : Go.Shelf.Ren := ⟨fun | 103 => 140 | 210 => 153 | 206 => 161 | n => n, fun | 9 => 9 | 4 => 4 | 24 => 179 | 3 => 3 | n => n, fun | n => n⟩
theorem Tryz.lays103 : Go.Proofs.Lays.n103 Tryz.prog Tryz.lays103_ren := {
  mixed := by kernel_rfl
  f103 := Tryz.func140.trans (congrArg some (by kernel_rfl))
  f206 := Tryz.func161.trans (congrArg some (by kernel_rfl))
  f210 := Tryz.func153.trans (congrArg some (by kernel_rfl))
  t3 := Tryz.underlying3
  a3 := Tryz.isAgg3
  z3 := Tryz.sizeOf3
  v3 := Tryz.zeroValue3
  t4 := Tryz.underlying4
  a4 := Tryz.isAgg4
  z4 := Tryz.sizeOf4
  v4 := Tryz.zeroValue4
  t9 := Tryz.underlying9
  a9 := Tryz.isAgg9
  z9 := Tryz.sizeOf9
  v9 := Tryz.zeroValue9
  t24 := Tryz.underlying179
  a24 := Tryz.isAgg179
  z24 := Tryz.sizeOf179
  v24 := Tryz.zeroValue179 }
open Go.RowKit in
theorem Tryz.strings_CutPrefix (s p : ByteArray) (w : World) :
    Calls Tryz.prog 140 #[.string s, .string p] w fun e w' => e = .returned (.tuple #[.string ⟨(Lib.trimPrefix s.data.toList p.data.toList).toArray⟩, .bool (Lib.hasPrefix s.data.toList p.data.toList)]) ∧ w' = w := Any.strings_CutPrefix Tryz.lays103 s p w
open Go.RowKit in
theorem Tryz.Builder_String_any_f (B b : Nat) (l : List UInt8) (w : World) (h : Lib.IsBuilderF 116 5 B b (Lib.byteCells l) w) (hBw : B ≤ w.heap.size) :
    Calls Tryz.prog 89 #[.pointer (some ⟨b, 0, none⟩)] w fun e w' => e = .returned (.string ⟨l.toArray⟩) ∧ (Lib.IsBuilderF 116 5 B b (Lib.byteCells l) w' ∧ Below B w w') := Any.Builder_String_any_f Tryz.lays169 Tryz.Builder_Extra_169 B b l w h hBw
def Tryz.laysM171_ren : Go.Shelf.Ren := ⟨fun | 171 => 175 | 243 => 180 | 246 => 181 | 283 => 182 | 284 => 183 | 285 => 184 | 286 => 185 | 129 => 135 | 317 => 186 | 318 => 187 | 319 => 188 | 320 => 189 | 337 => 190 | 338 => 191 | n => n, fun | 3 => 3 | 9 => 9 | 2 => 2 | 4 => 4 | 171 => 230 | 0 => 0 | 53 => 128 | 37 => 25 | 5 => 5 | 173 => 232 | 212 => 235 | 51 => 169 | 20 => 20 | 213 => 236 | 46 => 129 | 232 => 238 | 233 => 239 | n => n, fun | 17 => 10 | 18 => 11 | 19 => 12 | n => n⟩
theorem Tryz.laysM171 : Go.Proofs.LaysM.n171 Tryz.prog Tryz.laysM171_ren := {
  mixed := by kernel_rfl
  f129 := Tryz.func135.trans (congrArg some (by kernel_rfl))
  f171 := Tryz.func175.trans (congrArg some (by kernel_rfl))
  f243 := Tryz.func180.trans (congrArg some (by kernel_rfl))
  f246 := Tryz.func181.trans (congrArg some (by kernel_rfl))
  f283 := Tryz.func182.trans (congrArg some (by kernel_rfl))
  f284 := Tryz.func183.trans (congrArg some (by kernel_rfl))
  f285 := Tryz.func184.trans (congrArg some (by kernel_rfl))
  f286 := Tryz.func185.trans (congrArg some (by kernel_rfl))
  f317 := Tryz.func186.trans (congrArg some (by kernel_rfl))
  f318 := Tryz.func187.trans (congrArg some (by kernel_rfl))
  f319 := Tryz.func188.trans (congrArg some (by kernel_rfl))
  f320 := Tryz.func189.trans (congrArg some (by kernel_rfl))
  f337 := Tryz.func190.trans (congrArg some (by kernel_rfl))
  f338 := Tryz.func191.trans (congrArg some (by kernel_rfl))
  t0 := Tryz.underlying0
  a0 := Tryz.isAgg0
  z0 := Tryz.sizeOf0
  v0 := Tryz.zeroValue0
  t2 := Tryz.underlying2
  a2 := Tryz.isAgg2
  z2 := Tryz.sizeOf2
  v2 := Tryz.zeroValue2
  t3 := Tryz.underlying3
  a3 := Tryz.isAgg3
  z3 := Tryz.sizeOf3
  v3 := Tryz.zeroValue3
  t4 := Tryz.underlying4
  a4 := Tryz.isAgg4
  z4 := Tryz.sizeOf4
  v4 := Tryz.zeroValue4
  t5 := Tryz.underlying5
  a5 := Tryz.isAgg5
  z5 := Tryz.sizeOf5
  v5 := Tryz.zeroValue5
  t9 := Tryz.underlying9
  a9 := Tryz.isAgg9
  z9 := Tryz.sizeOf9
  v9 := Tryz.zeroValue9
  t20 := Tryz.underlying20
  a20 := Tryz.isAgg20
  z20 := Tryz.sizeOf20
  v20 := Tryz.zeroValue20
  t37 := Tryz.underlying25
  a37 := Tryz.isAgg25
  z37 := Tryz.sizeOf25
  v37 := Tryz.zeroValue25
  t46 := Tryz.underlying129
  a46 := Tryz.isAgg129
  z46 := Tryz.sizeOf129
  v46 := Tryz.zeroValue129
  t51 := Tryz.underlying169
  a51 := Tryz.isAgg169
  z51 := Tryz.sizeOf169
  v51 := Tryz.zeroValue169
  t53 := Tryz.underlying128
  a53 := Tryz.isAgg128
  z53 := Tryz.sizeOf128
  v53 := Tryz.zeroValue128
  t171 := Tryz.underlying230
  a171 := Tryz.isAgg230
  z171 := Tryz.sizeOf230
  v171 := Tryz.zeroValue230
  t173 := Tryz.underlying232
  a173 := Tryz.isAgg232
  z173 := Tryz.sizeOf232
  v173 := Tryz.zeroValue232
  t212 := Tryz.underlying235
  a212 := Tryz.isAgg235
  z212 := Tryz.sizeOf235
  v212 := Tryz.zeroValue235
  t213 := Tryz.underlying236
  a213 := Tryz.isAgg236
  z213 := Tryz.sizeOf236
  t232 := Tryz.underlying238
  a232 := Tryz.isAgg238
  z232 := Tryz.sizeOf238
  v232 := Tryz.zeroValue238
  t233 := Tryz.underlying239
  a233 := Tryz.isAgg239
  z233 := Tryz.sizeOf239
  v233 := Tryz.zeroValue239
  g17 := by kernel_rfl
  g18 := by kernel_rfl
  g19 := by kernel_rfl
  i0 := by kernel_rfl
  i2 := by kernel_rfl
  i3 := by kernel_rfl
  i4 := by kernel_rfl
  i5 := by kernel_rfl
  i9 := by kernel_rfl
  i20 := by kernel_rfl
  i37 := by kernel_rfl
  i46 := by kernel_rfl
  i51 := by kernel_rfl
  i53 := by kernel_rfl
  i171 := by kernel_rfl
  i173 := by kernel_rfl
  i212 := by kernel_rfl
  i232 := by kernel_rfl
  i233 := by kernel_rfl
  m17 := by kernel_rfl
  m18 := by kernel_rfl
  m19 := by kernel_rfl }
open Go.RowKit Go.Sort Go.Lib in
theorem Tryz.strconv_Itoa (n : Int) (h0 : -9223372036854775808 ≤ n) (h1 : n ≤ 9223372036854775807) (w : World) (htab : Lib.TabIs Tryz.prog w "internal/strconv.uint64pow10" .u64 Lib.pow10Tab) :
    Calls Tryz.prog 175 #[.int .i64 n] w fun e w' => e = .returned (.string ⟨(Lib.itoa n).toArray⟩) ∧ ∃ k os, w' = grow (w.drewN k) os := Any.strconv_Itoa Tryz.laysM171 n h0 h1 w htab
def Tryz.laysC172_ren : Go.Shelf.Ren := ⟨fun | 172 => 141 | 244 => 154 | 245 => 155 | 247 => 162 | 279 => 163 | 280 => 164 | 281 => 165 | 282 => 166 | 287 => 172 | 316 => 173 | 171 => 175 | 205 => 174 | 321 => 178 | 322 => 179 | 243 => 180 | 246 => 181 | 283 => 182 | 284 => 183 | 285 => 184 | 286 => 185 | 129 => 135 | 317 => 186 | 318 => 187 | 319 => 188 | 320 => 189 | 337 => 190 | 338 => 191 | n => n, fun | 9 => 9 | 3 => 3 | 75 => 118 | 76 => 121 | 4 => 4 | 5 => 5 | 167 => 211 | 37 => 25 | 0 => 0 | 85 => 212 | 2 => 2 | 168 => 214 | 53 => 128 | 175 => 217 | 46 => 129 | 210 => 221 | 127 => 157 | 145 => 228 | 143 => 226 | 21 => 21 | 171 => 230 | 173 => 232 | 212 => 235 | 51 => 169 | 20 => 20 | 213 => 236 | 232 => 238 | 233 => 239 | 80 => 45 | n => n, fun | 15 => 8 | 16 => 9 | 17 => 10 | 18 => 11 | 19 => 12 | n => n⟩
theorem Tryz.laysC172 : Go.Proofs.LaysC.n172 Tryz.prog Tryz.laysC172_ren := {
  mixed := by kernel_rfl
  f129 := Tryz.func135.trans (congrArg some (by kernel_rfl))
  f171 := Tryz.func175.trans (congrArg some (by kernel_rfl))
  f172 := Tryz.func141.trans (congrArg some (by kernel_rfl))
  f205 := Tryz.func174.trans (congrArg some (by kernel_rfl))
  f243 := Tryz.func180.trans (congrArg some (by kernel_rfl))
  f244 := Tryz.func154.trans (congrArg some (by kernel_rfl))
  f245 := Tryz.func155.trans (congrArg some (by kernel_rfl))
  f246 := Tryz.func181.trans (congrArg some (by kernel_rfl))
  f247 := Tryz.func162.trans (congrArg some (by kernel_rfl))
  f279 := Tryz.func163.trans (congrArg some (by kernel_rfl))
  f280 := Tryz.func164.trans (congrArg some (by kernel_rfl))
  f281 := Tryz.func165.trans (congrArg some (by kernel_rfl))
  f282 := Tryz.func166.trans (congrArg some (by kernel_rfl))
  f283 := Tryz.func182.trans (congrArg some (by kernel_rfl))
  f284 := Tryz.func183.trans (congrArg some (by kernel_rfl))
  f285 := Tryz.func184.trans (congrArg some (by kernel_rfl))
  f286 := Tryz.func185.trans (congrArg some (by kernel_rfl))
  f287 := Tryz.func172.trans (congrArg some (by kernel_rfl))
  f316 := Tryz.func173.trans (congrArg some (by kernel_rfl))
  f317 := Tryz.func186.trans (congrArg some (by kernel_rfl))
  f318 := Tryz.func187.trans (congrArg some (by kernel_rfl))
  f319 := Tryz.func188.trans (congrArg some (by kernel_rfl))
  f320 := Tryz.func189.trans (congrArg some (by kernel_rfl))
  f321 := Tryz.func178.trans (congrArg some (by kernel_rfl))
  f322 := Tryz.func179.trans (congrArg some (by kernel_rfl))
  f337 := Tryz.func190.trans (congrArg some (by kernel_rfl))
  f338 := Tryz.func191.trans (congrArg some (by kernel_rfl))
  t0 := Tryz.underlying0
  a0 := Tryz.isAgg0
  z0 := Tryz.sizeOf0
  v0 := Tryz.zeroValue0
  t2 := Tryz.underlying2
  a2 := Tryz.isAgg2
  z2 := Tryz.sizeOf2
  v2 := Tryz.zeroValue2
  t3 := Tryz.underlying3
  a3 := Tryz.isAgg3
  z3 := Tryz.sizeOf3
  v3 := Tryz.zeroValue3
  t4 := Tryz.underlying4
  a4 := Tryz.isAgg4
  z4 := Tryz.sizeOf4
  v4 := Tryz.zeroValue4
  t5 := Tryz.underlying5
  a5 := Tryz.isAgg5
  z5 := Tryz.sizeOf5
  v5 := Tryz.zeroValue5
  t9 := Tryz.underlying9
  a9 := Tryz.isAgg9
  z9 := Tryz.sizeOf9
  v9 := Tryz.zeroValue9
  t20 := Tryz.underlying20
  a20 := Tryz.isAgg20
  z20 := Tryz.sizeOf20
  v20 := Tryz.zeroValue20
  t21 := Tryz.underlying21
  a21 := Tryz.isAgg21
  z21 := Tryz.sizeOf21
  v21 := Tryz.zeroValue21
  t37 := Tryz.underlying25
  a37 := Tryz.isAgg25
  z37 := Tryz.sizeOf25
  v37 := Tryz.zeroValue25
  t46 := Tryz.underlying129
  a46 := Tryz.isAgg129
  z46 := Tryz.sizeOf129
  v46 := Tryz.zeroValue129
  t51 := Tryz.underlying169
  a51 := Tryz.isAgg169
  z51 := Tryz.sizeOf169
  v51 := Tryz.zeroValue169
  t53 := Tryz.underlying128
  a53 := Tryz.isAgg128
  z53 := Tryz.sizeOf128
  v53 := Tryz.zeroValue128
  t75 := Tryz.underlying118
  a75 := Tryz.isAgg118
  z75 := Tryz.sizeOf118
  v75 := Tryz.zeroValue118
  t76 := Tryz.underlying121
  a76 := Tryz.isAgg121
  z76 := Tryz.sizeOf121
  v76 := Tryz.zeroValue121
  t85 := Tryz.underlying212
  a85 := Tryz.isAgg212
  z85 := Tryz.sizeOf212
  v85 := Tryz.zeroValue212
  t127 := Tryz.underlying157
  a127 := Tryz.isAgg157
  z127 := Tryz.sizeOf157
  v127 := Tryz.zeroValue157
  t143 := Tryz.underlying226
  a143 := Tryz.isAgg226
  z143 := Tryz.sizeOf226
  v143 := Tryz.zeroValue226
  t145 := Tryz.underlying228
  a145 := Tryz.isAgg228
  z145 := Tryz.sizeOf228
  v145 := Tryz.zeroValue228
  t167 := Tryz.underlying211
  a167 := Tryz.isAgg211
  z167 := Tryz.sizeOf211
  v167 := Tryz.zeroValue211
  t168 := Tryz.underlying214
  a168 := Tryz.isAgg214
  z168 := Tryz.sizeOf214
  v168 := Tryz.zeroValue214
  t171 := Tryz.underlying230
  a171 := Tryz.isAgg230
  z171 := Tryz.sizeOf230
  v171 := Tryz.zeroValue230
  t173 := Tryz.underlying232
  a173 := Tryz.isAgg232
  z173 := Tryz.sizeOf232
  v173 := Tryz.zeroValue232
  t175 := Tryz.underlying217
  a175 := Tryz.isAgg217
  z175 := Tryz.sizeOf217
  v175 := Tryz.zeroValue217
  t210 := Tryz.underlying221
  a210 := Tryz.isAgg221
  z210 := Tryz.sizeOf221
  v210 := Tryz.zeroValue221
  t212 := Tryz.underlying235
  a212 := Tryz.isAgg235
  z212 := Tryz.sizeOf235
  v212 := Tryz.zeroValue235
  t213 := Tryz.underlying236
  a213 := Tryz.isAgg236
  z213 := Tryz.sizeOf236
  t232 := Tryz.underlying238
  a232 := Tryz.isAgg238
  z232 := Tryz.sizeOf238
  v232 := Tryz.zeroValue238
  t233 := Tryz.underlying239
  a233 := Tryz.isAgg239
  z233 := Tryz.sizeOf239
  v233 := Tryz.zeroValue239
  g15 := by kernel_rfl
  g16 := by kernel_rfl
  g17 := by kernel_rfl
  g18 := by kernel_rfl
  g19 := by kernel_rfl
  t80 := Tryz.underlying45
  a80 := Tryz.isAgg45
  z80 := Tryz.sizeOf45
  v80 := Tryz.zeroValue45
  i0 := by kernel_rfl
  i2 := by kernel_rfl
  i3 := by kernel_rfl
  i4 := by kernel_rfl
  i5 := by kernel_rfl
  i9 := by kernel_rfl
  i20 := by kernel_rfl
  i21 := by kernel_rfl
  i37 := by kernel_rfl
  i46 := by kernel_rfl
  i51 := by kernel_rfl
  i53 := by kernel_rfl
  i75 := by kernel_rfl
  i76 := by kernel_rfl
  i80 := by kernel_rfl
  i85 := by kernel_rfl
  i127 := by kernel_rfl
  i143 := by kernel_rfl
  i145 := by kernel_rfl
  i167 := by kernel_rfl
  i168 := by kernel_rfl
  i171 := by kernel_rfl
  i173 := by kernel_rfl
  i175 := by kernel_rfl
  i210 := by kernel_rfl
  i212 := by kernel_rfl
  i232 := by kernel_rfl
  i233 := by kernel_rfl
  m15 := by kernel_rfl
  m16 := by kernel_rfl
  m17 := by kernel_rfl
  m18 := by kernel_rfl
  m19 := by kernel_rfl
  c0 := by kernel_rfl
  c2 := by kernel_rfl
  c3 := by kernel_rfl
  c4 := by kernel_rfl
  c5 := by kernel_rfl
  c9 := by kernel_rfl
  c20 := by kernel_rfl
  c21 := by kernel_rfl
  c37 := by kernel_rfl
  c46 := by kernel_rfl
  c51 := by kernel_rfl
  c53 := by kernel_rfl
  c75 := by kernel_rfl
  c76 := by kernel_rfl
  c80 := by kernel_rfl
  c85 := by kernel_rfl
  c127 := by kernel_rfl
  c143 := by kernel_rfl
  c145 := by kernel_rfl
  c167 := by kernel_rfl
  c168 := by kernel_rfl
  c171 := by kernel_rfl
  c173 := by kernel_rfl
  c175 := by kernel_rfl
  c210 := by kernel_rfl
  c212 := by kernel_rfl
  c213 := by kernel_rfl
  c232 := by kernel_rfl
  c233 := by kernel_rfl }
open Go.RowKit in
theorem Tryz.strconv_Atoi_ok (s : ByteArray) (hmax : s.size ≤ 9223372036854775806) (v : Int) (h : Lib.atoiAll s.data.toList = .ok v) (w : World) :
    Calls Tryz.prog 141 #[.string s] w fun e w' => e = .returned (.tuple #[.int .i64 v, .nilIface]) ∧ (w' = w ∨ ∃ t, w' = Lib.bytesWorld w 5 t) := Any.strconv_Atoi_ok Tryz.laysC172 s hmax v h w
open Go.RowKit in
theorem Tryz.strconv_Atoi_range_var (s : ByteArray) (hlim : s.size ≤ 281474976710656) (h : Lib.atoiAll s.data.toList = .range) (tp : TypeId) (p : Value) (w : World) (hvar : w.var? Tryz.prog "strconv.ErrRange" = some #[.iface tp p]) :
    Calls Tryz.prog 141 #[.string s] w fun e w' => ∃ N, e = .returned (.tuple #[.int .i64 (Lib.atoiSat s.data.toList), .iface 214 (.pointer (some ⟨N, 0, none⟩))]) ∧ w.heap.size ≤ N ∧ w'.heap[N]? = some (.cells #[.string ⟨#[65, 116, 111, 105]⟩, .string s, .iface tp p] 221 (0, 0)) ∧ Below w.heap.size w w' := Any.strconv_Atoi_range_var Tryz.laysC172 s hlim h tp p w hvar
def Tryz.lays146_ren : Go.Shelf.Ren := ⟨fun | 146 => 121 | 221 => 139 | 268 => 150 | 138 => 151 | 143 => 152 | 195 => 157 | 197 => 158 | 218 => 159 | 219 => 160 | 260 => 167 | 217 => 168 | 225 => 169 | 224 => 170 | 267 => 171 | 266 => 176 | 314 => 177 | n => n, fun | 9 => 9 | 31 => 46 | 3 => 3 | 4 => 4 | 0 => 0 | 105 => 207 | 21 => 21 | 5 => 5 | 46 => 129 | 119 => 150 | 139 => 156 | 138 => 155 | 146 => 223 | 51 => 169 | n => n, fun | 1 => 6 | 3 => 4 | 4 => 5 | n => n⟩
theorem Tryz.lays146 : Go.Proofs.Lays.n146 Tryz.prog Tryz.lays146_ren := {
  mixed := by kernel_rfl
  f138 := Tryz.func151.trans (congrArg some (by kernel_rfl))
  f143 := Tryz.func152.trans (congrArg some (by kernel_rfl))
  f146 := Tryz.func121.trans (congrArg some (by kernel_rfl))
  f195 := Tryz.func157.trans (congrArg some (by kernel_rfl))
  f197 := Tryz.func158.trans (congrArg some (by kernel_rfl))
  f217 := Tryz.func168.trans (congrArg some (by kernel_rfl))
  f218 := Tryz.func159.trans (congrArg some (by kernel_rfl))
  f219 := Tryz.func160.trans (congrArg some (by kernel_rfl))
  f221 := Tryz.func139.trans (congrArg some (by kernel_rfl))
  f224 := Tryz.func170.trans (congrArg some (by kernel_rfl))
  f225 := Tryz.func169.trans (congrArg some (by kernel_rfl))
  f260 := Tryz.func167.trans (congrArg some (by kernel_rfl))
  f266 := Tryz.func176.trans (congrArg some (by kernel_rfl))
  f267 := Tryz.func171.trans (congrArg some (by kernel_rfl))
  f268 := Tryz.func150.trans (congrArg some (by kernel_rfl))
  f314 := Tryz.func177.trans (congrArg some (by kernel_rfl))
  t0 := Tryz.underlying0
  a0 := Tryz.isAgg0
  z0 := Tryz.sizeOf0
  v0 := Tryz.zeroValue0
  t3 := Tryz.underlying3
  a3 := Tryz.isAgg3
  z3 := Tryz.sizeOf3
  v3 := Tryz.zeroValue3
  t4 := Tryz.underlying4
  a4 := Tryz.isAgg4
  z4 := Tryz.sizeOf4
  v4 := Tryz.zeroValue4
  t5 := Tryz.underlying5
  a5 := Tryz.isAgg5
  z5 := Tryz.sizeOf5
  v5 := Tryz.zeroValue5
  t9 := Tryz.underlying9
  a9 := Tryz.isAgg9
  z9 := Tryz.sizeOf9
  v9 := Tryz.zeroValue9
  t21 := Tryz.underlying21
  a21 := Tryz.isAgg21
  z21 := Tryz.sizeOf21
  v21 := Tryz.zeroValue21
  t31 := Tryz.underlying46
  a31 := Tryz.isAgg46
  z31 := Tryz.sizeOf46
  v31 := Tryz.zeroValue46
  t46 := Tryz.underlying129
  a46 := Tryz.isAgg129
  z46 := Tryz.sizeOf129
  v46 := Tryz.zeroValue129
  t51 := Tryz.underlying169
  a51 := Tryz.isAgg169
  z51 := Tryz.sizeOf169
  v51 := Tryz.zeroValue169
  t105 := Tryz.underlying207
  a105 := Tryz.isAgg207
  z105 := Tryz.sizeOf207
  v105 := Tryz.zeroValue207
  t119 := Tryz.underlying150
  a119 := Tryz.isAgg150
  z119 := Tryz.sizeOf150
  t138 := Tryz.underlying155
  a138 := Tryz.isAgg155
  z138 := Tryz.sizeOf155
  v138 := Tryz.zeroValue155
  t139 := Tryz.underlying156
  a139 := Tryz.isAgg156
  z139 := Tryz.sizeOf156
  v139 := Tryz.zeroValue156
  t146 := Tryz.underlying223
  a146 := Tryz.isAgg223
  z146 := Tryz.sizeOf223
  v146 := Tryz.zeroValue223
  g1 := by kernel_rfl
  g3 := by kernel_rfl
  g4 := by kernel_rfl }
open Go.RowKit Go.Lib in
theorem Tryz.strings_Split (s sep : ByteArray) (m : Int) (w : World) (hs : s.size < 4294967281) (hm : w.cell? ⟨6, 0, none⟩ = some (.int .i64 m)) (h1 : 1 ≤ sep.size) :
    Calls Tryz.prog 121 #[.string s, .string sep] w fun e w' =>
      e = .returned (.slice (some ⟨w.heap.size, 0, none⟩) (Lib.countB s sep + 1) (Lib.countB s sep + 1)) ∧ w' = w.alloc (.cells ((Lib.splitB sep 0 (Lib.countB s sep) s).map Value.string).toArray 9) := Any.strings_Split Tryz.lays146 (by kernel_rfl) s sep m w hs hm h1
def Tryz.lays157_ren : Go.Shelf.Ren := ⟨fun | 157 => 84 | 229 => 116 | 199 => 117 | 261 => 136 | 311 => 148 | 312 => 149 | n => n, fun | 9 => 9 | 31 => 46 | 3 => 3 | 5 => 5 | 4 => 4 | 119 => 150 | 0 => 0 | 40 => 152 | 152 => 171 | 21 => 21 | 154 => 173 | 51 => 169 | 141 => 175 | 196 => 191 | 193 => 188 | 198 => 194 | 49 => 192 | 194 => 189 | 201 => 197 | 226 => 204 | 46 => 129 | 227 => 205 | n => n, fun | 0 => 3 | 6 => 7 | n => n⟩
theorem Tryz.lays157 : Go.Proofs.Lays.n157 Tryz.prog Tryz.lays157_ren := {
  mixed := by kernel_rfl
  f157 := Tryz.func84.trans (congrArg some (by kernel_rfl))
  f199 := Tryz.func117.trans (congrArg some (by kernel_rfl))
  f229 := Tryz.func116.trans (congrArg some (by kernel_rfl))
  f261 := Tryz.func136.trans (congrArg some (by kernel_rfl))
  f311 := Tryz.func148.trans (congrArg some (by kernel_rfl))
  f312 := Tryz.func149.trans (congrArg some (by kernel_rfl))
  t0 := Tryz.underlying0
  a0 := Tryz.isAgg0
  z0 := Tryz.sizeOf0
  v0 := Tryz.zeroValue0
  t3 := Tryz.underlying3
  a3 := Tryz.isAgg3
  z3 := Tryz.sizeOf3
  v3 := Tryz.zeroValue3
  t4 := Tryz.underlying4
  a4 := Tryz.isAgg4
  z4 := Tryz.sizeOf4
  v4 := Tryz.zeroValue4
  t5 := Tryz.underlying5
  a5 := Tryz.isAgg5
  z5 := Tryz.sizeOf5
  v5 := Tryz.zeroValue5
  t9 := Tryz.underlying9
  a9 := Tryz.isAgg9
  z9 := Tryz.sizeOf9
  v9 := Tryz.zeroValue9
  t21 := Tryz.underlying21
  a21 := Tryz.isAgg21
  z21 := Tryz.sizeOf21
  v21 := Tryz.zeroValue21
  t31 := Tryz.underlying46
  a31 := Tryz.isAgg46
  z31 := Tryz.sizeOf46
  v31 := Tryz.zeroValue46
  t40 := Tryz.underlying152
  a40 := Tryz.isAgg152
  z40 := Tryz.sizeOf152
  v40 := Tryz.zeroValue152
  t46 := Tryz.underlying129
  a46 := Tryz.isAgg129
  z46 := Tryz.sizeOf129
  v46 := Tryz.zeroValue129
  t49 := Tryz.underlying192
  a49 := Tryz.isAgg192
  z49 := Tryz.sizeOf192
  v49 := Tryz.zeroValue192
  t51 := Tryz.underlying169
  a51 := Tryz.isAgg169
  z51 := Tryz.sizeOf169
  v51 := Tryz.zeroValue169
  t119 := Tryz.underlying150
  a119 := Tryz.isAgg150
  z119 := Tryz.sizeOf150
  t141 := Tryz.underlying175
  a141 := Tryz.isAgg175
  z141 := Tryz.sizeOf175
  v141 := Tryz.zeroValue175
  t152 := Tryz.underlying171
  a152 := Tryz.isAgg171
  z152 := Tryz.sizeOf171
  v152 := Tryz.zeroValue171
  t154 := Tryz.underlying173
  a154 := Tryz.isAgg173
  z154 := Tryz.sizeOf173
  v154 := Tryz.zeroValue173
  t193 := Tryz.underlying188
  a193 := Tryz.isAgg188
  z193 := Tryz.sizeOf188
  v193 := Tryz.zeroValue188
  t194 := Tryz.underlying189
  a194 := Tryz.isAgg189
  z194 := Tryz.sizeOf189
  v194 := Tryz.zeroValue189
  t196 := Tryz.underlying191
  a196 := Tryz.isAgg191
  z196 := Tryz.sizeOf191
  v196 := Tryz.zeroValue191
  t198 := Tryz.underlying194
  a198 := Tryz.isAgg194
  z198 := Tryz.sizeOf194
  v198 := Tryz.zeroValue194
  t201 := Tryz.underlying197
  a201 := Tryz.isAgg197
  z201 := Tryz.sizeOf197
  v201 := Tryz.zeroValue197
  t226 := Tryz.underlying204
  a226 := Tryz.isAgg204
  z226 := Tryz.sizeOf204
  v226 := Tryz.zeroValue204
  t227 := Tryz.underlying205
  a227 := Tryz.isAgg205
  z227 := Tryz.sizeOf205
  v227 := Tryz.zeroValue205
  g0 := by kernel_rfl
  g6 := by kernel_rfl }
open Go.RowKit Go.Lib in
theorem Tryz.strings_Fields (s : ByteArray) (w : World) (hs : s.size < 4294967281) (hascii : ∀ (j : Nat) b, s.data.toList[j]? = some b → b.toNat < 128) (htab : Lib.TabIs Tryz.prog w "strings.asciiSpace" .u8 Lib.asciiSpaceTab) :
    Calls Tryz.prog 84 #[.string s] w fun e w' =>
      e = .returned (.slice (some ⟨w.heap.size, 0, none⟩) (Lib.fields s.data.toList).length (Lib.fields s.data.toList).length) ∧ w' = w.alloc (.cells ((Lib.fields s.data.toList).map fun l => Value.string ⟨l.toArray⟩).toArray 9) := Any.strings_Fields Tryz.lays157 (by kernel_rfl) (by kernel_rfl) s w hs hascii htab
def Tryz.laysM146_ren : Go.Shelf.Ren := ⟨fun | 146 => 121 | 221 => 139 | 268 => 150 | 138 => 151 | 143 => 152 | 195 => 157 | 197 => 158 | 218 => 159 | 219 => 160 | 260 => 167 | 217 => 168 | 225 => 169 | 224 => 170 | 267 => 171 | 266 => 176 | 314 => 177 | n => n, fun | 9 => 9 | 31 => 46 | 3 => 3 | 4 => 4 | 0 => 0 | 105 => 207 | 21 => 21 | 5 => 5 | 46 => 129 | 119 => 150 | 139 => 156 | 138 => 155 | 146 => 223 | 51 => 169 | n => n, fun | 1 => 6 | 3 => 4 | 4 => 5 | n => n⟩
theorem Tryz.laysM146 : Go.Proofs.LaysM.n146 Tryz.prog Tryz.laysM146_ren := {
  mixed := by kernel_rfl
  f138 := Tryz.func151.trans (congrArg some (by kernel_rfl))
  f143 := Tryz.func152.trans (congrArg some (by kernel_rfl))
  f146 := Tryz.func121.trans (congrArg some (by kernel_rfl))
  f195 := Tryz.func157.trans (congrArg some (by kernel_rfl))
  f197 := Tryz.func158.trans (congrArg some (by kernel_rfl))
  f217 := Tryz.func168.trans (congrArg some (by kernel_rfl))
  f218 := Tryz.func159.trans (congrArg some (by kernel_rfl))
  f219 := Tryz.func160.trans (congrArg some (by kernel_rfl))
  f221 := Tryz.func139.trans (congrArg some (by kernel_rfl))
  f224 := Tryz.func170.trans (congrArg some (by kernel_rfl))
  f225 := Tryz.func169.trans (congrArg some (by kernel_rfl))
  f260 := Tryz.func167.trans (congrArg some (by kernel_rfl))
  f266 := Tryz.func176.trans (congrArg some (by kernel_rfl))
  f267 := Tryz.func171.trans (congrArg some (by kernel_rfl))
  f268 := Tryz.func150.trans (congrArg some (by kernel_rfl))
  f314 := Tryz.func177.trans (congrArg some (by kernel_rfl))
  t0 := Tryz.underlying0
  a0 := Tryz.isAgg0
  z0 := Tryz.sizeOf0
  v0 := Tryz.zeroValue0
  t3 := Tryz.underlying3
  a3 := Tryz.isAgg3
  z3 := Tryz.sizeOf3
  v3 := Tryz.zeroValue3
  t4 := Tryz.underlying4
  a4 := Tryz.isAgg4
  z4 := Tryz.sizeOf4
  v4 := Tryz.zeroValue4
  t5 := Tryz.underlying5
  a5 := Tryz.isAgg5
  z5 := Tryz.sizeOf5
  v5 := Tryz.zeroValue5
  t9 := Tryz.underlying9
  a9 := Tryz.isAgg9
  z9 := Tryz.sizeOf9
  v9 := Tryz.zeroValue9
  t21 := Tryz.underlying21
  a21 := Tryz.isAgg21
  z21 := Tryz.sizeOf21
  v21 := Tryz.zeroValue21
  t31 := Tryz.underlying46
  a31 := Tryz.isAgg46
  z31 := Tryz.sizeOf46
  v31 := Tryz.zeroValue46
  t46 := Tryz.underlying129
  a46 := Tryz.isAgg129
  z46 := Tryz.sizeOf129
  v46 := Tryz.zeroValue129
  t51 := Tryz.underlying169
  a51 := Tryz.isAgg169
  z51 := Tryz.sizeOf169
  v51 := Tryz.zeroValue169
  t105 := Tryz.underlying207
  a105 := Tryz.isAgg207
  z105 := Tryz.sizeOf207
  v105 := Tryz.zeroValue207
  t119 := Tryz.underlying150
  a119 := Tryz.isAgg150
  z119 := Tryz.sizeOf150
  t138 := Tryz.underlying155
  a138 := Tryz.isAgg155
  z138 := Tryz.sizeOf155
  v138 := Tryz.zeroValue155
  t139 := Tryz.underlying156
  a139 := Tryz.isAgg156
  z139 := Tryz.sizeOf156
  v139 := Tryz.zeroValue156
  t146 := Tryz.underlying223
  a146 := Tryz.isAgg223
  z146 := Tryz.sizeOf223
  v146 := Tryz.zeroValue223
  g1 := by kernel_rfl
  g3 := by kernel_rfl
  g4 := by kernel_rfl
  i0 := by kernel_rfl
  i3 := by kernel_rfl
  i4 := by kernel_rfl
  i5 := by kernel_rfl
  i9 := by kernel_rfl
  i21 := by kernel_rfl
  i31 := by kernel_rfl
  i46 := by kernel_rfl
  i51 := by kernel_rfl
  i105 := by kernel_rfl
  i138 := by kernel_rfl
  i139 := by kernel_rfl
  i146 := by kernel_rfl
  m1 := by kernel_rfl
  s1_3 := fun w h => Go.Proofs.cell_of_shapedOpen_int (zero := #[.int .i64 0]) (t := 3) h (of_decide_eq_true (by kernel_rfl)) (by kernel_rfl) rfl (by kernel_rfl) (by kernel_rfl) Tryz.underlying3
  m3 := by kernel_rfl
  m4 := by kernel_rfl }
def Tryz.lays229_ren : Go.Shelf.Ren := ⟨fun | 229 => 116 | n => n, fun | 9 => 9 | 40 => 152 | 31 => 46 | 152 => 171 | 3 => 3 | 0 => 0 | 4 => 4 | 21 => 21 | 154 => 173 | n => n, fun | n => n⟩
theorem Tryz.lays229 : Go.Proofs.Lays.n229 Tryz.prog Tryz.lays229_ren := {
  mixed := by kernel_rfl
  f229 := Tryz.func116.trans (congrArg some (by kernel_rfl))
  t0 := Tryz.underlying0
  a0 := Tryz.isAgg0
  z0 := Tryz.sizeOf0
  v0 := Tryz.zeroValue0
  t3 := Tryz.underlying3
  a3 := Tryz.isAgg3
  z3 := Tryz.sizeOf3
  v3 := Tryz.zeroValue3
  t4 := Tryz.underlying4
  a4 := Tryz.isAgg4
  z4 := Tryz.sizeOf4
  v4 := Tryz.zeroValue4
  t9 := Tryz.underlying9
  a9 := Tryz.isAgg9
  z9 := Tryz.sizeOf9
  v9 := Tryz.zeroValue9
  t21 := Tryz.underlying21
  a21 := Tryz.isAgg21
  z21 := Tryz.sizeOf21
  v21 := Tryz.zeroValue21
  t31 := Tryz.underlying46
  a31 := Tryz.isAgg46
  z31 := Tryz.sizeOf46
  v31 := Tryz.zeroValue46
  t40 := Tryz.underlying152
  a40 := Tryz.isAgg152
  z40 := Tryz.sizeOf152
  v40 := Tryz.zeroValue152
  t152 := Tryz.underlying171
  a152 := Tryz.isAgg171
  z152 := Tryz.sizeOf171
  v152 := Tryz.zeroValue171
  t154 := Tryz.underlying173
  a154 := Tryz.isAgg173
  z154 := Tryz.sizeOf173
  v154 := Tryz.zeroValue173 }
open Go.RowKit Go.Lib in
theorem Tryz.strings_FieldsFunc_runes (g : Nat) (lb : Array Value) (eg : ∀ args w, (callFunc g args).run Tryz.prog w = .ok (.enter g args) w) (p : Nat → Bool) (s : ByteArray) (w : World) (hs : s.size ≤ 4294967296) (hp : PredAtRunes Tryz.prog g lb p w) :
    Calls Tryz.prog 116 #[.string s, .func (.func g) #[] lb] w fun e w' => ∃ A, e = .returned (.slice (some ⟨A, 0, none⟩) (Lib.goFieldsP p s).length (Lib.goFieldsP p s).length) ∧ w.heap.size ≤ A ∧
      w'.ownsRow w.heap.size 9 1 (.slice (some ⟨A, 0, none⟩) (Lib.goFieldsP p s).length (Lib.goFieldsP p s).length) (Lib.goFieldsP p s).length ((Lib.goFieldsP p s).map Value.string) ∧ Below w.heap.size w w' := Any.strings_FieldsFunc_runes Tryz.lays229 g lb eg p s w hs hp (by kernel_rfl) (by kernel_rfl)
def Tryz.laysNm216_ren : Go.Shelf.Ren := ⟨fun | 16 => 96 | n => n, fun | 24 => 46 | 9 => 9 | 4 => 4 | n => n, fun | n => n⟩
theorem Tryz.laysNm216 : Go.Proofs.Lays2.n16 Tryz.prog Tryz.laysNm216_ren := {
  mixed := by kernel_rfl
  f16 := Tryz.func96.trans (congrArg some (by kernel_rfl))
  t4 := Tryz.underlying4
  a4 := Tryz.isAgg4
  z4 := Tryz.sizeOf4
  v4 := Tryz.zeroValue4
  t9 := Tryz.underlying9
  a9 := Tryz.isAgg9
  z9 := Tryz.sizeOf9
  v9 := Tryz.zeroValue9
  t24 := Tryz.underlying46
  a24 := Tryz.isAgg46
  z24 := Tryz.sizeOf46
  v24 := Tryz.zeroValue46
  i9 := by kernel_rfl }
open Go.RowKit Go.Lib in
theorem Tryz.slices_Clone_string (b off n c : Nat) (zs : List ByteArray) (w : World) (hz : n ≤ zs.length) (hbig : n * 16 ≤ 140737488355328) (hc : ∀ j, j < zs.length → w.cell? ⟨b, off + j, none⟩ = some (.string (zs.getD j ByteArray.empty))) :
    Calls Tryz.prog 96 #[.slice (some ⟨b, off, none⟩) n c] w fun e w' => ∃ v', e = .returned v' ∧ w'.ownsRow w.heap.size 9 1 v' n ((zs.take n).map (Value.string)) ∧ v' ≠ .slice none 0 0 ∧ Below w.heap.size w w' := Any.slices_Clone_string Tryz.laysNm216 b off n c zs w hz hbig hc
open Go.RowKit Go.Lib in
theorem Tryz.slices_Clone_string_nil (n c : Nat) (w : World) :
    Calls Tryz.prog 96 #[.slice none n c] w fun e w' => e = .returned (.slice none 0 0) ∧ w' = w := Any.slices_Clone_string_nil Tryz.laysNm216 n c w
open Go.RowKit Go.Lib in
theorem Tryz.slices_Clone_string_zero (a : Addr) (c : Nat) (w : World) :
    Calls Tryz.prog 96 #[.slice (some a) 0 c] w fun e w' => ∃ v', e = .returned v' ∧ w'.ownsRow w.heap.size 9 1 v' 0 [] ∧ v' ≠ .slice none 0 0 ∧ Below w.heap.size w w' := Any.slices_Clone_string_zero Tryz.laysNm216 a c w
def Tryz.laysValid_ren : Go.Shelf.Ren := ⟨fun | 196 => 85 | 259 => 118 | n => n, fun | 9 => 9 | 4 => 4 | 3 => 3 | 5 => 5 | 12 => 12 | 119 => 150 | 0 => 0 | 46 => 129 | 139 => 156 | 138 => 155 | 53 => 128 | n => n, fun | 3 => 4 | 4 => 5 | n => n⟩
theorem Tryz.laysValid : Go.Proofs.Lays.n196 Tryz.prog Tryz.laysValid_ren := {
  mixed := by kernel_rfl
  f196 := Tryz.func85.trans (congrArg some (by kernel_rfl))
  f259 := Tryz.func118.trans (congrArg some (by kernel_rfl))
  t0 := Tryz.underlying0
  a0 := Tryz.isAgg0
  z0 := Tryz.sizeOf0
  v0 := Tryz.zeroValue0
  t3 := Tryz.underlying3
  a3 := Tryz.isAgg3
  z3 := Tryz.sizeOf3
  v3 := Tryz.zeroValue3
  t4 := Tryz.underlying4
  a4 := Tryz.isAgg4
  z4 := Tryz.sizeOf4
  v4 := Tryz.zeroValue4
  t5 := Tryz.underlying5
  a5 := Tryz.isAgg5
  z5 := Tryz.sizeOf5
  v5 := Tryz.zeroValue5
  t9 := Tryz.underlying9
  a9 := Tryz.isAgg9
  z9 := Tryz.sizeOf9
  v9 := Tryz.zeroValue9
  t12 := Tryz.underlying12
  a12 := Tryz.isAgg12
  z12 := Tryz.sizeOf12
  v12 := Tryz.zeroValue12
  t46 := Tryz.underlying129
  a46 := Tryz.isAgg129
  z46 := Tryz.sizeOf129
  v46 := Tryz.zeroValue129
  t53 := Tryz.underlying128
  a53 := Tryz.isAgg128
  z53 := Tryz.sizeOf128
  v53 := Tryz.zeroValue128
  t119 := Tryz.underlying150
  a119 := Tryz.isAgg150
  z119 := Tryz.sizeOf150
  t138 := Tryz.underlying155
  a138 := Tryz.isAgg155
  z138 := Tryz.sizeOf155
  v138 := Tryz.zeroValue155
  t139 := Tryz.underlying156
  a139 := Tryz.isAgg156
  z139 := Tryz.sizeOf156
  v139 := Tryz.zeroValue156
  g3 := by kernel_rfl
  g4 := by kernel_rfl }
end Go.Proofs
