/- Contracts of the library that the walks lean on, laid at this program. -/
import Derived.Shelf.Strings.Builder1
import Derived.Shelf.Strings.Builder2
import Derived.Shelf.Strings.OnBuilder
import Derived.Shelf.Small.Bits
import Derived.Shelf.Small.Strs
import Derived.Shelf.Small.Wraps
import Derived.Shelf.Strings.BuilderF
import Derived.Shelf.Strings.BuilderK
import Derived.Shelf.Utf8.RuneCount
import Derived.Shelf.Strings.Builder2Cap
import Derived.Shelf.Strconv.Atoi
import Derived.Shelf.Strconv.Itoa0
import Derived.Shelf.Strconv.Itoa1
import Derived.Shelf.LaysM
import Derived.Shelf.Strconv.Itoa2
import Derived.Shelf.Strconv.Itoa3
import Derived.Shelf.Strconv.AtoiErrFast
import Derived.Shelf.Strconv.ParseIntEmpty
import Derived.Shelf.Strconv.AtoiFail
import Derived.Shelf.Strconv.Clone
import Derived.Shelf.Strconv.SyntaxError
import Derived.Shelf.LaysC
import Derived.Shelf.Strconv.ToError
import Derived.Shelf.Strconv.Lower
import Derived.Shelf.Strconv.ParseUint10
import Derived.Shelf.Strconv.ParseUint10Empty
import Derived.Shelf.Strconv.ParseUint10Any
import Derived.Shelf.Strconv.ParseInt10
import Derived.Shelf.Strconv.AtoiLong
import Derived.Shelf.Strconv.AtoiInnerAll
import Derived.Shelf.Strconv.RangeError
import Derived.Shelf.Strconv.ToErrorRange
import Derived.Shelf.Strconv.AtoiAll
import Derived.Shelf.Strconv.ErrVarAll
import Derived.Shelf.Strconv.ParseUintEmpty
import Derived.Shelf.Strconv.ParseUint10b64
import Derived.Shelf.Strconv.ParseUint10b32
import Derived.Shelf.Strconv.ParseUint10b16
import Derived.Shelf.Strconv.ParseUint10b8
import Derived.Shelf.Strconv.ParseUint10At
import Derived.Shelf.Strconv.ParseInt10At64
import Derived.Shelf.Strconv.ParseInt10At32
import Derived.Shelf.Strconv.ParseInt10At16
import Derived.Shelf.Strconv.ParseInt10At8
import Derived.Shelf.Strconv.ParseInt10All
import Derived.Shelf.Strings.Search1
import Derived.Shelf.Strings.Search2
import Derived.Shelf.Strings.Search3
import Derived.Shelf.Strings.Count
import Derived.Shelf.Strings.Shaped
import Derived.Shelf.Strings.Prefix
import Derived.Shelf.Strings.Split
import Derived.Shelf.Strings.Fields
import Derived.Shelf.Strings.SplitShaped
import Derived.Shelf.Unicode.Latin
import Derived.Shelf.Unicode.Decode
import Derived.Shelf.Strings.RuneCount
import Derived.Shelf.Strings.Explode
import Derived.Shelf.Unicode.DecodeSlow
import Derived.Shelf.Unicode.DecodeAny
import Derived.Shelf.Unicode.Is16White
import Derived.Shelf.Unicode.IsSpaceAny
import Derived.Shelf.Strings.FieldsFuncAny
import Derived.Shelf.Unicode.Is16Any
import Derived.Shelf.Unicode.Is32Any
import Derived.Shelf.Unicode.ExclAny
import Derived.Shelf.Strings.BuilderCap
import Derived.Ground.Names2Prog
import Derived.Shelf.Slices.Clone
import Derived.Ground.SlgnProg
import Derived.Shelf.SlicesE.Clone
import Derived.Test.YtkglejfkfeahcaaGreatDoorProg
import Derived.Shelf.Unicode.ValidAny
namespace Go.Proofs
open Go.Shelf
def Tryz.lays169_ren : Go.Shelf.Ren := ⟨fun | 169 => 48 | n => n, fun | 70 => 82 | 9 => 9 | 0 => 0 | 72 => 84 | 37 => 22 | 127 => 110 | 3 => 3 | 5 => 5 | n => n, fun | n => n⟩
theorem Tryz.lays169 : Go.Proofs.Lays.n169 Tryz.prog Tryz.lays169_ren := {
  mixed := by kernel_rfl
  f169 := Tryz.func48.trans (congrArg some (by kernel_rfl))
  t0 := Tryz.underlying0
  a0 := Tryz.isAgg0
  z0 := Tryz.sizeOf0
  v0 := Tryz.zeroValue0
  t3 := Tryz.underlying3
  a3 := Tryz.isAgg3
  z3 := Tryz.sizeOf3
  v3 := Tryz.zeroValue3
  t9 := Tryz.underlying9
  a9 := Tryz.isAgg9
  z9 := Tryz.sizeOf9
  v9 := Tryz.zeroValue9
  t37 := Tryz.underlying22
  a37 := Tryz.isAgg22
  z37 := Tryz.sizeOf22
  v37 := Tryz.zeroValue22
  t70 := Tryz.underlying82
  a70 := Tryz.isAgg82
  z70 := Tryz.sizeOf82
  v70 := Tryz.zeroValue82
  t72 := Tryz.underlying84
  a72 := Tryz.isAgg84
  z72 := Tryz.sizeOf84
  v72 := Tryz.zeroValue84
  t127 := Tryz.underlying110
  a127 := Tryz.isAgg110
  z127 := Tryz.sizeOf110
  v127 := Tryz.zeroValue110 }
theorem Tryz.Builder_Extra_169 : Builder.Extra Tryz.prog Tryz.lays169_ren := {
  sizeBuilder := by kernel_rfl
  liesBuilder := by kernel_rfl
  t5 := Tryz.underlying5
  a5 := Tryz.isAgg5
  z5 := Tryz.sizeOf5
  v5 := Tryz.zeroValue5
  infoByte := by kernel_rfl
  cellsByte := by kernel_rfl
  sizeByte := by kernel_rfl
  neB5 := by decide }
open Go.RowKit in
theorem Tryz.Builder_String_any (B b : Nat) (l : List UInt8) (w : World) (h : Lib.IsBuilder 84 5 B b (Lib.byteCells l) w) (hBw : B ≤ w.heap.size) :
    Calls Tryz.prog 48 #[.pointer (some ⟨b, 0, none⟩)] w fun e w' => e = .returned (.string ⟨l.toArray⟩) ∧ Below B w w' := Any.Builder_String_any Tryz.lays169 Tryz.Builder_Extra_169 B b l w h hBw
def Tryz.lays165_ren : Go.Shelf.Ren := ⟨fun | 165 => 49 | 240 => 71 | 241 => 72 | 276 => 87 | 277 => 88 | n => n, fun | 70 => 82 | 3 => 3 | 0 => 0 | 4 => 4 | 9 => 9 | 20 => 20 | 72 => 84 | 37 => 22 | 164 => 130 | 5 => 5 | n => n, fun | n => n⟩
theorem Tryz.lays165 : Go.Proofs.Lays.n165 Tryz.prog Tryz.lays165_ren := {
  mixed := by kernel_rfl
  f165 := Tryz.func49.trans (congrArg some (by kernel_rfl))
  f240 := Tryz.func71.trans (congrArg some (by kernel_rfl))
  f241 := Tryz.func72.trans (congrArg some (by kernel_rfl))
  f276 := Tryz.func87.trans (congrArg some (by kernel_rfl))
  f277 := Tryz.func88.trans (congrArg some (by kernel_rfl))
  t0 := Tryz.underlying0
  a0 := Tryz.isAgg0
  z0 := Tryz.sizeOf0
  v0 := Tryz.zeroValue0
  t3 := Tryz.underlying3
  a3 := Tryz.isAgg3
  z3 := Tryz.sizeOf3
  v3 := Tryz.zeroValue3
  t4 := Tryz.underlying4
  a4 := Tryz.isAgg4
  z4 := Tryz.sizeOf4
  v4 := Tryz.zeroValue4
  t9 := Tryz.underlying9
  a9 := Tryz.isAgg9
  z9 := Tryz.sizeOf9
  v9 := Tryz.zeroValue9
  t20 := Tryz.underlying20
  a20 := Tryz.isAgg20
  z20 := Tryz.sizeOf20
  v20 := Tryz.zeroValue20
  t37 := Tryz.underlying22
  a37 := Tryz.isAgg22
  z37 := Tryz.sizeOf22
  v37 := Tryz.zeroValue22
  t70 := Tryz.underlying82
  a70 := Tryz.isAgg82
  z70 := Tryz.sizeOf82
  v70 := Tryz.zeroValue82
  t72 := Tryz.underlying84
  a72 := Tryz.isAgg84
  z72 := Tryz.sizeOf84
  v72 := Tryz.zeroValue84
  t164 := Tryz.underlying130
  a164 := Tryz.isAgg130
  z164 := Tryz.sizeOf130
  v164 := Tryz.zeroValue130 }
theorem Tryz.Builder_Extra_165 : Builder.Extra Tryz.prog Tryz.lays165_ren := {
  sizeBuilder := by kernel_rfl
  liesBuilder := by kernel_rfl
  t5 := Tryz.underlying5
  a5 := Tryz.isAgg5
  z5 := Tryz.sizeOf5
  v5 := Tryz.zeroValue5
  infoByte := by kernel_rfl
  cellsByte := by kernel_rfl
  sizeByte := by kernel_rfl
  neB5 := by decide }
open Go.RowKit in
theorem Tryz.Builder_Grow_fresh (B b n : Nat) (w : World) (hB : B ≤ b) (hbk : w.heap[b]? = some (.cells #[.pointer none, .slice none 0 0] 84 (0, 0))) (hBw : B ≤ w.heap.size) (hn : n ≤ 281474976710656) :
    Calls Tryz.prog 49 #[.pointer (some ⟨b, 0, none⟩), .int .i64 n] w fun e w' => e = .returned (.tuple #[]) ∧ (Lib.BuilderAt 84 5 B b (.pointer (some ⟨b, 0, none⟩)) [] w' ∧ Below B w w') := Any.Builder_Grow_fresh Tryz.lays165 Tryz.Builder_Extra_165 B b n w hB hbk hBw hn
def Tryz.lays106_ren : Go.Shelf.Ren := ⟨fun | 106 => 24 | 213 => 42 | 265 => 66 | n => n, fun | 9 => 9 | 3 => 3 | n => n, fun | n => n⟩
theorem Tryz.lays106 : Go.Proofs.Lays.n106 Tryz.prog Tryz.lays106_ren := {
  mixed := by kernel_rfl
  f106 := Tryz.func24.trans (congrArg some (by kernel_rfl))
  f213 := Tryz.func42.trans (congrArg some (by kernel_rfl))
  f265 := Tryz.func66.trans (congrArg some (by kernel_rfl))
  t3 := Tryz.underlying3
  a3 := Tryz.isAgg3
  z3 := Tryz.sizeOf3
  v3 := Tryz.zeroValue3
  t9 := Tryz.underlying9
  a9 := Tryz.isAgg9
  z9 := Tryz.sizeOf9
  v9 := Tryz.zeroValue9 }
open Go.RowKit in
theorem Tryz.strings_Compare (a b : ByteArray) (w : World) :
    Calls Tryz.prog 24 #[.string a, .string b] w fun e w' => e = .returned (.int .i64 (Lib.compareBytes a.data.toList b.data.toList)) ∧ w' = w := Any.strings_Compare Tryz.lays106 a b w
def Tryz.lays103_ren : Go.Shelf.Ren := ⟨fun | 103 => 98 | 210 => 103 | 206 => 110 | n => n, fun | 9 => 9 | 4 => 4 | 24 => 157 | 3 => 3 | n => n, fun | n => n⟩
theorem Tryz.lays103 : Go.Proofs.Lays.n103 Tryz.prog Tryz.lays103_ren := {
  mixed := by kernel_rfl
  f103 := Tryz.func98.trans (congrArg some (by kernel_rfl))
  f206 := Tryz.func110.trans (congrArg some (by kernel_rfl))
  f210 := Tryz.func103.trans (congrArg some (by kernel_rfl))
  t3 := Tryz.underlying3
  a3 := Tryz.isAgg3
  z3 := Tryz.sizeOf3
  v3 := Tryz.zeroValue3
  t4 := Tryz.underlying4
  a4 := Tryz.isAgg4
  z4 := Tryz.sizeOf4
  v4 := Tryz.zeroValue4
  t9 := Tryz.underlying9
  a9 := Tryz.isAgg9
  z9 := Tryz.sizeOf9
  v9 := Tryz.zeroValue9
  t24 := Tryz.underlying157
  a24 := Tryz.isAgg157
  z24 := Tryz.sizeOf157
  v24 := Tryz.zeroValue157 }
open Go.RowKit in
theorem Tryz.strings_CutPrefix (s p : ByteArray) (w : World) :
    Calls Tryz.prog 98 #[.string s, .string p] w fun e w' => e = .returned (.tuple #[.string ⟨(Lib.trimPrefix s.data.toList p.data.toList).toArray⟩, .bool (Lib.hasPrefix s.data.toList p.data.toList)]) ∧ w' = w := Any.strings_CutPrefix Tryz.lays103 s p w
open Go.RowKit in
theorem Tryz.Builder_String_any_f (B b : Nat) (l : List UInt8) (w : World) (h : Lib.IsBuilderF 84 5 B b (Lib.byteCells l) w) (hBw : B ≤ w.heap.size) :
    Calls Tryz.prog 48 #[.pointer (some ⟨b, 0, none⟩)] w fun e w' => e = .returned (.string ⟨l.toArray⟩) ∧ (Lib.IsBuilderF 84 5 B b (Lib.byteCells l) w' ∧ Below B w w') := Any.Builder_String_any_f Tryz.lays169 Tryz.Builder_Extra_169 B b l w h hBw
def Tryz.laysM171_ren : Go.Shelf.Ren := ⟨fun | 171 => 124 | 243 => 129 | 246 => 130 | 283 => 131 | 284 => 132 | 285 => 133 | 286 => 134 | 129 => 65 | 317 => 135 | 318 => 136 | 319 => 137 | 320 => 138 | 337 => 139 | 338 => 140 | n => n, fun | 3 => 3 | 9 => 9 | 2 => 2 | 4 => 4 | 171 => 188 | 0 => 0 | 53 => 108 | 37 => 22 | 5 => 5 | 173 => 190 | 212 => 193 | 51 => 106 | 20 => 20 | 213 => 194 | 46 => 80 | 232 => 196 | 233 => 197 | n => n, fun | 17 => 10 | 18 => 11 | 19 => 12 | n => n⟩
theorem Tryz.laysM171 : Go.Proofs.LaysM.n171 Tryz.prog Tryz.laysM171_ren := {
  mixed := by kernel_rfl
  f129 := Tryz.func65.trans (congrArg some (by kernel_rfl))
  f171 := Tryz.func124.trans (congrArg some (by kernel_rfl))
  f243 := Tryz.func129.trans (congrArg some (by kernel_rfl))
  f246 := Tryz.func130.trans (congrArg some (by kernel_rfl))
  f283 := Tryz.func131.trans (congrArg some (by kernel_rfl))
  f284 := Tryz.func132.trans (congrArg some (by kernel_rfl))
  f285 := Tryz.func133.trans (congrArg some (by kernel_rfl))
  f286 := Tryz.func134.trans (congrArg some (by kernel_rfl))
  f317 := Tryz.func135.trans (congrArg some (by kernel_rfl))
  f318 := Tryz.func136.trans (congrArg some (by kernel_rfl))
  f319 := Tryz.func137.trans (congrArg some (by kernel_rfl))
  f320 := Tryz.func138.trans (congrArg some (by kernel_rfl))
  f337 := Tryz.func139.trans (congrArg some (by kernel_rfl))
  f338 := Tryz.func140.trans (congrArg some (by kernel_rfl))
  t0 := Tryz.underlying0
  a0 := Tryz.isAgg0
  z0 := Tryz.sizeOf0
  v0 := Tryz.zeroValue0
  t2 := Tryz.underlying2
  a2 := Tryz.isAgg2
  z2 := Tryz.sizeOf2
  v2 := Tryz.zeroValue2
  t3 := Tryz.underlying3
  a3 := Tryz.isAgg3
  z3 := Tryz.sizeOf3
  v3 := Tryz.zeroValue3
  t4 := Tryz.underlying4
  a4 := Tryz.isAgg4
  z4 := Tryz.sizeOf4
  v4 := Tryz.zeroValue4
  t5 := Tryz.underlying5
  a5 := Tryz.isAgg5
  z5 := Tryz.sizeOf5
  v5 := Tryz.zeroValue5
  t9 := Tryz.underlying9
  a9 := Tryz.isAgg9
  z9 := Tryz.sizeOf9
  v9 := Tryz.zeroValue9
  t20 := Tryz.underlying20
  a20 := Tryz.isAgg20
  z20 := Tryz.sizeOf20
  v20 := Tryz.zeroValue20
  t37 := Tryz.underlying22
  a37 := Tryz.isAgg22
  z37 := Tryz.sizeOf22
  v37 := Tryz.zeroValue22
  t46 := Tryz.underlying80
  a46 := Tryz.isAgg80
  z46 := Tryz.sizeOf80
  v46 := Tryz.zeroValue80
  t51 := Tryz.underlying106
  a51 := Tryz.isAgg106
  z51 := Tryz.sizeOf106
  v51 := Tryz.zeroValue106
  t53 := Tryz.underlying108
  a53 := Tryz.isAgg108
  z53 := Tryz.sizeOf108
  v53 := Tryz.zeroValue108
  t171 := Tryz.underlying188
  a171 := Tryz.isAgg188
  z171 := Tryz.sizeOf188
  v171 := Tryz.zeroValue188
  t173 := Tryz.underlying190
  a173 := Tryz.isAgg190
  z173 := Tryz.sizeOf190
  v173 := Tryz.zeroValue190
  t212 := Tryz.underlying193
  a212 := Tryz.isAgg193
  z212 := Tryz.sizeOf193
  v212 := Tryz.zeroValue193
  t213 := Tryz.underlying194
  a213 := Tryz.isAgg194
  z213 := Tryz.sizeOf194
  t232 := Tryz.underlying196
  a232 := Tryz.isAgg196
  z232 := Tryz.sizeOf196
  v232 := Tryz.zeroValue196
  t233 := Tryz.underlying197
  a233 := Tryz.isAgg197
  z233 := Tryz.sizeOf197
  v233 := Tryz.zeroValue197
  g17 := by kernel_rfl
  g18 := by kernel_rfl
  g19 := by kernel_rfl
  i0 := by kernel_rfl
  i2 := by kernel_rfl
  i3 := by kernel_rfl
  i4 := by kernel_rfl
  i5 := by kernel_rfl
  i9 := by kernel_rfl
  i20 := by kernel_rfl
  i37 := by kernel_rfl
  i46 := by kernel_rfl
  i51 := by kernel_rfl
  i53 := by kernel_rfl
  i171 := by kernel_rfl
  i173 := by kernel_rfl
  i212 := by kernel_rfl
  i232 := by kernel_rfl
  i233 := by kernel_rfl
  m17 := by kernel_rfl
  m18 := by kernel_rfl
  m19 := by kernel_rfl }
open Go.RowKit Go.Sort Go.Lib in
theorem Tryz.strconv_Itoa (n : Int) (h0 : -9223372036854775808 ≤ n) (h1 : n ≤ 9223372036854775807) (w : World) (htab : Lib.TabIs Tryz.prog w "internal/strconv.uint64pow10" .u64 Lib.pow10Tab) :
    Calls Tryz.prog 124 #[.int .i64 n] w fun e w' => e = .returned (.string ⟨(Lib.itoa n).toArray⟩) ∧ ∃ k os, w' = grow (w.drewN k) os := Any.strconv_Itoa Tryz.laysM171 n h0 h1 w htab
def Tryz.laysC172_ren : Go.Shelf.Ren := ⟨fun | 172 => 99 | 244 => 104 | 245 => 105 | 247 => 111 | 279 => 112 | 280 => 113 | 281 => 114 | 282 => 115 | 287 => 121 | 316 => 122 | 171 => 124 | 205 => 123 | 321 => 127 | 322 => 128 | 243 => 129 | 246 => 130 | 283 => 131 | 284 => 132 | 285 => 133 | 286 => 134 | 129 => 65 | 317 => 135 | 318 => 136 | 319 => 137 | 320 => 138 | 337 => 139 | 338 => 140 | n => n, fun | 9 => 9 | 3 => 3 | 75 => 86 | 76 => 89 | 4 => 4 | 5 => 5 | 167 => 168 | 37 => 22 | 0 => 0 | 85 => 169 | 2 => 2 | 168 => 171 | 53 => 108 | 175 => 174 | 46 => 80 | 210 => 178 | 127 => 110 | 145 => 186 | 143 => 184 | 21 => 21 | 171 => 188 | 173 => 190 | 212 => 193 | 51 => 106 | 20 => 20 | 213 => 194 | 232 => 196 | 233 => 197 | 80 => 49 | n => n, fun | 15 => 8 | 16 => 9 | 17 => 10 | 18 => 11 | 19 => 12 | n => n⟩
theorem Tryz.laysC172 : Go.Proofs.LaysC.n172 Tryz.prog Tryz.laysC172_ren := {
  mixed := by kernel_rfl
  f129 := Tryz.func65.trans (congrArg some (by kernel_rfl))
  f171 := Tryz.func124.trans (congrArg some (by kernel_rfl))
  f172 := Tryz.func99.trans (congrArg some (by kernel_rfl))
  f205 := Tryz.func123.trans (congrArg some (by kernel_rfl))
  f243 := Tryz.func129.trans (congrArg some (by kernel_rfl))
  f244 := Tryz.func104.trans (congrArg some (by kernel_rfl))
  f245 := Tryz.func105.trans (congrArg some (by kernel_rfl))
  f246 := Tryz.func130.trans (congrArg some (by kernel_rfl))
  f247 := Tryz.func111.trans (congrArg some (by kernel_rfl))
  f279 := Tryz.func112.trans (congrArg some (by kernel_rfl))
  f280 := Tryz.func113.trans (congrArg some (by kernel_rfl))
  f281 := Tryz.func114.trans (congrArg some (by kernel_rfl))
  f282 := Tryz.func115.trans (congrArg some (by kernel_rfl))
  f283 := Tryz.func131.trans (congrArg some (by kernel_rfl))
  f284 := Tryz.func132.trans (congrArg some (by kernel_rfl))
  f285 := Tryz.func133.trans (congrArg some (by kernel_rfl))
  f286 := Tryz.func134.trans (congrArg some (by kernel_rfl))
  f287 := Tryz.func121.trans (congrArg some (by kernel_rfl))
  f316 := Tryz.func122.trans (congrArg some (by kernel_rfl))
  f317 := Tryz.func135.trans (congrArg some (by kernel_rfl))
  f318 := Tryz.func136.trans (congrArg some (by kernel_rfl))
  f319 := Tryz.func137.trans (congrArg some (by kernel_rfl))
  f320 := Tryz.func138.trans (congrArg some (by kernel_rfl))
  f321 := Tryz.func127.trans (congrArg some (by kernel_rfl))
  f322 := Tryz.func128.trans (congrArg some (by kernel_rfl))
  f337 := Tryz.func139.trans (congrArg some (by kernel_rfl))
  f338 := Tryz.func140.trans (congrArg some (by kernel_rfl))
  t0 := Tryz.underlying0
  a0 := Tryz.isAgg0
  z0 := Tryz.sizeOf0
  v0 := Tryz.zeroValue0
  t2 := Tryz.underlying2
  a2 := Tryz.isAgg2
  z2 := Tryz.sizeOf2
  v2 := Tryz.zeroValue2
  t3 := Tryz.underlying3
  a3 := Tryz.isAgg3
  z3 := Tryz.sizeOf3
  v3 := Tryz.zeroValue3
  t4 := Tryz.underlying4
  a4 := Tryz.isAgg4
  z4 := Tryz.sizeOf4
  v4 := Tryz.zeroValue4
  t5 := Tryz.underlying5
  a5 := Tryz.isAgg5
  z5 := Tryz.sizeOf5
  v5 := Tryz.zeroValue5
  t9 := Tryz.underlying9
  a9 := Tryz.isAgg9
  z9 := Tryz.sizeOf9
  v9 := Tryz.zeroValue9
  t20 := Tryz.underlying20
  a20 := Tryz.isAgg20
  z20 := Tryz.sizeOf20
  v20 := Tryz.zeroValue20
  t21 := Tryz.underlying21
  a21 := Tryz.isAgg21
  z21 := Tryz.sizeOf21
  v21 := Tryz.zeroValue21
  t37 := Tryz.underlying22
  a37 := Tryz.isAgg22
  z37 := Tryz.sizeOf22
  v37 := Tryz.zeroValue22
  t46 := Tryz.underlying80
  a46 := Tryz.isAgg80
  z46 := Tryz.sizeOf80
  v46 := Tryz.zeroValue80
  t51 := Tryz.underlying106
  a51 := Tryz.isAgg106
  z51 := Tryz.sizeOf106
  v51 := Tryz.zeroValue106
  t53 := Tryz.underlying108
  a53 := Tryz.isAgg108
  z53 := Tryz.sizeOf108
  v53 := Tryz.zeroValue108
  t75 := Tryz.underlying86
  a75 := Tryz.isAgg86
  z75 := Tryz.sizeOf86
  v75 := Tryz.zeroValue86
  t76 := Tryz.underlying89
  a76 := Tryz.isAgg89
  z76 := Tryz.sizeOf89
  v76 := Tryz.zeroValue89
  t85 := Tryz.underlying169
  a85 := Tryz.isAgg169
  z85 := Tryz.sizeOf169
  v85 := Tryz.zeroValue169
  t127 := Tryz.underlying110
  a127 := Tryz.isAgg110
  z127 := Tryz.sizeOf110
  v127 := Tryz.zeroValue110
  t143 := Tryz.underlying184
  a143 := Tryz.isAgg184
  z143 := Tryz.sizeOf184
  v143 := Tryz.zeroValue184
  t145 := Tryz.underlying186
  a145 := Tryz.isAgg186
  z145 := Tryz.sizeOf186
  v145 := Tryz.zeroValue186
  t167 := Tryz.underlying168
  a167 := Tryz.isAgg168
  z167 := Tryz.sizeOf168
  v167 := Tryz.zeroValue168
  t168 := Tryz.underlying171
  a168 := Tryz.isAgg171
  z168 := Tryz.sizeOf171
  v168 := Tryz.zeroValue171
  t171 := Tryz.underlying188
  a171 := Tryz.isAgg188
  z171 := Tryz.sizeOf188
  v171 := Tryz.zeroValue188
  t173 := Tryz.underlying190
  a173 := Tryz.isAgg190
  z173 := Tryz.sizeOf190
  v173 := Tryz.zeroValue190
  t175 := Tryz.underlying174
  a175 := Tryz.isAgg174
  z175 := Tryz.sizeOf174
  v175 := Tryz.zeroValue174
  t210 := Tryz.underlying178
  a210 := Tryz.isAgg178
  z210 := Tryz.sizeOf178
  v210 := Tryz.zeroValue178
  t212 := Tryz.underlying193
  a212 := Tryz.isAgg193
  z212 := Tryz.sizeOf193
  v212 := Tryz.zeroValue193
  t213 := Tryz.underlying194
  a213 := Tryz.isAgg194
  z213 := Tryz.sizeOf194
  t232 := Tryz.underlying196
  a232 := Tryz.isAgg196
  z232 := Tryz.sizeOf196
  v232 := Tryz.zeroValue196
  t233 := Tryz.underlying197
  a233 := Tryz.isAgg197
  z233 := Tryz.sizeOf197
  v233 := Tryz.zeroValue197
  g15 := by kernel_rfl
  g16 := by kernel_rfl
  g17 := by kernel_rfl
  g18 := by kernel_rfl
  g19 := by kernel_rfl
  t80 := Tryz.underlying49
  a80 := Tryz.isAgg49
  z80 := Tryz.sizeOf49
  v80 := Tryz.zeroValue49
  i0 := by kernel_rfl
  i2 := by kernel_rfl
  i3 := by kernel_rfl
  i4 := by kernel_rfl
  i5 := by kernel_rfl
  i9 := by kernel_rfl
  i20 := by kernel_rfl
  i21 := by kernel_rfl
  i37 := by kernel_rfl
  i46 := by kernel_rfl
  i51 := by kernel_rfl
  i53 := by kernel_rfl
  i75 := by kernel_rfl
  i76 := by kernel_rfl
  i80 := by kernel_rfl
  i85 := by kernel_rfl
  i127 := by kernel_rfl
  i143 := by kernel_rfl
  i145 := by kernel_rfl
  i167 := by kernel_rfl
  i168 := by kernel_rfl
  i171 := by kernel_rfl
  i173 := by kernel_rfl
  i175 := by kernel_rfl
  i210 := by kernel_rfl
  i212 := by kernel_rfl
  i232 := by kernel_rfl
  i233 := by kernel_rfl
  m15 := by kernel_rfl
  m16 := by kernel_rfl
  m17 := by kernel_rfl
  m18 := by kernel_rfl
  m19 := by kernel_rfl
  c0 := by kernel_rfl
  c2 := by kernel_rfl
  c3 := by kernel_rfl
  c4 := by kernel_rfl
  c5 := by kernel_rfl
  c9 := by kernel_rfl
  c20 := by kernel_rfl
  c21 := by kernel_rfl
  c37 := by kernel_rfl
  c46 := by kernel_rfl
  c51 := by kernel_rfl
  c53 := by kernel_rfl
  c75 := by kernel_rfl
  c76 := by kernel_rfl
  c80 := by kernel_rfl
  c85 := by kernel_rfl
  c127 := by kernel_rfl
  c143 := by kernel_rfl
  c145 := by kernel_rfl
  c167 := by kernel_rfl
  c168 := by kernel_rfl
  c171 := by kernel_rfl
  c173 := by kernel_rfl
  c175 := by kernel_rfl
  c210 := by kernel_rfl
  c212 := by kernel_rfl
  c213 := by kernel_rfl
  c232 := by kernel_rfl
  c233 := by kernel_rfl }
open Go.RowKit in
theorem Tryz.strconv_Atoi_ok (s : ByteArray) (hmax : s.size ≤ 9223372036854775806) (v : Int) (h : Lib.atoiAll s.data.toList = .ok v) (w : World) :
    Calls Tryz.prog 99 #[.string s] w fun e w' => e = .returned (.tuple #[.int .i64 v, .nilIface]) ∧ (w' = w ∨ ∃ t, w' = Lib.bytesWorld w 5 t) := Any.strconv_Atoi_ok Tryz.laysC172 s hmax v h w
open Go.RowKit in
theorem Tryz.strconv_Atoi_range_var (s : ByteArray) (hlim : s.size ≤ 281474976710656) (h : Lib.atoiAll s.data.toList = .range) (tp : TypeId) (p : Value) (w : World) (hvar : w.var? Tryz.prog "strconv.ErrRange" = some #[.iface tp p]) :
    Calls Tryz.prog 99 #[.string s] w fun e w' => ∃ N, e = .returned (.tuple #[.int .i64 (Lib.atoiSat s.data.toList), .iface 171 (.pointer (some ⟨N, 0, none⟩))]) ∧ w.heap.size ≤ N ∧ w'.heap[N]? = some (.cells #[.string ⟨#[65, 116, 111, 105]⟩, .string s, .iface tp p] 178 (0, 0)) ∧ Below w.heap.size w w' := Any.strconv_Atoi_range_var Tryz.laysC172 s hlim h tp p w hvar
def Tryz.lays146_ren : Go.Shelf.Ren := ⟨fun | 146 => 90 | 221 => 97 | 268 => 100 | 138 => 101 | 143 => 102 | 195 => 106 | 197 => 107 | 218 => 108 | 219 => 109 | 260 => 116 | 217 => 117 | 225 => 118 | 224 => 119 | 267 => 120 | 266 => 125 | 314 => 126 | n => n, fun | 9 => 9 | 31 => 50 | 3 => 3 | 4 => 4 | 0 => 0 | 105 => 164 | 21 => 21 | 5 => 5 | 46 => 80 | 119 => 111 | 139 => 117 | 138 => 116 | 146 => 181 | 51 => 106 | n => n, fun | 1 => 3 | 3 => 5 | 4 => 6 | n => n⟩
theorem Tryz.lays146 : Go.Proofs.Lays.n146 Tryz.prog Tryz.lays146_ren := {
  mixed := by kernel_rfl
  f138 := Tryz.func101.trans (congrArg some (by kernel_rfl))
  f143 := Tryz.func102.trans (congrArg some (by kernel_rfl))
  f146 := Tryz.func90.trans (congrArg some (by kernel_rfl))
  f195 := Tryz.func106.trans (congrArg some (by kernel_rfl))
  f197 := Tryz.func107.trans (congrArg some (by kernel_rfl))
  f217 := Tryz.func117.trans (congrArg some (by kernel_rfl))
  f218 := Tryz.func108.trans (congrArg some (by kernel_rfl))
  f219 := Tryz.func109.trans (congrArg some (by kernel_rfl))
  f221 := Tryz.func97.trans (congrArg some (by kernel_rfl))
  f224 := Tryz.func119.trans (congrArg some (by kernel_rfl))
  f225 := Tryz.func118.trans (congrArg some (by kernel_rfl))
  f260 := Tryz.func116.trans (congrArg some (by kernel_rfl))
  f266 := Tryz.func125.trans (congrArg some (by kernel_rfl))
  f267 := Tryz.func120.trans (congrArg some (by kernel_rfl))
  f268 := Tryz.func100.trans (congrArg some (by kernel_rfl))
  f314 := Tryz.func126.trans (congrArg some (by kernel_rfl))
  t0 := Tryz.underlying0
  a0 := Tryz.isAgg0
  z0 := Tryz.sizeOf0
  v0 := Tryz.zeroValue0
  t3 := Tryz.underlying3
  a3 := Tryz.isAgg3
  z3 := Tryz.sizeOf3
  v3 := Tryz.zeroValue3
  t4 := Tryz.underlying4
  a4 := Tryz.isAgg4
  z4 := Tryz.sizeOf4
  v4 := Tryz.zeroValue4
  t5 := Tryz.underlying5
  a5 := Tryz.isAgg5
  z5 := Tryz.sizeOf5
  v5 := Tryz.zeroValue5
  t9 := Tryz.underlying9
  a9 := Tryz.isAgg9
  z9 := Tryz.sizeOf9
  v9 := Tryz.zeroValue9
  t21 := Tryz.underlying21
  a21 := Tryz.isAgg21
  z21 := Tryz.sizeOf21
  v21 := Tryz.zeroValue21
  t31 := Tryz.underlying50
  a31 := Tryz.isAgg50
  z31 := Tryz.sizeOf50
  v31 := Tryz.zeroValue50
  t46 := Tryz.underlying80
  a46 := Tryz.isAgg80
  z46 := Tryz.sizeOf80
  v46 := Tryz.zeroValue80
  t51 := Tryz.underlying106
  a51 := Tryz.isAgg106
  z51 := Tryz.sizeOf106
  v51 := Tryz.zeroValue106
  t105 := Tryz.underlying164
  a105 := Tryz.isAgg164
  z105 := Tryz.sizeOf164
  v105 := Tryz.zeroValue164
  t119 := Tryz.underlying111
  a119 := Tryz.isAgg111
  z119 := Tryz.sizeOf111
  t138 := Tryz.underlying116
  a138 := Tryz.isAgg116
  z138 := Tryz.sizeOf116
  v138 := Tryz.zeroValue116
  t139 := Tryz.underlying117
  a139 := Tryz.isAgg117
  z139 := Tryz.sizeOf117
  v139 := Tryz.zeroValue117
  t146 := Tryz.underlying181
  a146 := Tryz.isAgg181
  z146 := Tryz.sizeOf181
  v146 := Tryz.zeroValue181
  g1 := by kernel_rfl
  g3 := by kernel_rfl
  g4 := by kernel_rfl }
open Go.RowKit Go.Lib in
theorem Tryz.strings_Split (s sep : ByteArray) (m : Int) (w : World) (hs : s.size < 4294967281) (hm : w.cell? ⟨3, 0, none⟩ = some (.int .i64 m)) (h1 : 1 ≤ sep.size) :
    Calls Tryz.prog 90 #[.string s, .string sep] w fun e w' =>
      e = .returned (.slice (some ⟨w.heap.size, 0, none⟩) (Lib.countB s sep + 1) (Lib.countB s sep + 1)) ∧ w' = w.alloc (.cells ((Lib.splitB sep 0 (Lib.countB s sep) s).map Value.string).toArray 9) := Any.strings_Split Tryz.lays146 (by kernel_rfl) s sep m w hs hm h1
def Tryz.lays157_ren : Go.Shelf.Ren := ⟨fun | 157 => 51 | 229 => 73 | 199 => 74 | 261 => 89 | 311 => 95 | 312 => 96 | n => n, fun | 9 => 9 | 31 => 50 | 3 => 3 | 5 => 5 | 4 => 4 | 119 => 111 | 0 => 0 | 40 => 113 | 152 => 133 | 21 => 21 | 154 => 135 | 51 => 106 | 141 => 137 | 196 => 148 | 193 => 145 | 198 => 151 | 49 => 149 | 194 => 146 | 201 => 154 | 226 => 159 | 46 => 80 | 227 => 160 | n => n, fun | 0 => 4 | 6 => 7 | n => n⟩
theorem Tryz.lays157 : Go.Proofs.Lays.n157 Tryz.prog Tryz.lays157_ren := {
  mixed := by kernel_rfl
  f157 := Tryz.func51.trans (congrArg some (by kernel_rfl))
  f199 := Tryz.func74.trans (congrArg some (by kernel_rfl))
  f229 := Tryz.func73.trans (congrArg some (by kernel_rfl))
  f261 := Tryz.func89.trans (congrArg some (by kernel_rfl))
  f311 := Tryz.func95.trans (congrArg some (by kernel_rfl))
  f312 := Tryz.func96.trans (congrArg some (by kernel_rfl))
  t0 := Tryz.underlying0
  a0 := Tryz.isAgg0
  z0 := Tryz.sizeOf0
  v0 := Tryz.zeroValue0
  t3 := Tryz.underlying3
  a3 := Tryz.isAgg3
  z3 := Tryz.sizeOf3
  v3 := Tryz.zeroValue3
  t4 := Tryz.underlying4
  a4 := Tryz.isAgg4
  z4 := Tryz.sizeOf4
  v4 := Tryz.zeroValue4
  t5 := Tryz.underlying5
  a5 := Tryz.isAgg5
  z5 := Tryz.sizeOf5
  v5 := Tryz.zeroValue5
  t9 := Tryz.underlying9
  a9 := Tryz.isAgg9
  z9 := Tryz.sizeOf9
  v9 := Tryz.zeroValue9
  t21 := Tryz.underlying21
  a21 := Tryz.isAgg21
  z21 := Tryz.sizeOf21
  v21 := Tryz.zeroValue21
  t31 := Tryz.underlying50
  a31 := Tryz.isAgg50
  z31 := Tryz.sizeOf50
  v31 := Tryz.zeroValue50
  t40 := Tryz.underlying113
  a40 := Tryz.isAgg113
  z40 := Tryz.sizeOf113
  v40 := Tryz.zeroValue113
  t46 := Tryz.underlying80
  a46 := Tryz.isAgg80
  z46 := Tryz.sizeOf80
  v46 := Tryz.zeroValue80
  t49 := Tryz.underlying149
  a49 := Tryz.isAgg149
  z49 := Tryz.sizeOf149
  v49 := Tryz.zeroValue149
  t51 := Tryz.underlying106
  a51 := Tryz.isAgg106
  z51 := Tryz.sizeOf106
  v51 := Tryz.zeroValue106
  t119 := Tryz.underlying111
  a119 := Tryz.isAgg111
  z119 := Tryz.sizeOf111
  t141 := Tryz.underlying137
  a141 := Tryz.isAgg137
  z141 := Tryz.sizeOf137
  v141 := Tryz.zeroValue137
  t152 := Tryz.underlying133
  a152 := Tryz.isAgg133
  z152 := Tryz.sizeOf133
  v152 := Tryz.zeroValue133
  t154 := Tryz.underlying135
  a154 := Tryz.isAgg135
  z154 := Tryz.sizeOf135
  v154 := Tryz.zeroValue135
  t193 := Tryz.underlying145
  a193 := Tryz.isAgg145
  z193 := Tryz.sizeOf145
  v193 := Tryz.zeroValue145
  t194 := Tryz.underlying146
  a194 := Tryz.isAgg146
  z194 := Tryz.sizeOf146
  v194 := Tryz.zeroValue146
  t196 := Tryz.underlying148
  a196 := Tryz.isAgg148
  z196 := Tryz.sizeOf148
  v196 := Tryz.zeroValue148
  t198 := Tryz.underlying151
  a198 := Tryz.isAgg151
  z198 := Tryz.sizeOf151
  v198 := Tryz.zeroValue151
  t201 := Tryz.underlying154
  a201 := Tryz.isAgg154
  z201 := Tryz.sizeOf154
  v201 := Tryz.zeroValue154
  t226 := Tryz.underlying159
  a226 := Tryz.isAgg159
  z226 := Tryz.sizeOf159
  v226 := Tryz.zeroValue159
  t227 := Tryz.underlying160
  a227 := Tryz.isAgg160
  z227 := Tryz.sizeOf160
  v227 := Tryz.zeroValue160
  g0 := by kernel_rfl
  g6 := by kernel_rfl }
open Go.RowKit Go.Lib in
theorem Tryz.strings_Fields (s : ByteArray) (w : World) (hs : s.size < 4294967281) (hascii : ∀ (j : Nat) b, s.data.toList[j]? = some b → b.toNat < 128) (htab : Lib.TabIs Tryz.prog w "strings.asciiSpace" .u8 Lib.asciiSpaceTab) :
    Calls Tryz.prog 51 #[.string s] w fun e w' =>
      e = .returned (.slice (some ⟨w.heap.size, 0, none⟩) (Lib.fields s.data.toList).length (Lib.fields s.data.toList).length) ∧ w' = w.alloc (.cells ((Lib.fields s.data.toList).map fun l => Value.string ⟨l.toArray⟩).toArray 9) := Any.strings_Fields Tryz.lays157 (by kernel_rfl) (by kernel_rfl) s w hs hascii htab
def Tryz.laysM146_ren : Go.Shelf.Ren := ⟨fun | 146 => 90 | 221 => 97 | 268 => 100 | 138 => 101 | 143 => 102 | 195 => 106 | 197 => 107 | 218 => 108 | 219 => 109 | 260 => 116 | 217 => 117 | 225 => 118 | 224 => 119 | 267 => 120 | 266 => 125 | 314 => 126 | n => n, fun | 9 => 9 | 31 => 50 | 3 => 3 | 4 => 4 | 0 => 0 | 105 => 164 | 21 => 21 | 5 => 5 | 46 => 80 | 119 => 111 | 139 => 117 | 138 => 116 | 146 => 181 | 51 => 106 | n => n, fun | 1 => 3 | 3 => 5 | 4 => 6 | n => n⟩
theorem Tryz.laysM146 : Go.Proofs.LaysM.n146 Tryz.prog Tryz.laysM146_ren := {
  mixed := by kernel_rfl
  f138 := Tryz.func101.trans (congrArg some (by kernel_rfl))
  f143 := Tryz.func102.trans (congrArg some (by kernel_rfl))
  f146 := Tryz.func90.trans (congrArg some (by kernel_rfl))
  f195 := Tryz.func106.trans (congrArg some (by kernel_rfl))
  f197 := Tryz.func107.trans (congrArg some (by kernel_rfl))
  f217 := Tryz.func117.trans (congrArg some (by kernel_rfl))
  f218 := Tryz.func108.trans (congrArg some (by kernel_rfl))
  f219 := Tryz.func109.trans (congrArg some (by kernel_rfl))
  f221 := Tryz.func97.trans (congrArg some (by kernel_rfl))
  f224 := Tryz.func119.trans (congrArg some (by kernel_rfl))
  f225 := Tryz.func118.trans (congrArg some (by kernel_rfl))
  f260 := Tryz.func116.trans (congrArg some (by kernel_rfl))
  f266 := Tryz.func125.trans (congrArg some (by kernel_rfl))
  f267 := Tryz.func120.trans (congrArg some (by kernel_rfl))
  f268 := Tryz.func100.trans (congrArg some (by kernel_rfl))
  f314 := Tryz.func126.trans (congrArg some (by kernel_rfl))
  t0 := Tryz.underlying0
  a0 := Tryz.isAgg0
  z0 := Tryz.sizeOf0
  v0 := Tryz.zeroValue0
  t3 := Tryz.underlying3
  a3 := Tryz.isAgg3
  z3 := Tryz.sizeOf3
  v3 := Tryz.zeroValue3
  t4 := Tryz.underlying4
  a4 := Tryz.isAgg4
  z4 := Tryz.sizeOf4
  v4 := Tryz.zeroValue4
  t5 := Tryz.underlying5
  a5 := Tryz.isAgg5
  z5 := Tryz.sizeOf5
  v5 := Tryz.zeroValue5
  t9 := Tryz.underlying9
  a9 := Tryz.isAgg9
  z9 := Tryz.sizeOf9
  v9 := Tryz.zeroValue9
  t21 := Tryz.underlying21
  a21 := Tryz.isAgg21
  z21 := Tryz.sizeOf21
  v21 := Tryz.zeroValue21
  t31 := Tryz.underlying50
  a31 := Tryz.isAgg50
  z31 := Tryz.sizeOf50
  v31 := Tryz.zeroValue50
  t46 := Tryz.underlying80
  a46 := Tryz.isAgg80
  z46 := Tryz.sizeOf80
  v46 := Tryz.zeroValue80
  t51 := Tryz.underlying106
  a51 := Tryz.isAgg106
  z51 := Tryz.sizeOf106
  v51 := Tryz.zeroValue106
  t105 := Tryz.underlying164
  a105 := Tryz.isAgg164
  z105 := Tryz.sizeOf164
  v105 := Tryz.zeroValue164
  t119 := Tryz.underlying111
  a119 := Tryz.isAgg111
  z119 := Tryz.sizeOf111
  t138 := Tryz.underlying116
  a138 := Tryz.isAgg116
  z138 := Tryz.sizeOf116
  v138 := Tryz.zeroValue116
  t139 := Tryz.underlying117
  a139 := Tryz.isAgg117
  z139 := Tryz.sizeOf117
  v139 := Tryz.zeroValue117
  t146 := Tryz.underlying181
  a146 := Tryz.isAgg181
  z146 := Tryz.sizeOf181
  v146 := Tryz.zeroValue181
  g1 := by kernel_rfl
  g3 := by kernel_rfl
  g4 := by kernel_rfl
  i0 := by kernel_rfl
  i3 := by kernel_rfl
  i4 := by kernel_rfl
  i5 := by kernel_rfl
  i9 := by kernel_rfl
  i21 := by kernel_rfl
  i31 := by kernel_rfl
  i46 := by kernel_rfl
  i51 := by kernel_rfl
  i105 := by kernel_rfl
  i138 := by kernel_rfl
  i139 := by kernel_rfl
  i146 := by kernel_rfl
  m1 := by kernel_rfl
  s1_3 := fun w h => Go.Proofs.cell_of_shapedOpen_int (zero := #[.int .i64 0]) (t := 3) h (of_decide_eq_true (by kernel_rfl)) (by kernel_rfl) rfl (by kernel_rfl) (by kernel_rfl) Tryz.underlying3
  m3 := by kernel_rfl
  m4 := by kernel_rfl }
def Tryz.lays229_ren : Go.Shelf.Ren := ⟨fun | 229 => 73 | n => n, fun | 9 => 9 | 40 => 113 | 31 => 50 | 152 => 133 | 3 => 3 | 0 => 0 | 4 => 4 | 21 => 21 | 154 => 135 | n => n, fun | n => n⟩
theorem Tryz.lays229 : Go.Proofs.Lays.n229 Tryz.prog Tryz.lays229_ren := {
  mixed := by kernel_rfl
  f229 := Tryz.func73.trans (congrArg some (by kernel_rfl))
  t0 := Tryz.underlying0
  a0 := Tryz.isAgg0
  z0 := Tryz.sizeOf0
  v0 := Tryz.zeroValue0
  t3 := Tryz.underlying3
  a3 := Tryz.isAgg3
  z3 := Tryz.sizeOf3
  v3 := Tryz.zeroValue3
  t4 := Tryz.underlying4
  a4 := Tryz.isAgg4
  z4 := Tryz.sizeOf4
  v4 := Tryz.zeroValue4
  t9 := Tryz.underlying9
  a9 := Tryz.isAgg9
  z9 := Tryz.sizeOf9
  v9 := Tryz.zeroValue9
  t21 := Tryz.underlying21
  a21 := Tryz.isAgg21
  z21 := Tryz.sizeOf21
  v21 := Tryz.zeroValue21
  t31 := Tryz.underlying50
  a31 := Tryz.isAgg50
  z31 := Tryz.sizeOf50
  v31 := Tryz.zeroValue50
  t40 := Tryz.underlying113
  a40 := Tryz.isAgg113
  z40 := Tryz.sizeOf113
  v40 := Tryz.zeroValue113
  t152 := Tryz.underlying133
  a152 := Tryz.isAgg133
  z152 := Tryz.sizeOf133
  v152 := Tryz.zeroValue133
  t154 := Tryz.underlying135
  a154 := Tryz.isAgg135
  z154 := Tryz.sizeOf135
  v154 := Tryz.zeroValue135 }
open Go.RowKit Go.Lib in
theorem Tryz.strings_FieldsFunc_runes (g : Nat) (lb : Array Value) (eg : ∀ args w, (callFunc g args).run Tryz.prog w = .ok (.enter g args) w) (p : Nat → Bool) (s : ByteArray) (w : World) (hs : s.size ≤ 4294967296) (hp : PredAtRunes Tryz.prog g lb p w) :
    Calls Tryz.prog 73 #[.string s, .func (.func g) #[] lb] w fun e w' => ∃ A, e = .returned (.slice (some ⟨A, 0, none⟩) (Lib.goFieldsP p s).length (Lib.goFieldsP p s).length) ∧ w.heap.size ≤ A ∧
      w'.ownsRow w.heap.size 9 1 (.slice (some ⟨A, 0, none⟩) (Lib.goFieldsP p s).length (Lib.goFieldsP p s).length) (Lib.goFieldsP p s).length ((Lib.goFieldsP p s).map Value.string) ∧ Below w.heap.size w w' := Any.strings_FieldsFunc_runes Tryz.lays229 g lb eg p s w hs hp (by kernel_rfl) (by kernel_rfl)
def Tryz.laysNm216_ren : Go.Shelf.Ren := ⟨fun | 16 => 92 | n => n, fun | 24 => 50 | 9 => 9 | 4 => 4 | n => n, fun | n => n⟩
theorem Tryz.laysNm216 : Go.Proofs.Lays2.n16 Tryz.prog Tryz.laysNm216_ren := {
  mixed := by kernel_rfl
  f16 := Tryz.func92.trans (congrArg some (by kernel_rfl))
  t4 := Tryz.underlying4
  a4 := Tryz.isAgg4
  z4 := Tryz.sizeOf4
  v4 := Tryz.zeroValue4
  t9 := Tryz.underlying9
  a9 := Tryz.isAgg9
  z9 := Tryz.sizeOf9
  v9 := Tryz.zeroValue9
  t24 := Tryz.underlying50
  a24 := Tryz.isAgg50
  z24 := Tryz.sizeOf50
  v24 := Tryz.zeroValue50
  i9 := by kernel_rfl }
open Go.RowKit Go.Lib in
theorem Tryz.slices_Clone_string (b off n c : Nat) (zs : List ByteArray) (w : World) (hz : n ≤ zs.length) (hbig : n * 16 ≤ 140737488355328) (hc : ∀ j, j < zs.length → w.cell? ⟨b, off + j, none⟩ = some (.string (zs.getD j ByteArray.empty))) :
    Calls Tryz.prog 92 #[.slice (some ⟨b, off, none⟩) n c] w fun e w' => ∃ v', e = .returned v' ∧ w'.ownsRow w.heap.size 9 1 v' n ((zs.take n).map (Value.string)) ∧ v' ≠ .slice none 0 0 ∧ Below w.heap.size w w' := Any.slices_Clone_string Tryz.laysNm216 b off n c zs w hz hbig hc
open Go.RowKit Go.Lib in
theorem Tryz.slices_Clone_string_nil (n c : Nat) (w : World) :
    Calls Tryz.prog 92 #[.slice none n c] w fun e w' => e = .returned (.slice none 0 0) ∧ w' = w := Any.slices_Clone_string_nil Tryz.laysNm216 n c w
open Go.RowKit Go.Lib in
theorem Tryz.slices_Clone_string_zero (a : Addr) (c : Nat) (w : World) :
    Calls Tryz.prog 92 #[.slice (some a) 0 c] w fun e w' => ∃ v', e = .returned v' ∧ w'.ownsRow w.heap.size 9 1 v' 0 [] ∧ v' ≠ .slice none 0 0 ∧ Below w.heap.size w w' := Any.slices_Clone_string_zero Tryz.laysNm216 a c w
def Tryz.laysValid_ren : Go.Shelf.Ren := ⟨fun | 196 => 52 | 259 => 75 | n => n, fun | 9 => 9 | 4 => 4 | 3 => 3 | 5 => 5 | 12 => 12 | 119 => 111 | 0 => 0 | 46 => 80 | 139 => 117 | 138 => 116 | 53 => 108 | n => n, fun | 3 => 5 | 4 => 6 | n => n⟩
theorem Tryz.laysValid : Go.Proofs.Lays.n196 Tryz.prog Tryz.laysValid_ren := {
  mixed := by kernel_rfl
  f196 := Tryz.func52.trans (congrArg some (by kernel_rfl))
  f259 := Tryz.func75.trans (congrArg some (by kernel_rfl))
  t0 := Tryz.underlying0
  a0 := Tryz.isAgg0
  z0 := Tryz.sizeOf0
  v0 := Tryz.zeroValue0
  t3 := Tryz.underlying3
  a3 := Tryz.isAgg3
  z3 := Tryz.sizeOf3
  v3 := Tryz.zeroValue3
  t4 := Tryz.underlying4
  a4 := Tryz.isAgg4
  z4 := Tryz.sizeOf4
  v4 := Tryz.zeroValue4
  t5 := Tryz.underlying5
  a5 := Tryz.isAgg5
  z5 := Tryz.sizeOf5
  v5 := Tryz.zeroValue5
  t9 := Tryz.underlying9
  a9 := Tryz.isAgg9
  z9 := Tryz.sizeOf9
  v9 := Tryz.zeroValue9
  t12 := Tryz.underlying12
  a12 := Tryz.isAgg12
  z12 := Tryz.sizeOf12
  v12 := Tryz.zeroValue12
  t46 := Tryz.underlying80
  a46 := Tryz.isAgg80
  z46 := Tryz.sizeOf80
  v46 := Tryz.zeroValue80
  t53 := Tryz.underlying108
  a53 := Tryz.isAgg108
  z53 := Tryz.sizeOf108
  v53 := Tryz.zeroValue108
  t119 := Tryz.underlying111
  a119 := Tryz.isAgg111
  z119 := Tryz.sizeOf111
  t138 := Tryz.underlying116
  a138 := Tryz.isAgg116
  z138 := Tryz.sizeOf116
  v138 := Tryz.zeroValue116
  t139 := Tryz.underlying117
  a139 := Tryz.isAgg117
  z139 := Tryz.sizeOf117
  v139 := Tryz.zeroValue117
  g3 := by kernel_rfl
  g4 := by kernel_rfl }
end Go.Proofs
