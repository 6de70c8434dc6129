/- Contracts of the library that the walks lean on, laid at this program. -/
import Derived.Shelf.Strings.Builder1
import Derived.Shelf.Strings.Builder2
import Derived.Shelf.Strings.OnBuilder
import Derived.Shelf.Small.Wraps
import Derived.Shelf.Strings.BuilderF
import Derived.Shelf.Strings.BuilderK
import Derived.Shelf.Strings.Builder2Cap
import Derived.Shelf.Strconv.Atoi
import Derived.Shelf.Strconv.Itoa0
import Derived.Shelf.Strconv.Itoa1
import Derived.Shelf.LaysM
import Derived.Shelf.Strconv.Itoa2
import Derived.Shelf.Strconv.Itoa3
import Derived.Shelf.Strconv.AtoiErrFast
import Derived.Shelf.Strconv.ParseIntEmpty
import Derived.Shelf.Strconv.AtoiFail
import Derived.Shelf.Strconv.Clone
import Derived.Shelf.Strconv.SyntaxError
import Derived.Shelf.LaysC
import Derived.Shelf.Strconv.ToError
import Derived.Shelf.Strconv.Lower
import Derived.Shelf.Strconv.ParseUint10
import Derived.Shelf.Strconv.ParseUint10Empty
import Derived.Shelf.Strconv.ParseUint10Any
import Derived.Shelf.Strconv.ParseInt10
import Derived.Shelf.Strconv.AtoiLong
import Derived.Shelf.Strconv.AtoiInnerAll
import Derived.Shelf.Strconv.RangeError
import Derived.Shelf.Strconv.ToErrorRange
import Derived.Shelf.Strconv.AtoiAll
import Derived.Shelf.Strconv.ErrVarAll
import Derived.Shelf.Strconv.ParseUintEmpty
import Derived.Shelf.Strconv.ParseUint10b64
import Derived.Shelf.Strconv.ParseUint10b32
import Derived.Shelf.Strconv.ParseUint10b16
import Derived.Shelf.Strconv.ParseUint10b8
import Derived.Shelf.Strconv.ParseUint10At
import Derived.Shelf.Strconv.ParseInt10At64
import Derived.Shelf.Strconv.ParseInt10At32
import Derived.Shelf.Strconv.ParseInt10At16
import Derived.Shelf.Strconv.ParseInt10At8
import Derived.Shelf.Strconv.ParseInt10All
import Derived.Shelf.Strings.Search1
import Derived.Shelf.Strings.Search2
import Derived.Shelf.Strings.Search3
import Derived.Shelf.Strings.Count
import Derived.Shelf.Strings.Shaped
import Derived.Shelf.Strings.Prefix
import Derived.Shelf.Strings.Split
import Derived.Shelf.Strings.Fields
import Derived.Shelf.Strings.SplitShaped
import Derived.Shelf.Unicode.Latin
import Derived.Shelf.Unicode.Decode
import Derived.Shelf.Strings.RuneCount
import Derived.Shelf.Strings.Explode
import Derived.Shelf.Unicode.DecodeSlow
import Derived.Shelf.Unicode.DecodeAny
import Derived.Shelf.Unicode.Is16White
import Derived.Shelf.Unicode.IsSpaceAny
import Derived.Shelf.Strings.FieldsFuncAny
import Derived.Shelf.Unicode.Is16Any
import Derived.Shelf.Unicode.Is32Any
import Derived.Shelf.Unicode.ExclAny
import Derived.Shelf.Strings.BuilderCap
import Derived.Ground.Names2Prog
import Derived.Shelf.Slices.Clone
import Derived.Test.YthnjgbjckggjhaaGreatDoorProg
import Derived.Shelf.Unicode.ValidAny
namespace Go.Proofs
open Go.Shelf
def Tryz.lays169_ren : Go.Shelf.Ren := ⟨fun | 169 => 42 | n => n, fun | 70 => 79 | 9 => 9 | 0 => 0 | 72 => 81 | 37 => 25 | 127 => 92 | 3 => 3 | 5 => 5 | n => n, fun | n => n⟩
theorem Tryz.lays169 : Go.Proofs.Lays.n169 Tryz.prog Tryz.lays169_ren := {
  mixed := by kernel_rfl
  f169 := Tryz.func42.trans (congrArg some (by kernel_rfl))
  t0 := Tryz.underlying0
  a0 := Tryz.isAgg0
  z0 := Tryz.sizeOf0
  v0 := Tryz.zeroValue0
  t3 := Tryz.underlying3
  a3 := Tryz.isAgg3
  z3 := Tryz.sizeOf3
  v3 := Tryz.zeroValue3
  t9 := Tryz.underlying9
  a9 := Tryz.isAgg9
  z9 := Tryz.sizeOf9
  v9 := Tryz.zeroValue9
  t37 := Tryz.underlying25
  a37 := Tryz.isAgg25
  z37 := Tryz.sizeOf25
  v37 := Tryz.zeroValue25
  t70 := Tryz.underlying79
  a70 := Tryz.isAgg79
  z70 := Tryz.sizeOf79
  v70 := Tryz.zeroValue79
  t72 := Tryz.underlying81
  a72 := Tryz.isAgg81
  z72 := Tryz.sizeOf81
  v72 := Tryz.zeroValue81
  t127 := Tryz.underlying92
  a127 := Tryz.isAgg92
  z127 := Tryz.sizeOf92
  v127 := Tryz.zeroValue92 }
theorem Tryz.Builder_Extra_169 : Builder.Extra Tryz.prog Tryz.lays169_ren := {
  sizeBuilder := by kernel_rfl
  liesBuilder := by kernel_rfl
  t5 := Tryz.underlying5
  a5 := Tryz.isAgg5
  z5 := Tryz.sizeOf5
  v5 := Tryz.zeroValue5
  infoByte := by kernel_rfl
  cellsByte := by kernel_rfl
  sizeByte := by kernel_rfl
  neB5 := by decide }
open Go.RowKit in
theorem Tryz.Builder_String_any (B b : Nat) (l : List UInt8) (w : World) (h : Lib.IsBuilder 81 5 B b (Lib.byteCells l) w) (hBw : B ≤ w.heap.size) :
    Calls Tryz.prog 42 #[.pointer (some ⟨b, 0, none⟩)] w fun e w' => e = .returned (.string ⟨l.toArray⟩) ∧ Below B w w' := Any.Builder_String_any Tryz.lays169 Tryz.Builder_Extra_169 B b l w h hBw
def Tryz.lays165_ren : Go.Shelf.Ren := ⟨fun | 165 => 43 | 240 => 48 | 241 => 49 | 276 => 55 | 277 => 56 | n => n, fun | 70 => 79 | 3 => 3 | 0 => 0 | 4 => 4 | 9 => 9 | 20 => 20 | 72 => 81 | 37 => 25 | 164 => 105 | 5 => 5 | n => n, fun | n => n⟩
theorem Tryz.lays165 : Go.Proofs.Lays.n165 Tryz.prog Tryz.lays165_ren := {
  mixed := by kernel_rfl
  f165 := Tryz.func43.trans (congrArg some (by kernel_rfl))
  f240 := Tryz.func48.trans (congrArg some (by kernel_rfl))
  f241 := Tryz.func49.trans (congrArg some (by kernel_rfl))
  f276 := Tryz.func55.trans (congrArg some (by kernel_rfl))
  f277 := Tryz.func56.trans (congrArg some (by kernel_rfl))
  t0 := Tryz.underlying0
  a0 := Tryz.isAgg0
  z0 := Tryz.sizeOf0
  v0 := Tryz.zeroValue0
  t3 := Tryz.underlying3
  a3 := Tryz.isAgg3
  z3 := Tryz.sizeOf3
  v3 := Tryz.zeroValue3
  t4 := Tryz.underlying4
  a4 := Tryz.isAgg4
  z4 := Tryz.sizeOf4
  v4 := Tryz.zeroValue4
  t9 := Tryz.underlying9
  a9 := Tryz.isAgg9
  z9 := Tryz.sizeOf9
  v9 := Tryz.zeroValue9
  t20 := Tryz.underlying20
  a20 := Tryz.isAgg20
  z20 := Tryz.sizeOf20
  v20 := Tryz.zeroValue20
  t37 := Tryz.underlying25
  a37 := Tryz.isAgg25
  z37 := Tryz.sizeOf25
  v37 := Tryz.zeroValue25
  t70 := Tryz.underlying79
  a70 := Tryz.isAgg79
  z70 := Tryz.sizeOf79
  v70 := Tryz.zeroValue79
  t72 := Tryz.underlying81
  a72 := Tryz.isAgg81
  z72 := Tryz.sizeOf81
  v72 := Tryz.zeroValue81
  t164 := Tryz.underlying105
  a164 := Tryz.isAgg105
  z164 := Tryz.sizeOf105
  v164 := Tryz.zeroValue105 }
theorem Tryz.Builder_Extra_165 : Builder.Extra Tryz.prog Tryz.lays165_ren := {
  sizeBuilder := by kernel_rfl
  liesBuilder := by kernel_rfl
  t5 := Tryz.underlying5
  a5 := Tryz.isAgg5
  z5 := Tryz.sizeOf5
  v5 := Tryz.zeroValue5
  infoByte := by kernel_rfl
  cellsByte := by kernel_rfl
  sizeByte := by kernel_rfl
  neB5 := by decide }
open Go.RowKit in
theorem Tryz.Builder_Grow_fresh (B b n : Nat) (w : World) (hB : B ≤ b) (hbk : w.heap[b]? = some (.cells #[.pointer none, .slice none 0 0] 81 (0, 0))) (hBw : B ≤ w.heap.size) (hn : n ≤ 281474976710656) :
    Calls Tryz.prog 43 #[.pointer (some ⟨b, 0, none⟩), .int .i64 n] w fun e w' => e = .returned (.tuple #[]) ∧ (Lib.BuilderAt 81 5 B b (.pointer (some ⟨b, 0, none⟩)) [] w' ∧ Below B w w') := Any.Builder_Grow_fresh Tryz.lays165 Tryz.Builder_Extra_165 B b n w hB hbk hBw hn
def Tryz.lays103_ren : Go.Shelf.Ren := ⟨fun | 103 => 63 | 210 => 68 | 206 => 75 | n => n, fun | 9 => 9 | 4 => 4 | 24 => 130 | 3 => 3 | n => n, fun | n => n⟩
theorem Tryz.lays103 : Go.Proofs.Lays.n103 Tryz.prog Tryz.lays103_ren := {
  mixed := by kernel_rfl
  f103 := Tryz.func63.trans (congrArg some (by kernel_rfl))
  f206 := Tryz.func75.trans (congrArg some (by kernel_rfl))
  f210 := Tryz.func68.trans (congrArg some (by kernel_rfl))
  t3 := Tryz.underlying3
  a3 := Tryz.isAgg3
  z3 := Tryz.sizeOf3
  v3 := Tryz.zeroValue3
  t4 := Tryz.underlying4
  a4 := Tryz.isAgg4
  z4 := Tryz.sizeOf4
  v4 := Tryz.zeroValue4
  t9 := Tryz.underlying9
  a9 := Tryz.isAgg9
  z9 := Tryz.sizeOf9
  v9 := Tryz.zeroValue9
  t24 := Tryz.underlying130
  a24 := Tryz.isAgg130
  z24 := Tryz.sizeOf130
  v24 := Tryz.zeroValue130 }
open Go.RowKit in
theorem Tryz.strings_CutPrefix (s p : ByteArray) (w : World) :
    Calls Tryz.prog 63 #[.string s, .string p] w fun e w' => e = .returned (.tuple #[.string ⟨(Lib.trimPrefix s.data.toList p.data.toList).toArray⟩, .bool (Lib.hasPrefix s.data.toList p.data.toList)]) ∧ w' = w := Any.strings_CutPrefix Tryz.lays103 s p w
open Go.RowKit in
theorem Tryz.Builder_String_any_f (B b : Nat) (l : List UInt8) (w : World) (h : Lib.IsBuilderF 81 5 B b (Lib.byteCells l) w) (hBw : B ≤ w.heap.size) :
    Calls Tryz.prog 42 #[.pointer (some ⟨b, 0, none⟩)] w fun e w' => e = .returned (.string ⟨l.toArray⟩) ∧ (Lib.IsBuilderF 81 5 B b (Lib.byteCells l) w' ∧ Below B w w') := Any.Builder_String_any_f Tryz.lays169 Tryz.Builder_Extra_169 B b l w h hBw
def Tryz.laysM171_ren : Go.Shelf.Ren := ⟨fun | 171 => 89 | 243 => 94 | 246 => 95 | 283 => 96 | 284 => 97 | 285 => 98 | 286 => 99 | 129 => 101 | 317 => 100 | 318 => 102 | 319 => 103 | 320 => 104 | 337 => 105 | 338 => 106 | n => n, fun | 3 => 3 | 9 => 9 | 2 => 2 | 4 => 4 | 171 => 162 | 0 => 0 | 53 => 114 | 37 => 25 | 5 => 5 | 173 => 165 | 212 => 168 | 51 => 111 | 20 => 20 | 213 => 169 | 46 => 100 | 232 => 173 | 233 => 174 | n => n, fun | 17 => 10 | 18 => 11 | 19 => 12 | n => n⟩
theorem Tryz.laysM171 : Go.Proofs.LaysM.n171 Tryz.prog Tryz.laysM171_ren := {
  mixed := by kernel_rfl
  f129 := Tryz.func101.trans (congrArg some (by kernel_rfl))
  f171 := Tryz.func89.trans (congrArg some (by kernel_rfl))
  f243 := Tryz.func94.trans (congrArg some (by kernel_rfl))
  f246 := Tryz.func95.trans (congrArg some (by kernel_rfl))
  f283 := Tryz.func96.trans (congrArg some (by kernel_rfl))
  f284 := Tryz.func97.trans (congrArg some (by kernel_rfl))
  f285 := Tryz.func98.trans (congrArg some (by kernel_rfl))
  f286 := Tryz.func99.trans (congrArg some (by kernel_rfl))
  f317 := Tryz.func100.trans (congrArg some (by kernel_rfl))
  f318 := Tryz.func102.trans (congrArg some (by kernel_rfl))
  f319 := Tryz.func103.trans (congrArg some (by kernel_rfl))
  f320 := Tryz.func104.trans (congrArg some (by kernel_rfl))
  f337 := Tryz.func105.trans (congrArg some (by kernel_rfl))
  f338 := Tryz.func106.trans (congrArg some (by kernel_rfl))
  t0 := Tryz.underlying0
  a0 := Tryz.isAgg0
  z0 := Tryz.sizeOf0
  v0 := Tryz.zeroValue0
  t2 := Tryz.underlying2
  a2 := Tryz.isAgg2
  z2 := Tryz.sizeOf2
  v2 := Tryz.zeroValue2
  t3 := Tryz.underlying3
  a3 := Tryz.isAgg3
  z3 := Tryz.sizeOf3
  v3 := Tryz.zeroValue3
  t4 := Tryz.underlying4
  a4 := Tryz.isAgg4
  z4 := Tryz.sizeOf4
  v4 := Tryz.zeroValue4
  t5 := Tryz.underlying5
  a5 := Tryz.isAgg5
  z5 := Tryz.sizeOf5
  v5 := Tryz.zeroValue5
  t9 := Tryz.underlying9
  a9 := Tryz.isAgg9
  z9 := Tryz.sizeOf9
  v9 := Tryz.zeroValue9
  t20 := Tryz.underlying20
  a20 := Tryz.isAgg20
  z20 := Tryz.sizeOf20
  v20 := Tryz.zeroValue20
  t37 := Tryz.underlying25
  a37 := Tryz.isAgg25
  z37 := Tryz.sizeOf25
  v37 := Tryz.zeroValue25
  t46 := Tryz.underlying100
  a46 := Tryz.isAgg100
  z46 := Tryz.sizeOf100
  v46 := Tryz.zeroValue100
  t51 := Tryz.underlying111
  a51 := Tryz.isAgg111
  z51 := Tryz.sizeOf111
  v51 := Tryz.zeroValue111
  t53 := Tryz.underlying114
  a53 := Tryz.isAgg114
  z53 := Tryz.sizeOf114
  v53 := Tryz.zeroValue114
  t171 := Tryz.underlying162
  a171 := Tryz.isAgg162
  z171 := Tryz.sizeOf162
  v171 := Tryz.zeroValue162
  t173 := Tryz.underlying165
  a173 := Tryz.isAgg165
  z173 := Tryz.sizeOf165
  v173 := Tryz.zeroValue165
  t212 := Tryz.underlying168
  a212 := Tryz.isAgg168
  z212 := Tryz.sizeOf168
  v212 := Tryz.zeroValue168
  t213 := Tryz.underlying169
  a213 := Tryz.isAgg169
  z213 := Tryz.sizeOf169
  t232 := Tryz.underlying173
  a232 := Tryz.isAgg173
  z232 := Tryz.sizeOf173
  v232 := Tryz.zeroValue173
  t233 := Tryz.underlying174
  a233 := Tryz.isAgg174
  z233 := Tryz.sizeOf174
  v233 := Tryz.zeroValue174
  g17 := by kernel_rfl
  g18 := by kernel_rfl
  g19 := by kernel_rfl
  i0 := by kernel_rfl
  i2 := by kernel_rfl
  i3 := by kernel_rfl
  i4 := by kernel_rfl
  i5 := by kernel_rfl
  i9 := by kernel_rfl
  i20 := by kernel_rfl
  i37 := by kernel_rfl
  i46 := by kernel_rfl
  i51 := by kernel_rfl
  i53 := by kernel_rfl
  i171 := by kernel_rfl
  i173 := by kernel_rfl
  i212 := by kernel_rfl
  i232 := by kernel_rfl
  i233 := by kernel_rfl
  m17 := by kernel_rfl
  m18 := by kernel_rfl
  m19 := by kernel_rfl }
open Go.RowKit Go.Sort Go.Lib in
theorem Tryz.strconv_Itoa (n : Int) (h0 : -9223372036854775808 ≤ n) (h1 : n ≤ 9223372036854775807) (w : World) (htab : Lib.TabIs Tryz.prog w "internal/strconv.uint64pow10" .u64 Lib.pow10Tab) :
    Calls Tryz.prog 89 #[.int .i64 n] w fun e w' => e = .returned (.string ⟨(Lib.itoa n).toArray⟩) ∧ ∃ k os, w' = grow (w.drewN k) os := Any.strconv_Itoa Tryz.laysM171 n h0 h1 w htab
def Tryz.laysC172_ren : Go.Shelf.Ren := ⟨fun | 172 => 64 | 244 => 69 | 245 => 70 | 247 => 76 | 279 => 77 | 280 => 78 | 281 => 79 | 282 => 80 | 287 => 86 | 316 => 87 | 171 => 89 | 205 => 88 | 321 => 92 | 322 => 93 | 243 => 94 | 246 => 95 | 283 => 96 | 284 => 97 | 285 => 98 | 286 => 99 | 129 => 101 | 317 => 100 | 318 => 102 | 319 => 103 | 320 => 104 | 337 => 105 | 338 => 106 | n => n, fun | 9 => 9 | 3 => 3 | 75 => 83 | 76 => 86 | 4 => 4 | 5 => 5 | 167 => 142 | 37 => 25 | 0 => 0 | 85 => 143 | 2 => 2 | 168 => 145 | 53 => 114 | 175 => 148 | 46 => 100 | 210 => 152 | 127 => 92 | 145 => 160 | 143 => 158 | 21 => 21 | 171 => 162 | 173 => 165 | 212 => 168 | 51 => 111 | 20 => 20 | 213 => 169 | 232 => 173 | 233 => 174 | 80 => 32 | n => n, fun | 15 => 8 | 16 => 9 | 17 => 10 | 18 => 11 | 19 => 12 | n => n⟩
theorem Tryz.laysC172 : Go.Proofs.LaysC.n172 Tryz.prog Tryz.laysC172_ren := {
  mixed := by kernel_rfl
  f129 := Tryz.func101.trans (congrArg some (by kernel_rfl))
  f171 := Tryz.func89.trans (congrArg some (by kernel_rfl))
  f172 := Tryz.func64.trans (congrArg some (by kernel_rfl))
  f205 := Tryz.func88.trans (congrArg some (by kernel_rfl))
  f243 := Tryz.func94.trans (congrArg some (by kernel_rfl))
  f244 := Tryz.func69.trans (congrArg some (by kernel_rfl))
  f245 := Tryz.func70.trans (congrArg some (by kernel_rfl))
  f246 := Tryz.func95.trans (congrArg some (by kernel_rfl))
  f247 := Tryz.func76.trans (congrArg some (by kernel_rfl))
  f279 := Tryz.func77.trans (congrArg some (by kernel_rfl))
  f280 := Tryz.func78.trans (congrArg some (by kernel_rfl))
  f281 := Tryz.func79.trans (congrArg some (by kernel_rfl))
  f282 := Tryz.func80.trans (congrArg some (by kernel_rfl))
  f283 := Tryz.func96.trans (congrArg some (by kernel_rfl))
  f284 := Tryz.func97.trans (congrArg some (by kernel_rfl))
  f285 := Tryz.func98.trans (congrArg some (by kernel_rfl))
  f286 := Tryz.func99.trans (congrArg some (by kernel_rfl))
  f287 := Tryz.func86.trans (congrArg some (by kernel_rfl))
  f316 := Tryz.func87.trans (congrArg some (by kernel_rfl))
  f317 := Tryz.func100.trans (congrArg some (by kernel_rfl))
  f318 := Tryz.func102.trans (congrArg some (by kernel_rfl))
  f319 := Tryz.func103.trans (congrArg some (by kernel_rfl))
  f320 := Tryz.func104.trans (congrArg some (by kernel_rfl))
  f321 := Tryz.func92.trans (congrArg some (by kernel_rfl))
  f322 := Tryz.func93.trans (congrArg some (by kernel_rfl))
  f337 := Tryz.func105.trans (congrArg some (by kernel_rfl))
  f338 := Tryz.func106.trans (congrArg some (by kernel_rfl))
  t0 := Tryz.underlying0
  a0 := Tryz.isAgg0
  z0 := Tryz.sizeOf0
  v0 := Tryz.zeroValue0
  t2 := Tryz.underlying2
  a2 := Tryz.isAgg2
  z2 := Tryz.sizeOf2
  v2 := Tryz.zeroValue2
  t3 := Tryz.underlying3
  a3 := Tryz.isAgg3
  z3 := Tryz.sizeOf3
  v3 := Tryz.zeroValue3
  t4 := Tryz.underlying4
  a4 := Tryz.isAgg4
  z4 := Tryz.sizeOf4
  v4 := Tryz.zeroValue4
  t5 := Tryz.underlying5
  a5 := Tryz.isAgg5
  z5 := Tryz.sizeOf5
  v5 := Tryz.zeroValue5
  t9 := Tryz.underlying9
  a9 := Tryz.isAgg9
  z9 := Tryz.sizeOf9
  v9 := Tryz.zeroValue9
  t20 := Tryz.underlying20
  a20 := Tryz.isAgg20
  z20 := Tryz.sizeOf20
  v20 := Tryz.zeroValue20
  t21 := Tryz.underlying21
  a21 := Tryz.isAgg21
  z21 := Tryz.sizeOf21
  v21 := Tryz.zeroValue21
  t37 := Tryz.underlying25
  a37 := Tryz.isAgg25
  z37 := Tryz.sizeOf25
  v37 := Tryz.zeroValue25
  t46 := Tryz.underlying100
  a46 := Tryz.isAgg100
  z46 := Tryz.sizeOf100
  v46 := Tryz.zeroValue100
  t51 := Tryz.underlying111
  a51 := Tryz.isAgg111
  z51 := Tryz.sizeOf111
  v51 := Tryz.zeroValue111
  t53 := Tryz.underlying114
  a53 := Tryz.isAgg114
  z53 := Tryz.sizeOf114
  v53 := Tryz.zeroValue114
  t75 := Tryz.underlying83
  a75 := Tryz.isAgg83
  z75 := Tryz.sizeOf83
  v75 := Tryz.zeroValue83
  t76 := Tryz.underlying86
  a76 := Tryz.isAgg86
  z76 := Tryz.sizeOf86
  v76 := Tryz.zeroValue86
  t85 := Tryz.underlying143
  a85 := Tryz.isAgg143
  z85 := Tryz.sizeOf143
  v85 := Tryz.zeroValue143
  t127 := Tryz.underlying92
  a127 := Tryz.isAgg92
  z127 := Tryz.sizeOf92
  v127 := Tryz.zeroValue92
  t143 := Tryz.underlying158
  a143 := Tryz.isAgg158
  z143 := Tryz.sizeOf158
  v143 := Tryz.zeroValue158
  t145 := Tryz.underlying160
  a145 := Tryz.isAgg160
  z145 := Tryz.sizeOf160
  v145 := Tryz.zeroValue160
  t167 := Tryz.underlying142
  a167 := Tryz.isAgg142
  z167 := Tryz.sizeOf142
  v167 := Tryz.zeroValue142
  t168 := Tryz.underlying145
  a168 := Tryz.isAgg145
  z168 := Tryz.sizeOf145
  v168 := Tryz.zeroValue145
  t171 := Tryz.underlying162
  a171 := Tryz.isAgg162
  z171 := Tryz.sizeOf162
  v171 := Tryz.zeroValue162
  t173 := Tryz.underlying165
  a173 := Tryz.isAgg165
  z173 := Tryz.sizeOf165
  v173 := Tryz.zeroValue165
  t175 := Tryz.underlying148
  a175 := Tryz.isAgg148
  z175 := Tryz.sizeOf148
  v175 := Tryz.zeroValue148
  t210 := Tryz.underlying152
  a210 := Tryz.isAgg152
  z210 := Tryz.sizeOf152
  v210 := Tryz.zeroValue152
  t212 := Tryz.underlying168
  a212 := Tryz.isAgg168
  z212 := Tryz.sizeOf168
  v212 := Tryz.zeroValue168
  t213 := Tryz.underlying169
  a213 := Tryz.isAgg169
  z213 := Tryz.sizeOf169
  t232 := Tryz.underlying173
  a232 := Tryz.isAgg173
  z232 := Tryz.sizeOf173
  v232 := Tryz.zeroValue173
  t233 := Tryz.underlying174
  a233 := Tryz.isAgg174
  z233 := Tryz.sizeOf174
  v233 := Tryz.zeroValue174
  g15 := by kernel_rfl
  g16 := by kernel_rfl
  g17 := by kernel_rfl
  g18 := by kernel_rfl
  g19 := by kernel_rfl
  t80 := Tryz.underlying32
  a80 := Tryz.isAgg32
  z80 := Tryz.sizeOf32
  v80 := Tryz.zeroValue32
  i0 := by kernel_rfl
  i2 := by kernel_rfl
  i3 := by kernel_rfl
  i4 := by kernel_rfl
  i5 := by kernel_rfl
  i9 := by kernel_rfl
  i20 := by kernel_rfl
  i21 := by kernel_rfl
  i37 := by kernel_rfl
  i46 := by kernel_rfl
  i51 := by kernel_rfl
  i53 := by kernel_rfl
  i75 := by kernel_rfl
  i76 := by kernel_rfl
  i80 := by kernel_rfl
  i85 := by kernel_rfl
  i127 := by kernel_rfl
  i143 := by kernel_rfl
  i145 := by kernel_rfl
  i167 := by kernel_rfl
  i168 := by kernel_rfl
  i171 := by kernel_rfl
  i173 := by kernel_rfl
  i175 := by kernel_rfl
  i210 := by kernel_rfl
  i212 := by kernel_rfl
  i232 := by kernel_rfl
  i233 := by kernel_rfl
  m15 := by kernel_rfl
  m16 := by kernel_rfl
  m17 := by kernel_rfl
  m18 := by kernel_rfl
  m19 := by kernel_rfl
  c0 := by kernel_rfl
  c2 := by kernel_rfl
  c3 := by kernel_rfl
  c4 := by kernel_rfl
  c5 := by kernel_rfl
  c9 := by kernel_rfl
  c20 := by kernel_rfl
  c21 := by kernel_rfl
  c37 := by kernel_rfl
  c46 := by kernel_rfl
  c51 := by kernel_rfl
  c53 := by kernel_rfl
  c75 := by kernel_rfl
  c76 := by kernel_rfl
  c80 := by kernel_rfl
  c85 := by kernel_rfl
  c127 := by kernel_rfl
  c143 := by kernel_rfl
  c145 := by kernel_rfl
  c167 := by kernel_rfl
  c168 := by kernel_rfl
  c171 := by kernel_rfl
  c173 := by kernel_rfl
  c175 := by kernel_rfl
  c210 := by kernel_rfl
  c212 := by kernel_rfl
  c213 := by kernel_rfl
  c232 := by kernel_rfl
  c233 := by kernel_rfl }
open Go.RowKit in
theorem Tryz.strconv_Atoi_ok (s : ByteArray) (hmax : s.size ≤ 9223372036854775806) (v : Int) (h : Lib.atoiAll s.data.toList = .ok v) (w : World) :
    Calls Tryz.prog 64 #[.string s] w fun e w' => e = .returned (.tuple #[.int .i64 v, .nilIface]) ∧ (w' = w ∨ ∃ t, w' = Lib.bytesWorld w 5 t) := Any.strconv_Atoi_ok Tryz.laysC172 s hmax v h w
open Go.RowKit in
theorem Tryz.strconv_Atoi_range_var (s : ByteArray) (hlim : s.size ≤ 281474976710656) (h : Lib.atoiAll s.data.toList = .range) (tp : TypeId) (p : Value) (w : World) (hvar : w.var? Tryz.prog "strconv.ErrRange" = some #[.iface tp p]) :
    Calls Tryz.prog 64 #[.string s] w fun e w' => ∃ N, e = .returned (.tuple #[.int .i64 (Lib.atoiSat s.data.toList), .iface 145 (.pointer (some ⟨N, 0, none⟩))]) ∧ w.heap.size ≤ N ∧ w'.heap[N]? = some (.cells #[.string ⟨#[65, 116, 111, 105]⟩, .string s, .iface tp p] 152 (0, 0)) ∧ Below w.heap.size w w' := Any.strconv_Atoi_range_var Tryz.laysC172 s hlim h tp p w hvar
def Tryz.lays146_ren : Go.Shelf.Ren := ⟨fun | 146 => 58 | 221 => 62 | 268 => 65 | 138 => 66 | 143 => 67 | 195 => 71 | 197 => 72 | 218 => 73 | 219 => 74 | 260 => 81 | 217 => 82 | 225 => 83 | 224 => 84 | 267 => 85 | 266 => 90 | 314 => 91 | n => n, fun | 9 => 9 | 31 => 33 | 3 => 3 | 4 => 4 | 0 => 0 | 105 => 138 | 21 => 21 | 5 => 5 | 46 => 100 | 119 => 93 | 139 => 99 | 138 => 98 | 146 => 155 | 51 => 111 | n => n, fun | 1 => 7 | 3 => 4 | 4 => 5 | n => n⟩
theorem Tryz.lays146 : Go.Proofs.Lays.n146 Tryz.prog Tryz.lays146_ren := {
  mixed := by kernel_rfl
  f138 := Tryz.func66.trans (congrArg some (by kernel_rfl))
  f143 := Tryz.func67.trans (congrArg some (by kernel_rfl))
  f146 := Tryz.func58.trans (congrArg some (by kernel_rfl))
  f195 := Tryz.func71.trans (congrArg some (by kernel_rfl))
  f197 := Tryz.func72.trans (congrArg some (by kernel_rfl))
  f217 := Tryz.func82.trans (congrArg some (by kernel_rfl))
  f218 := Tryz.func73.trans (congrArg some (by kernel_rfl))
  f219 := Tryz.func74.trans (congrArg some (by kernel_rfl))
  f221 := Tryz.func62.trans (congrArg some (by kernel_rfl))
  f224 := Tryz.func84.trans (congrArg some (by kernel_rfl))
  f225 := Tryz.func83.trans (congrArg some (by kernel_rfl))
  f260 := Tryz.func81.trans (congrArg some (by kernel_rfl))
  f266 := Tryz.func90.trans (congrArg some (by kernel_rfl))
  f267 := Tryz.func85.trans (congrArg some (by kernel_rfl))
  f268 := Tryz.func65.trans (congrArg some (by kernel_rfl))
  f314 := Tryz.func91.trans (congrArg some (by kernel_rfl))
  t0 := Tryz.underlying0
  a0 := Tryz.isAgg0
  z0 := Tryz.sizeOf0
  v0 := Tryz.zeroValue0
  t3 := Tryz.underlying3
  a3 := Tryz.isAgg3
  z3 := Tryz.sizeOf3
  v3 := Tryz.zeroValue3
  t4 := Tryz.underlying4
  a4 := Tryz.isAgg4
  z4 := Tryz.sizeOf4
  v4 := Tryz.zeroValue4
  t5 := Tryz.underlying5
  a5 := Tryz.isAgg5
  z5 := Tryz.sizeOf5
  v5 := Tryz.zeroValue5
  t9 := Tryz.underlying9
  a9 := Tryz.isAgg9
  z9 := Tryz.sizeOf9
  v9 := Tryz.zeroValue9
  t21 := Tryz.underlying21
  a21 := Tryz.isAgg21
  z21 := Tryz.sizeOf21
  v21 := Tryz.zeroValue21
  t31 := Tryz.underlying33
  a31 := Tryz.isAgg33
  z31 := Tryz.sizeOf33
  v31 := Tryz.zeroValue33
  t46 := Tryz.underlying100
  a46 := Tryz.isAgg100
  z46 := Tryz.sizeOf100
  v46 := Tryz.zeroValue100
  t51 := Tryz.underlying111
  a51 := Tryz.isAgg111
  z51 := Tryz.sizeOf111
  v51 := Tryz.zeroValue111
  t105 := Tryz.underlying138
  a105 := Tryz.isAgg138
  z105 := Tryz.sizeOf138
  v105 := Tryz.zeroValue138
  t119 := Tryz.underlying93
  a119 := Tryz.isAgg93
  z119 := Tryz.sizeOf93
  t138 := Tryz.underlying98
  a138 := Tryz.isAgg98
  z138 := Tryz.sizeOf98
  v138 := Tryz.zeroValue98
  t139 := Tryz.underlying99
  a139 := Tryz.isAgg99
  z139 := Tryz.sizeOf99
  v139 := Tryz.zeroValue99
  t146 := Tryz.underlying155
  a146 := Tryz.isAgg155
  z146 := Tryz.sizeOf155
  v146 := Tryz.zeroValue155
  g1 := by kernel_rfl
  g3 := by kernel_rfl
  g4 := by kernel_rfl }
open Go.RowKit Go.Lib in
theorem Tryz.strings_Split (s sep : ByteArray) (m : Int) (w : World) (hs : s.size < 4294967281) (hm : w.cell? ⟨7, 0, none⟩ = some (.int .i64 m)) (h1 : 1 ≤ sep.size) :
    Calls Tryz.prog 58 #[.string s, .string sep] w fun e w' =>
      e = .returned (.slice (some ⟨w.heap.size, 0, none⟩) (Lib.countB s sep + 1) (Lib.countB s sep + 1)) ∧ w' = w.alloc (.cells ((Lib.splitB sep 0 (Lib.countB s sep) s).map Value.string).toArray 9) := Any.strings_Split Tryz.lays146 (by kernel_rfl) s sep m w hs hm h1
def Tryz.lays157_ren : Go.Shelf.Ren := ⟨fun | 157 => 45 | 229 => 50 | 199 => 51 | 261 => 57 | 311 => 60 | 312 => 61 | n => n, fun | 9 => 9 | 31 => 33 | 3 => 3 | 5 => 5 | 4 => 4 | 119 => 93 | 0 => 0 | 40 => 95 | 152 => 108 | 21 => 21 | 154 => 110 | 51 => 111 | 141 => 113 | 196 => 121 | 193 => 118 | 198 => 124 | 49 => 122 | 194 => 119 | 201 => 127 | 226 => 132 | 46 => 100 | 227 => 133 | n => n, fun | 0 => 3 | 6 => 6 | n => n⟩
theorem Tryz.lays157 : Go.Proofs.Lays.n157 Tryz.prog Tryz.lays157_ren := {
  mixed := by kernel_rfl
  f157 := Tryz.func45.trans (congrArg some (by kernel_rfl))
  f199 := Tryz.func51.trans (congrArg some (by kernel_rfl))
  f229 := Tryz.func50.trans (congrArg some (by kernel_rfl))
  f261 := Tryz.func57.trans (congrArg some (by kernel_rfl))
  f311 := Tryz.func60.trans (congrArg some (by kernel_rfl))
  f312 := Tryz.func61.trans (congrArg some (by kernel_rfl))
  t0 := Tryz.underlying0
  a0 := Tryz.isAgg0
  z0 := Tryz.sizeOf0
  v0 := Tryz.zeroValue0
  t3 := Tryz.underlying3
  a3 := Tryz.isAgg3
  z3 := Tryz.sizeOf3
  v3 := Tryz.zeroValue3
  t4 := Tryz.underlying4
  a4 := Tryz.isAgg4
  z4 := Tryz.sizeOf4
  v4 := Tryz.zeroValue4
  t5 := Tryz.underlying5
  a5 := Tryz.isAgg5
  z5 := Tryz.sizeOf5
  v5 := Tryz.zeroValue5
  t9 := Tryz.underlying9
  a9 := Tryz.isAgg9
  z9 := Tryz.sizeOf9
  v9 := Tryz.zeroValue9
  t21 := Tryz.underlying21
  a21 := Tryz.isAgg21
  z21 := Tryz.sizeOf21
  v21 := Tryz.zeroValue21
  t31 := Tryz.underlying33
  a31 := Tryz.isAgg33
  z31 := Tryz.sizeOf33
  v31 := Tryz.zeroValue33
  t40 := Tryz.underlying95
  a40 := Tryz.isAgg95
  z40 := Tryz.sizeOf95
  v40 := Tryz.zeroValue95
  t46 := Tryz.underlying100
  a46 := Tryz.isAgg100
  z46 := Tryz.sizeOf100
  v46 := Tryz.zeroValue100
  t49 := Tryz.underlying122
  a49 := Tryz.isAgg122
  z49 := Tryz.sizeOf122
  v49 := Tryz.zeroValue122
  t51 := Tryz.underlying111
  a51 := Tryz.isAgg111
  z51 := Tryz.sizeOf111
  v51 := Tryz.zeroValue111
  t119 := Tryz.underlying93
  a119 := Tryz.isAgg93
  z119 := Tryz.sizeOf93
  t141 := Tryz.underlying113
  a141 := Tryz.isAgg113
  z141 := Tryz.sizeOf113
  v141 := Tryz.zeroValue113
  t152 := Tryz.underlying108
  a152 := Tryz.isAgg108
  z152 := Tryz.sizeOf108
  v152 := Tryz.zeroValue108
  t154 := Tryz.underlying110
  a154 := Tryz.isAgg110
  z154 := Tryz.sizeOf110
  v154 := Tryz.zeroValue110
  t193 := Tryz.underlying118
  a193 := Tryz.isAgg118
  z193 := Tryz.sizeOf118
  v193 := Tryz.zeroValue118
  t194 := Tryz.underlying119
  a194 := Tryz.isAgg119
  z194 := Tryz.sizeOf119
  v194 := Tryz.zeroValue119
  t196 := Tryz.underlying121
  a196 := Tryz.isAgg121
  z196 := Tryz.sizeOf121
  v196 := Tryz.zeroValue121
  t198 := Tryz.underlying124
  a198 := Tryz.isAgg124
  z198 := Tryz.sizeOf124
  v198 := Tryz.zeroValue124
  t201 := Tryz.underlying127
  a201 := Tryz.isAgg127
  z201 := Tryz.sizeOf127
  v201 := Tryz.zeroValue127
  t226 := Tryz.underlying132
  a226 := Tryz.isAgg132
  z226 := Tryz.sizeOf132
  v226 := Tryz.zeroValue132
  t227 := Tryz.underlying133
  a227 := Tryz.isAgg133
  z227 := Tryz.sizeOf133
  v227 := Tryz.zeroValue133
  g0 := by kernel_rfl
  g6 := by kernel_rfl }
open Go.RowKit Go.Lib in
theorem Tryz.strings_Fields (s : ByteArray) (w : World) (hs : s.size < 4294967281) (hascii : ∀ (j : Nat) b, s.data.toList[j]? = some b → b.toNat < 128) (htab : Lib.TabIs Tryz.prog w "strings.asciiSpace" .u8 Lib.asciiSpaceTab) :
    Calls Tryz.prog 45 #[.string s] w fun e w' =>
      e = .returned (.slice (some ⟨w.heap.size, 0, none⟩) (Lib.fields s.data.toList).length (Lib.fields s.data.toList).length) ∧ w' = w.alloc (.cells ((Lib.fields s.data.toList).map fun l => Value.string ⟨l.toArray⟩).toArray 9) := Any.strings_Fields Tryz.lays157 (by kernel_rfl) (by kernel_rfl) s w hs hascii htab
def Tryz.laysM146_ren : Go.Shelf.Ren := ⟨fun | 146 => 58 | 221 => 62 | 268 => 65 | 138 => 66 | 143 => 67 | 195 => 71 | 197 => 72 | 218 => 73 | 219 => 74 | 260 => 81 | 217 => 82 | 225 => 83 | 224 => 84 | 267 => 85 | 266 => 90 | 314 => 91 | n => n, fun | 9 => 9 | 31 => 33 | 3 => 3 | 4 => 4 | 0 => 0 | 105 => 138 | 21 => 21 | 5 => 5 | 46 => 100 | 119 => 93 | 139 => 99 | 138 => 98 | 146 => 155 | 51 => 111 | n => n, fun | 1 => 7 | 3 => 4 | 4 => 5 | n => n⟩
theorem Tryz.laysM146 : Go.Proofs.LaysM.n146 Tryz.prog Tryz.laysM146_ren := {
  mixed := by kernel_rfl
  f138 := Tryz.func66.trans (congrArg some (by kernel_rfl))
  f143 := Tryz.func67.trans (congrArg some (by kernel_rfl))
  f146 := Tryz.func58.trans (congrArg some (by kernel_rfl))
  f195 := Tryz.func71.trans (congrArg some (by kernel_rfl))
  f197 := Tryz.func72.trans (congrArg some (by kernel_rfl))
  f217 := Tryz.func82.trans (congrArg some (by kernel_rfl))
  f218 := Tryz.func73.trans (congrArg some (by kernel_rfl))
  f219 := Tryz.func74.trans (congrArg some (by kernel_rfl))
  f221 := Tryz.func62.trans (congrArg some (by kernel_rfl))
  f224 := Tryz.func84.trans (congrArg some (by kernel_rfl))
  f225 := Tryz.func83.trans (congrArg some (by kernel_rfl))
  f260 := Tryz.func81.trans (congrArg some (by kernel_rfl))
  f266 := Tryz.func90.trans (congrArg some (by kernel_rfl))
  f267 := Tryz.func85.trans (congrArg some (by kernel_rfl))
  f268 := Tryz.func65.trans (congrArg some (by kernel_rfl))
  f314 := Tryz.func91.trans (congrArg some (by kernel_rfl))
  t0 := Tryz.underlying0
  a0 := Tryz.isAgg0
  z0 := Tryz.sizeOf0
  v0 := Tryz.zeroValue0
  t3 := Tryz.underlying3
  a3 := Tryz.isAgg3
  z3 := Tryz.sizeOf3
  v3 := Tryz.zeroValue3
  t4 := Tryz.underlying4
  a4 := Tryz.isAgg4
  z4 := Tryz.sizeOf4
  v4 := Tryz.zeroValue4
  t5 := Tryz.underlying5
  a5 := Tryz.isAgg5
  z5 := Tryz.sizeOf5
  v5 := Tryz.zeroValue5
  t9 := Tryz.underlying9
  a9 := Tryz.isAgg9
  z9 := Tryz.sizeOf9
  v9 := Tryz.zeroValue9
  t21 := Tryz.underlying21
  a21 := Tryz.isAgg21
  z21 := Tryz.sizeOf21
  v21 := Tryz.zeroValue21
  t31 := Tryz.underlying33
  a31 := Tryz.isAgg33
  z31 := Tryz.sizeOf33
  v31 := Tryz.zeroValue33
  t46 := Tryz.underlying100
  a46 := Tryz.isAgg100
  z46 := Tryz.sizeOf100
  v46 := Tryz.zeroValue100
  t51 := Tryz.underlying111
  a51 := Tryz.isAgg111
  z51 := Tryz.sizeOf111
  v51 := Tryz.zeroValue111
  t105 := Tryz.underlying138
  a105 := Tryz.isAgg138
  z105 := Tryz.sizeOf138
  v105 := Tryz.zeroValue138
  t119 := Tryz.underlying93
  a119 := Tryz.isAgg93
  z119 := Tryz.sizeOf93
  t138 := Tryz.underlying98
  a138 := Tryz.isAgg98
  z138 := Tryz.sizeOf98
  v138 := Tryz.zeroValue98
  t139 := Tryz.underlying99
  a139 := Tryz.isAgg99
  z139 := Tryz.sizeOf99
  v139 := Tryz.zeroValue99
  t146 := Tryz.underlying155
  a146 := Tryz.isAgg155
  z146 := Tryz.sizeOf155
  v146 := Tryz.zeroValue155
  g1 := by kernel_rfl
  g3 := by kernel_rfl
  g4 := by kernel_rfl
  i0 := by kernel_rfl
  i3 := by kernel_rfl
  i4 := by kernel_rfl
  i5 := by kernel_rfl
  i9 := by kernel_rfl
  i21 := by kernel_rfl
  i31 := by kernel_rfl
  i46 := by kernel_rfl
  i51 := by kernel_rfl
  i105 := by kernel_rfl
  i138 := by kernel_rfl
  i139 := by kernel_rfl
  i146 := by kernel_rfl
  m1 := by kernel_rfl
  s1_3 := fun w h => Go.Proofs.cell_of_shapedOpen_int (zero := #[.int .i64 0]) (t := 3) h (of_decide_eq_true (by kernel_rfl)) (by kernel_rfl) rfl (by kernel_rfl) (by kernel_rfl) Tryz.underlying3
  m3 := by kernel_rfl
  m4 := by kernel_rfl }
def Tryz.lays229_ren : Go.Shelf.Ren := ⟨fun | 229 => 50 | n => n, fun | 9 => 9 | 40 => 95 | 31 => 33 | 152 => 108 | 3 => 3 | 0 => 0 | 4 => 4 | 21 => 21 | 154 => 110 | n => n, fun | n => n⟩
theorem Tryz.lays229 : Go.Proofs.Lays.n229 Tryz.prog Tryz.lays229_ren := {
  mixed := by kernel_rfl
  f229 := Tryz.func50.trans (congrArg some (by kernel_rfl))
  t0 := Tryz.underlying0
  a0 := Tryz.isAgg0
  z0 := Tryz.sizeOf0
  v0 := Tryz.zeroValue0
  t3 := Tryz.underlying3
  a3 := Tryz.isAgg3
  z3 := Tryz.sizeOf3
  v3 := Tryz.zeroValue3
  t4 := Tryz.underlying4
  a4 := Tryz.isAgg4
  z4 := Tryz.sizeOf4
  v4 := Tryz.zeroValue4
  t9 := Tryz.underlying9
  a9 := Tryz.isAgg9
  z9 := Tryz.sizeOf9
  v9 := Tryz.zeroValue9
  t21 := Tryz.underlying21
  a21 := Tryz.isAgg21
  z21 := Tryz.sizeOf21
  v21 := Tryz.zeroValue21
  t31 := Tryz.underlying33
  a31 := Tryz.isAgg33
  z31 := Tryz.sizeOf33
  v31 := Tryz.zeroValue33
  t40 := Tryz.underlying95
  a40 := Tryz.isAgg95
  z40 := Tryz.sizeOf95
  v40 := Tryz.zeroValue95
  t152 := Tryz.underlying108
  a152 := Tryz.isAgg108
  z152 := Tryz.sizeOf108
  v152 := Tryz.zeroValue108
  t154 := Tryz.underlying110
  a154 := Tryz.isAgg110
  z154 := Tryz.sizeOf110
  v154 := Tryz.zeroValue110 }
open Go.RowKit Go.Lib in
theorem Tryz.strings_FieldsFunc_runes (g : Nat) (lb : Array Value) (eg : ∀ args w, (callFunc g args).run Tryz.prog w = .ok (.enter g args) w) (p : Nat → Bool) (s : ByteArray) (w : World) (hs : s.size ≤ 4294967296) (hp : PredAtRunes Tryz.prog g lb p w) :
    Calls Tryz.prog 50 #[.string s, .func (.func g) #[] lb] w fun e w' => ∃ A, e = .returned (.slice (some ⟨A, 0, none⟩) (Lib.goFieldsP p s).length (Lib.goFieldsP p s).length) ∧ w.heap.size ≤ A ∧
      w'.ownsRow w.heap.size 9 1 (.slice (some ⟨A, 0, none⟩) (Lib.goFieldsP p s).length (Lib.goFieldsP p s).length) (Lib.goFieldsP p s).length ((Lib.goFieldsP p s).map Value.string) ∧ Below w.heap.size w w' := Any.strings_FieldsFunc_runes Tryz.lays229 g lb eg p s w hs hp (by kernel_rfl) (by kernel_rfl)
def Tryz.laysNm216_ren : Go.Shelf.Ren := ⟨fun | 16 => 40 | n => n, fun | 24 => 33 | 9 => 9 | 4 => 4 | n => n, fun | n => n⟩
theorem Tryz.laysNm216 : Go.Proofs.Lays2.n16 Tryz.prog Tryz.laysNm216_ren := {
  mixed := by kernel_rfl
  f16 := Tryz.func40.trans (congrArg some (by kernel_rfl))
  t4 := Tryz.underlying4
  a4 := Tryz.isAgg4
  z4 := Tryz.sizeOf4
  v4 := Tryz.zeroValue4
  t9 := Tryz.underlying9
  a9 := Tryz.isAgg9
  z9 := Tryz.sizeOf9
  v9 := Tryz.zeroValue9
  t24 := Tryz.underlying33
  a24 := Tryz.isAgg33
  z24 := Tryz.sizeOf33
  v24 := Tryz.zeroValue33
  i9 := by kernel_rfl }
open Go.RowKit Go.Lib in
theorem Tryz.slices_Clone_string (b off n c : Nat) (zs : List ByteArray) (w : World) (hz : n ≤ zs.length) (hbig : n * 16 ≤ 140737488355328) (hc : ∀ j, j < zs.length → w.cell? ⟨b, off + j, none⟩ = some (.string (zs.getD j ByteArray.empty))) :
    Calls Tryz.prog 40 #[.slice (some ⟨b, off, none⟩) n c] w fun e w' => ∃ v', e = .returned v' ∧ w'.ownsRow w.heap.size 9 1 v' n ((zs.take n).map (Value.string)) ∧ v' ≠ .slice none 0 0 ∧ Below w.heap.size w w' := Any.slices_Clone_string Tryz.laysNm216 b off n c zs w hz hbig hc
open Go.RowKit Go.Lib in
theorem Tryz.slices_Clone_string_nil (n c : Nat) (w : World) :
    Calls Tryz.prog 40 #[.slice none n c] w fun e w' => e = .returned (.slice none 0 0) ∧ w' = w := Any.slices_Clone_string_nil Tryz.laysNm216 n c w
open Go.RowKit Go.Lib in
theorem Tryz.slices_Clone_string_zero (a : Addr) (c : Nat) (w : World) :
    Calls Tryz.prog 40 #[.slice (some a) 0 c] w fun e w' => ∃ v', e = .returned v' ∧ w'.ownsRow w.heap.size 9 1 v' 0 [] ∧ v' ≠ .slice none 0 0 ∧ Below w.heap.size w w' := Any.slices_Clone_string_zero Tryz.laysNm216 a c w
def Tryz.laysValid_ren : Go.Shelf.Ren := ⟨fun | 196 => 46 | 259 => 52 | n => n, fun | 9 => 9 | 4 => 4 | 3 => 3 | 5 => 5 | 12 => 12 | 119 => 93 | 0 => 0 | 46 => 100 | 139 => 99 | 138 => 98 | 53 => 114 | n => n, fun | 3 => 4 | 4 => 5 | n => n⟩
theorem Tryz.laysValid : Go.Proofs.Lays.n196 Tryz.prog Tryz.laysValid_ren := {
  mixed := by kernel_rfl
  f196 := Tryz.func46.trans (congrArg some (by kernel_rfl))
  f259 := Tryz.func52.trans (congrArg some (by kernel_rfl))
  t0 := Tryz.underlying0
  a0 := Tryz.isAgg0
  z0 := Tryz.sizeOf0
  v0 := Tryz.zeroValue0
  t3 := Tryz.underlying3
  a3 := Tryz.isAgg3
  z3 := Tryz.sizeOf3
  v3 := Tryz.zeroValue3
  t4 := Tryz.underlying4
  a4 := Tryz.isAgg4
  z4 := Tryz.sizeOf4
  v4 := Tryz.zeroValue4
  t5 := Tryz.underlying5
  a5 := Tryz.isAgg5
  z5 := Tryz.sizeOf5
  v5 := Tryz.zeroValue5
  t9 := Tryz.underlying9
  a9 := Tryz.isAgg9
  z9 := Tryz.sizeOf9
  v9 := Tryz.zeroValue9
  t12 := Tryz.underlying12
  a12 := Tryz.isAgg12
  z12 := Tryz.sizeOf12
  v12 := Tryz.zeroValue12
  t46 := Tryz.underlying100
  a46 := Tryz.isAgg100
  z46 := Tryz.sizeOf100
  v46 := Tryz.zeroValue100
  t53 := Tryz.underlying114
  a53 := Tryz.isAgg114
  z53 := Tryz.sizeOf114
  v53 := Tryz.zeroValue114
  t119 := Tryz.underlying93
  a119 := Tryz.isAgg93
  z119 := Tryz.sizeOf93
  t138 := Tryz.underlying98
  a138 := Tryz.isAgg98
  z138 := Tryz.sizeOf98
  v138 := Tryz.zeroValue98
  t139 := Tryz.underlying99
  a139 := Tryz.isAgg99
  z139 := Tryz.sizeOf99
  v139 := Tryz.zeroValue99
  g3 := by kernel_rfl
  g4 := by kernel_rfl }
end Go.Proofs
