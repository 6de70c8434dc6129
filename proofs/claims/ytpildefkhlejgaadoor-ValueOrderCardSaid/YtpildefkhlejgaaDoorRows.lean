/-
  NARROWER THAN 'FOR EVERY INPUT', by the rows' own cells (each row's printed sentence says how): LexerTokens: laid · LexerLong: laid · LexerBlank: laid · LexerParts: laid · LexerTexts: laid · ValueVersions: laid · ValueOrder: laid · ValueParts: laid.
  DERIVED. THE GIVEN ROWS OF THIS SEAT. 8 by the template 'for every input the law returns true; each argument reads behind the call as it read before'; 0 by the template 'total and deterministic' (their statements: YtpildefkhlejgaaDoorTotals.lean).
  GIVEN WITH THE SEED: the statements are not yours to turn. If you find one false, say at which input.
  Laid BY PROGRAM, IN A SANDBOX (cutbox-rows.mjs): the forced cells as the released guide's own fill.sh prints them over the translation cf94a63f3bfb588e… (all of the seat's roots in one cut). By AI agents, Wed Nov 11 2026. No macro, syntax, notation, axiom, sorry.
-/
import Derived.Test.YtpildefkhlejgaaDoorChecked
import GoSem.PinnedTables
import GoSem.Claim
import GoSem.ClaimJoined
import GoSem.ClaimMapViews
import Derived.JoinedTies
import Derived.KernelRfl
namespace Go.Proofs.YtpildefkhlejgaaDoor
/- THE CELL 'sum', in the pinned program and in every row, IS THE sha256 OF THE DUMP (.gsa) THAT YtpildefkhlejgaaDoorProg.lean LOADS. Nothing in Lean hashes anything: it is a label: what it is worth is what the hold of that sum in a sandbox is worth. -/
noncomputable def Tryd.pinned : Pinned := { name := "ytpildefkhlejgaadoor", sum := "cf94a63f3bfb588e720de2ac7d6f6933aefe2a1b916d060f760c7eaa9ce0f36b", checked := Tryd.checked }
namespace Rows
def none {H : Type} : Left H := { results := [], args := [] }

/- WHAT THE LISTED PACKAGE-LEVEL VARIABLES READ AS WHEN THE CALL BEGINS. Each datum BY PROGRAM (the guide's laid-datum.mjs) off the statement by which the dump's own 'gosem.cut.vars' lays the variable. In a bare row this is a premise. The card (YtpildefkhlejgaaDoorCards.lean) ties it to the program's text. -/
def laid_math_bits_deBruijn32tab {H : Type} : DataW H := .agg [.lit (.int .u8 0), .lit (.int .u8 1), .lit (.int .u8 28), .lit (.int .u8 2), .lit (.int .u8 29), .lit (.int .u8 14), .lit (.int .u8 24), .lit (.int .u8 3), .lit (.int .u8 30), .lit (.int .u8 22), .lit (.int .u8 20), .lit (.int .u8 15), .lit (.int .u8 25), .lit (.int .u8 17), .lit (.int .u8 4), .lit (.int .u8 8), .lit (.int .u8 31), .lit (.int .u8 27), .lit (.int .u8 13), .lit (.int .u8 23), .lit (.int .u8 21), .lit (.int .u8 19), .lit (.int .u8 16), .lit (.int .u8 7), .lit (.int .u8 26), .lit (.int .u8 12), .lit (.int .u8 18), .lit (.int .u8 6), .lit (.int .u8 11), .lit (.int .u8 5), .lit (.int .u8 10), .lit (.int .u8 9)]
def laid_math_bits_deBruijn64tab {H : Type} : DataW H := .agg [.lit (.int .u8 0), .lit (.int .u8 1), .lit (.int .u8 56), .lit (.int .u8 2), .lit (.int .u8 57), .lit (.int .u8 49), .lit (.int .u8 28), .lit (.int .u8 3), .lit (.int .u8 61), .lit (.int .u8 58), .lit (.int .u8 42), .lit (.int .u8 50), .lit (.int .u8 38), .lit (.int .u8 29), .lit (.int .u8 17), .lit (.int .u8 4), .lit (.int .u8 62), .lit (.int .u8 47), .lit (.int .u8 59), .lit (.int .u8 36), .lit (.int .u8 45), .lit (.int .u8 43), .lit (.int .u8 51), .lit (.int .u8 22), .lit (.int .u8 53), .lit (.int .u8 39), .lit (.int .u8 33), .lit (.int .u8 30), .lit (.int .u8 24), .lit (.int .u8 18), .lit (.int .u8 12), .lit (.int .u8 5), .lit (.int .u8 63), .lit (.int .u8 55), .lit (.int .u8 48), .lit (.int .u8 27), .lit (.int .u8 60), .lit (.int .u8 41), .lit (.int .u8 37), .lit (.int .u8 16), .lit (.int .u8 46), .lit (.int .u8 35), .lit (.int .u8 44), .lit (.int .u8 21), .lit (.int .u8 52), .lit (.int .u8 32), .lit (.int .u8 23), .lit (.int .u8 11), .lit (.int .u8 54), .lit (.int .u8 26), .lit (.int .u8 40), .lit (.int .u8 15), .lit (.int .u8 34), .lit (.int .u8 20), .lit (.int .u8 31), .lit (.int .u8 10), .lit (.int .u8 25), .lit (.int .u8 14), .lit (.int .u8 19), .lit (.int .u8 9), .lit (.int .u8 13), .lit (.int .u8 8), .lit (.int .u8 7), .lit (.int .u8 6)]
def laid_internal_strconv_uint64pow10 {H : Type} : DataW H := .agg [.lit (.int .u64 1), .lit (.int .u64 10), .lit (.int .u64 100), .lit (.int .u64 1000), .lit (.int .u64 10000), .lit (.int .u64 100000), .lit (.int .u64 1000000), .lit (.int .u64 10000000), .lit (.int .u64 100000000), .lit (.int .u64 1000000000), .lit (.int .u64 10000000000), .lit (.int .u64 100000000000), .lit (.int .u64 1000000000000), .lit (.int .u64 10000000000000), .lit (.int .u64 100000000000000), .lit (.int .u64 1000000000000000), .lit (.int .u64 10000000000000000), .lit (.int .u64 100000000000000000), .lit (.int .u64 1000000000000000000), .lit (.int .u64 10000000000000000000)]
def laid_unicode_utf8_acceptRanges {H : Type} : DataW H := .agg [.agg [.lit (.int .u8 128), .lit (.int .u8 191)], .agg [.lit (.int .u8 160), .lit (.int .u8 191)], .agg [.lit (.int .u8 128), .lit (.int .u8 159)], .agg [.lit (.int .u8 144), .lit (.int .u8 191)], .agg [.lit (.int .u8 128), .lit (.int .u8 143)], .agg [.lit (.int .u8 0), .lit (.int .u8 0)], .agg [.lit (.int .u8 0), .lit (.int .u8 0)], .agg [.lit (.int .u8 0), .lit (.int .u8 0)], .agg [.lit (.int .u8 0), .lit (.int .u8 0)], .agg [.lit (.int .u8 0), .lit (.int .u8 0)], .agg [.lit (.int .u8 0), .lit (.int .u8 0)], .agg [.lit (.int .u8 0), .lit (.int .u8 0)], .agg [.lit (.int .u8 0), .lit (.int .u8 0)], .agg [.lit (.int .u8 0), .lit (.int .u8 0)], .agg [.lit (.int .u8 0), .lit (.int .u8 0)], .agg [.lit (.int .u8 0), .lit (.int .u8 0)]]
def laid_strconv_ErrRange {H : Type} : DataW H := .iface "*errors.errorString" (.ptr (.agg [.lit (.string [118, 97, 108, 117, 101, 32, 111, 117, 116, 32, 111, 102, 32, 114, 97, 110, 103, 101])]))
def laid_strconv_ErrSyntax {H : Type} : DataW H := .iface "*errors.errorString" (.ptr (.agg [.lit (.string [105, 110, 118, 97, 108, 105, 100, 32, 115, 121, 110, 116, 97, 120])]))
def laid_flagstone_flagstonelaw7_pieces {H : Type} : DataW H := .agg [.lit (.string [102, 108, 97, 103]), .lit (.string [97, 45, 98, 95, 49]), .lit (.string [110, 111, 116]), .lit (.string [48]), .lit (.string [45, 49, 55]), .lit (.string [48, 48, 55]), .lit (.string [49, 46, 50, 46, 51]), .lit (.string [49, 46, 50]), .lit (.string [49, 48, 57, 57, 53, 49, 49, 54, 50, 55, 55, 55, 54]), .lit (.string [49, 48, 57, 57, 53, 49, 49, 54, 50, 55, 55, 55, 55]), .lit (.string [34, 120, 34]), .lit (.string [34, 97, 92, 34, 98, 34]), .lit (.string [34, 111, 112, 101, 110]), .lit (.string [123]), .lit (.string [125]), .lit (.string [40]), .lit (.string [41]), .lit (.string [91]), .lit (.string [93]), .lit (.string [44]), .lit (.string [46]), .lit (.string [60]), .lit (.string [60, 61]), .lit (.string [62]), .lit (.string [62, 61]), .lit (.string [35, 99]), .lit (.string [9]), .lit (.string [45]), .lit (.string [65]), .lit (.string [0]), .lit (.string [34, 92, 110, 34]), .lit (.string [195, 169])]
/-- One of Go's own tables, pinned by name: the form's constant. -/
def laid_unicode_utf8_first : DataW Unit := Go.Pinned.utf8First
def laid_flagstone_flagstonedraw_texts {H : Type} : DataW H := .agg [.lit (.string [115, 101]), .lit (.string [100, 101]), .lit (.string [117, 115]), .lit (.string [112, 114, 111]), .lit (.string [102, 114, 101, 101]), .lit (.string []), .lit (.string [97, 34, 98]), .lit (.string [99, 92]), .lit (.string [195, 169]), .lit (.string [112, 114, 111, 115, 101]), .lit (.string [120, 32, 121])]
def laid_flagstone_flagstonedraw_versions {H : Type} : DataW H := .agg [.lit (.string [49, 46, 48, 46, 48]), .lit (.string [49, 46, 50, 46, 51]), .lit (.string [49, 46, 49, 48, 46, 48]), .lit (.string [50, 46, 48, 46, 49]), .lit (.string [48, 46, 48, 46, 48]), .lit (.string [57, 57, 57, 57, 57, 57, 46, 48, 46, 57, 57, 57, 57, 57, 57])]
def laid_flagstone_flagstonedraw_lists {H : Type} : DataW H := .agg [.slice [] [], .slice [.lit (.string [112, 114, 111])] [], .slice [.lit (.string [100, 101]), .lit (.string [115, 101])] [], .slice [.lit (.string []), .lit (.string [102, 114, 101, 101]), .lit (.string [117, 115])] [], .slice [.lit (.string [120, 32, 121])] []]
def laid_flagstone_value_names {H : Type} : DataW H := .agg [.lit (.string [98, 111, 111, 108]), .lit (.string [110, 117, 109, 98, 101, 114]), .lit (.string [116, 101, 120, 116]), .lit (.string [118, 101, 114, 115, 105, 111, 110]), .lit (.string [108, 105, 115, 116])]

/-- 'flagstonelaw7.LexerTokens': WHATEVER THE INPUT: true; the input reads as it did. -/
def lexerTokensSpec : ChangeSpec := { name := "lexerTokens", fn := fun _ => fun
  | [d1, d2] => { results := [.lit (.bool true)], args := [d1, d2] }
  | _ => none }
def lexerTokensRow : OpenClaim := { program := "ytpildefkhlejgaadoor", sum := "cf94a63f3bfb588e720de2ac7d6f6933aefe2a1b916d060f760c7eaa9ce0f36b", func := "flagstone/flagstonelaw7.LexerTokens", spec := "lexerTokens", inPlace := ["internal/bytealg.CountString", "internal/bytealg.IndexByteString", "internal/bytealg.IndexString", "internal/abi.NoEscape"], unfollowed := true, recurses := true, named := ["unicode/utf8.first", "unicode/utf8.acceptRanges", "internal/bytealg.MaxLen", "strconv.ErrSyntax", "strconv.ErrRange", "internal/strconv.uint64pow10", "math/bits.deBruijn32tab", "math/bits.deBruijn64tab", "flagstone/flagstonelaw7.pieces"], apart := false, laid := [("math/bits.deBruijn32tab", laid_math_bits_deBruijn32tab), ("math/bits.deBruijn64tab", laid_math_bits_deBruijn64tab), ("internal/strconv.uint64pow10", laid_internal_strconv_uint64pow10), ("unicode/utf8.acceptRanges", laid_unicode_utf8_acceptRanges), ("strconv.ErrRange", laid_strconv_ErrRange), ("strconv.ErrSyntax", laid_strconv_ErrSyntax), ("flagstone/flagstonelaw7.pieces", laid_flagstone_flagstonelaw7_pieces), ("unicode/utf8.first", laid_unicode_utf8_first)] }
def LexerTokensSaid : Prop := lexerTokensRow.holds Tryd.pinned (OpenSpec.ofChange lexerTokensSpec)

/-- ITS FALSE NEIGHBOUR: 'it returns false'. Refute it at one input. -/
def lexerTokensWrong : ChangeSpec := { name := "lexerTokens", fn := fun _ => fun
  | [d1, d2] => { results := [.lit (.bool false)], args := [d1, d2] }
  | _ => none }
def LexerTokensWrongFalsely : Prop := lexerTokensRow.holds Tryd.pinned (OpenSpec.ofChange lexerTokensWrong)

/-- 'flagstonelaw7.LexerLong': WHATEVER THE INPUT: true; the input reads as it did. -/
def lexerLongSpec : ChangeSpec := { name := "lexerLong", fn := fun _ => fun
  | [d1, d2] => { results := [.lit (.bool true)], args := [d1, d2] }
  | _ => none }
def lexerLongRow : OpenClaim := { program := "ytpildefkhlejgaadoor", sum := "cf94a63f3bfb588e720de2ac7d6f6933aefe2a1b916d060f760c7eaa9ce0f36b", func := "flagstone/flagstonelaw7.LexerLong", spec := "lexerLong", inPlace := ["internal/bytealg.CountString", "internal/bytealg.IndexByteString", "internal/bytealg.IndexString", "internal/abi.NoEscape"], unfollowed := true, recurses := true, named := ["unicode/utf8.first", "unicode/utf8.acceptRanges", "internal/bytealg.MaxLen", "strconv.ErrSyntax", "strconv.ErrRange", "internal/strconv.uint64pow10", "math/bits.deBruijn32tab", "math/bits.deBruijn64tab"], apart := false, laid := [("math/bits.deBruijn32tab", laid_math_bits_deBruijn32tab), ("math/bits.deBruijn64tab", laid_math_bits_deBruijn64tab), ("internal/strconv.uint64pow10", laid_internal_strconv_uint64pow10), ("unicode/utf8.acceptRanges", laid_unicode_utf8_acceptRanges), ("strconv.ErrRange", laid_strconv_ErrRange), ("strconv.ErrSyntax", laid_strconv_ErrSyntax), ("unicode/utf8.first", laid_unicode_utf8_first)] }
def LexerLongSaid : Prop := lexerLongRow.holds Tryd.pinned (OpenSpec.ofChange lexerLongSpec)

/-- ITS FALSE NEIGHBOUR: 'it returns false'. Refute it at one input. -/
def lexerLongWrong : ChangeSpec := { name := "lexerLong", fn := fun _ => fun
  | [d1, d2] => { results := [.lit (.bool false)], args := [d1, d2] }
  | _ => none }
def LexerLongWrongFalsely : Prop := lexerLongRow.holds Tryd.pinned (OpenSpec.ofChange lexerLongWrong)

/-- 'flagstonelaw7.LexerBlank': WHATEVER THE INPUT: true; the input reads as it did. -/
def lexerBlankSpec : ChangeSpec := { name := "lexerBlank", fn := fun _ => fun
  | [d1, d2] => { results := [.lit (.bool true)], args := [d1, d2] }
  | _ => none }
def lexerBlankRow : OpenClaim := { program := "ytpildefkhlejgaadoor", sum := "cf94a63f3bfb588e720de2ac7d6f6933aefe2a1b916d060f760c7eaa9ce0f36b", func := "flagstone/flagstonelaw7.LexerBlank", spec := "lexerBlank", inPlace := ["internal/bytealg.CountString", "internal/bytealg.IndexByteString", "internal/bytealg.IndexString", "internal/abi.NoEscape"], unfollowed := true, recurses := true, named := ["flagstone/flagstonelaw7.pieces", "unicode/utf8.first", "unicode/utf8.acceptRanges", "internal/bytealg.MaxLen", "strconv.ErrSyntax", "strconv.ErrRange", "internal/strconv.uint64pow10", "math/bits.deBruijn32tab", "math/bits.deBruijn64tab"], apart := false, laid := [("math/bits.deBruijn32tab", laid_math_bits_deBruijn32tab), ("math/bits.deBruijn64tab", laid_math_bits_deBruijn64tab), ("internal/strconv.uint64pow10", laid_internal_strconv_uint64pow10), ("unicode/utf8.acceptRanges", laid_unicode_utf8_acceptRanges), ("strconv.ErrRange", laid_strconv_ErrRange), ("strconv.ErrSyntax", laid_strconv_ErrSyntax), ("flagstone/flagstonelaw7.pieces", laid_flagstone_flagstonelaw7_pieces), ("unicode/utf8.first", laid_unicode_utf8_first)] }
def LexerBlankSaid : Prop := lexerBlankRow.holds Tryd.pinned (OpenSpec.ofChange lexerBlankSpec)

/-- ITS FALSE NEIGHBOUR: 'it returns false'. Refute it at one input. -/
def lexerBlankWrong : ChangeSpec := { name := "lexerBlank", fn := fun _ => fun
  | [d1, d2] => { results := [.lit (.bool false)], args := [d1, d2] }
  | _ => none }
def LexerBlankWrongFalsely : Prop := lexerBlankRow.holds Tryd.pinned (OpenSpec.ofChange lexerBlankWrong)

/-- 'flagstonelaw7.LexerParts': WHATEVER THE INPUT: true; the input reads as it did. -/
def lexerPartsSpec : ChangeSpec := { name := "lexerParts", fn := fun _ => fun
  | [d1, d2] => { results := [.lit (.bool true)], args := [d1, d2] }
  | _ => none }
def lexerPartsRow : OpenClaim := { program := "ytpildefkhlejgaadoor", sum := "cf94a63f3bfb588e720de2ac7d6f6933aefe2a1b916d060f760c7eaa9ce0f36b", func := "flagstone/flagstonelaw7.LexerParts", spec := "lexerParts", inPlace := ["internal/bytealg.CountString", "internal/bytealg.IndexByteString", "internal/bytealg.IndexString", "internal/abi.NoEscape"], unfollowed := true, recurses := true, named := ["unicode/utf8.first", "unicode/utf8.acceptRanges", "internal/bytealg.MaxLen", "strconv.ErrSyntax", "strconv.ErrRange", "internal/strconv.uint64pow10", "math/bits.deBruijn32tab", "math/bits.deBruijn64tab", "flagstone/flagstonelaw7.pieces"], apart := false, laid := [("math/bits.deBruijn32tab", laid_math_bits_deBruijn32tab), ("math/bits.deBruijn64tab", laid_math_bits_deBruijn64tab), ("internal/strconv.uint64pow10", laid_internal_strconv_uint64pow10), ("unicode/utf8.acceptRanges", laid_unicode_utf8_acceptRanges), ("strconv.ErrRange", laid_strconv_ErrRange), ("strconv.ErrSyntax", laid_strconv_ErrSyntax), ("flagstone/flagstonelaw7.pieces", laid_flagstone_flagstonelaw7_pieces), ("unicode/utf8.first", laid_unicode_utf8_first)] }
def LexerPartsSaid : Prop := lexerPartsRow.holds Tryd.pinned (OpenSpec.ofChange lexerPartsSpec)

/-- ITS FALSE NEIGHBOUR: 'it returns false'. Refute it at one input. -/
def lexerPartsWrong : ChangeSpec := { name := "lexerParts", fn := fun _ => fun
  | [d1, d2] => { results := [.lit (.bool false)], args := [d1, d2] }
  | _ => none }
def LexerPartsWrongFalsely : Prop := lexerPartsRow.holds Tryd.pinned (OpenSpec.ofChange lexerPartsWrong)

/-- 'flagstonelaw7.LexerTexts': WHATEVER THE INPUT: true; the input reads as it did. -/
def lexerTextsSpec : ChangeSpec := { name := "lexerTexts", fn := fun _ => fun
  | [d1, d2] => { results := [.lit (.bool true)], args := [d1, d2] }
  | _ => none }
def lexerTextsRow : OpenClaim := { program := "ytpildefkhlejgaadoor", sum := "cf94a63f3bfb588e720de2ac7d6f6933aefe2a1b916d060f760c7eaa9ce0f36b", func := "flagstone/flagstonelaw7.LexerTexts", spec := "lexerTexts", inPlace := ["internal/bytealg.CountString", "internal/bytealg.IndexByteString", "internal/bytealg.IndexString", "internal/abi.NoEscape"], unfollowed := true, recurses := true, named := ["unicode/utf8.first", "unicode/utf8.acceptRanges", "internal/bytealg.MaxLen", "strconv.ErrSyntax", "strconv.ErrRange", "internal/strconv.uint64pow10", "math/bits.deBruijn32tab", "math/bits.deBruijn64tab"], apart := false, laid := [("math/bits.deBruijn32tab", laid_math_bits_deBruijn32tab), ("math/bits.deBruijn64tab", laid_math_bits_deBruijn64tab), ("internal/strconv.uint64pow10", laid_internal_strconv_uint64pow10), ("unicode/utf8.acceptRanges", laid_unicode_utf8_acceptRanges), ("strconv.ErrRange", laid_strconv_ErrRange), ("strconv.ErrSyntax", laid_strconv_ErrSyntax), ("unicode/utf8.first", laid_unicode_utf8_first)] }
def LexerTextsSaid : Prop := lexerTextsRow.holds Tryd.pinned (OpenSpec.ofChange lexerTextsSpec)

/-- ITS FALSE NEIGHBOUR: 'it returns false'. Refute it at one input. -/
def lexerTextsWrong : ChangeSpec := { name := "lexerTexts", fn := fun _ => fun
  | [d1, d2] => { results := [.lit (.bool false)], args := [d1, d2] }
  | _ => none }
def LexerTextsWrongFalsely : Prop := lexerTextsRow.holds Tryd.pinned (OpenSpec.ofChange lexerTextsWrong)

/-- 'flagstonelaw3.ValueVersions': WHATEVER THE INPUT: true; the input reads as it did. -/
def valueVersionsSpec : ChangeSpec := { name := "valueVersions", fn := fun _ => fun
  | [d1, d2, d3] => { results := [.lit (.bool true)], args := [d1, d2, d3] }
  | _ => none }
def valueVersionsRow : OpenClaim := { program := "ytpildefkhlejgaadoor", sum := "cf94a63f3bfb588e720de2ac7d6f6933aefe2a1b916d060f760c7eaa9ce0f36b", func := "flagstone/flagstonelaw3.ValueVersions", spec := "valueVersions", inPlace := ["internal/bytealg.CountString", "internal/bytealg.IndexByteString", "internal/bytealg.IndexString", "internal/abi.NoEscape", "internal/bytealg.MakeNoZero"], named := ["unicode/utf8.first", "unicode/utf8.acceptRanges", "internal/bytealg.MaxLen", "strconv.ErrSyntax", "strconv.ErrRange", "internal/strconv.uint64pow10", "math/bits.deBruijn32tab", "math/bits.deBruijn64tab"], apart := false, laid := [("math/bits.deBruijn32tab", laid_math_bits_deBruijn32tab), ("math/bits.deBruijn64tab", laid_math_bits_deBruijn64tab), ("internal/strconv.uint64pow10", laid_internal_strconv_uint64pow10), ("unicode/utf8.acceptRanges", laid_unicode_utf8_acceptRanges), ("strconv.ErrRange", laid_strconv_ErrRange), ("strconv.ErrSyntax", laid_strconv_ErrSyntax), ("unicode/utf8.first", laid_unicode_utf8_first)] }
def ValueVersionsSaid : Prop := valueVersionsRow.holds Tryd.pinned (OpenSpec.ofChange valueVersionsSpec)

/-- ITS FALSE NEIGHBOUR: 'it returns false'. Refute it at one input. -/
def valueVersionsWrong : ChangeSpec := { name := "valueVersions", fn := fun _ => fun
  | [d1, d2, d3] => { results := [.lit (.bool false)], args := [d1, d2, d3] }
  | _ => none }
def ValueVersionsWrongFalsely : Prop := valueVersionsRow.holds Tryd.pinned (OpenSpec.ofChange valueVersionsWrong)

/-- 'flagstonelaw3.ValueOrder': WHATEVER THE INPUT: true; the input reads as it did. -/
def valueOrderSpec : ChangeSpec := { name := "valueOrder", fn := fun _ => fun
  | [d1, d2, d3, d4, d5] => { results := [.lit (.bool true)], args := [d1, d2, d3, d4, d5] }
  | _ => none }
def valueOrderRow : OpenClaim := { program := "ytpildefkhlejgaadoor", sum := "cf94a63f3bfb588e720de2ac7d6f6933aefe2a1b916d060f760c7eaa9ce0f36b", func := "flagstone/flagstonelaw3.ValueOrder", spec := "valueOrder", inPlace := ["internal/bytealg.CountString", "internal/bytealg.IndexByteString", "internal/bytealg.IndexString", "internal/abi.NoEscape", "internal/bytealg.MakeNoZero"], named := ["unicode/utf8.first", "unicode/utf8.acceptRanges", "internal/bytealg.MaxLen", "strconv.ErrSyntax", "strconv.ErrRange", "internal/strconv.uint64pow10", "math/bits.deBruijn32tab", "math/bits.deBruijn64tab", "flagstone/flagstonedraw.versions", "flagstone/flagstonedraw.lists", "flagstone/flagstonedraw.texts"], apart := false, laid := [("math/bits.deBruijn32tab", laid_math_bits_deBruijn32tab), ("math/bits.deBruijn64tab", laid_math_bits_deBruijn64tab), ("internal/strconv.uint64pow10", laid_internal_strconv_uint64pow10), ("unicode/utf8.acceptRanges", laid_unicode_utf8_acceptRanges), ("flagstone/flagstonedraw.texts", laid_flagstone_flagstonedraw_texts), ("flagstone/flagstonedraw.versions", laid_flagstone_flagstonedraw_versions), ("flagstone/flagstonedraw.lists", laid_flagstone_flagstonedraw_lists), ("strconv.ErrRange", laid_strconv_ErrRange), ("strconv.ErrSyntax", laid_strconv_ErrSyntax), ("unicode/utf8.first", laid_unicode_utf8_first)] }
def ValueOrderSaid : Prop := valueOrderRow.holds Tryd.pinned (OpenSpec.ofChange valueOrderSpec)

/-- ITS FALSE NEIGHBOUR: 'it returns false'. Refute it at one input. -/
def valueOrderWrong : ChangeSpec := { name := "valueOrder", fn := fun _ => fun
  | [d1, d2, d3, d4, d5] => { results := [.lit (.bool false)], args := [d1, d2, d3, d4, d5] }
  | _ => none }
def ValueOrderWrongFalsely : Prop := valueOrderRow.holds Tryd.pinned (OpenSpec.ofChange valueOrderWrong)

/-- 'flagstonelaw3.ValueParts': WHATEVER THE INPUT: true; the input reads as it did. -/
def valuePartsSpec : ChangeSpec := { name := "valueParts", fn := fun _ => fun
  | [d1, d2, d3] => { results := [.lit (.bool true)], args := [d1, d2, d3] }
  | _ => none }
def valuePartsRow : OpenClaim := { program := "ytpildefkhlejgaadoor", sum := "cf94a63f3bfb588e720de2ac7d6f6933aefe2a1b916d060f760c7eaa9ce0f36b", func := "flagstone/flagstonelaw3.ValueParts", spec := "valueParts", inPlace := ["internal/bytealg.CountString", "internal/bytealg.IndexByteString", "internal/bytealg.IndexString", "internal/abi.NoEscape", "internal/bytealg.MakeNoZero"], named := ["unicode/utf8.first", "unicode/utf8.acceptRanges", "internal/bytealg.MaxLen", "strconv.ErrSyntax", "strconv.ErrRange", "internal/strconv.uint64pow10", "math/bits.deBruijn32tab", "math/bits.deBruijn64tab", "flagstone/value.names"], apart := false, laid := [("math/bits.deBruijn32tab", laid_math_bits_deBruijn32tab), ("math/bits.deBruijn64tab", laid_math_bits_deBruijn64tab), ("internal/strconv.uint64pow10", laid_internal_strconv_uint64pow10), ("unicode/utf8.acceptRanges", laid_unicode_utf8_acceptRanges), ("strconv.ErrRange", laid_strconv_ErrRange), ("strconv.ErrSyntax", laid_strconv_ErrSyntax), ("flagstone/value.names", laid_flagstone_value_names), ("unicode/utf8.first", laid_unicode_utf8_first)] }
def ValuePartsSaid : Prop := valuePartsRow.holds Tryd.pinned (OpenSpec.ofChange valuePartsSpec)

/-- ITS FALSE NEIGHBOUR: 'it returns false'. Refute it at one input. -/
def valuePartsWrong : ChangeSpec := { name := "valueParts", fn := fun _ => fun
  | [d1, d2, d3] => { results := [.lit (.bool false)], args := [d1, d2, d3] }
  | _ => none }
def ValuePartsWrongFalsely : Prop := valuePartsRow.holds Tryd.pinned (OpenSpec.ofChange valuePartsWrong)

/- THE SECOND FORM. 'bulk': how many values and letters a reading holds, each counted each time it is reached (what is shared counts as often as it is met; a slice's spare places count too). A statement '..UptoSaid' is the law's where the arguments, and the package variables that the reading takes, are together of bulk at most 1048576: NARROWER than '..Said'. Prove '..Said' where nothing that the law and all that it calls make is longer than what came in: it says more and counts as full. Else prove '..UptoSaid'. A law counts once. -/
mutual
def uptoBulk {H : Type} : DataW H → Nat
  | .lit (.string bytes) => bytes.length + 1
  | .lit _ => 1
  | .nil => 1
  | .ptr d => uptoBulk d + 1
  | .slice elems spare => uptoBulkAll elems + uptoBulkAll spare + 1
  | .agg parts => uptoBulkAll parts + 1
  | .iface _ d => uptoBulk d + 1
  | .map entries => uptoBulkEntries entries + 1
  | .held _ => 1
def uptoBulkAll {H : Type} : List (DataW H) → Nat
  | [] => 0
  | d :: r => uptoBulk d + uptoBulkAll r
def uptoBulkEntries {H : Type} : List (Lit × DataW H) → Nat
  | [] => 0
  | x :: r => uptoBulkEntry x + uptoBulkEntries r
def uptoBulkEntry {H : Type} : Lit × DataW H → Nat
  | (.string bytes, d) => bytes.length + uptoBulk d + 1
  | (_, d) => uptoBulk d + 1
 end
def uptoSmall : (H : Type) → List (DataW H) → Bool := fun _ ds => decide (uptoBulkAll ds ≤ 1048576)
def OpenSpec.upto (s : _root_.Go.ChangeSpec) : _root_.Go.OpenSpec := { _root_.Go.OpenSpec.ofChange s with cond := some uptoSmall }

/-- 'flagstonelaw7.LexerTokens', WHERE WHAT IT READS IS OF BULK AT MOST 1048576: true; the input reads as it did. -/
def lexerTokensUptoRow : OpenClaim := { program := "ytpildefkhlejgaadoor", sum := "cf94a63f3bfb588e720de2ac7d6f6933aefe2a1b916d060f760c7eaa9ce0f36b", func := "flagstone/flagstonelaw7.LexerTokens", spec := "lexerTokens", inPlace := ["internal/bytealg.CountString", "internal/bytealg.IndexByteString", "internal/bytealg.IndexString", "internal/abi.NoEscape"], unfollowed := true, recurses := true, named := ["unicode/utf8.first", "unicode/utf8.acceptRanges", "internal/bytealg.MaxLen", "strconv.ErrSyntax", "strconv.ErrRange", "internal/strconv.uint64pow10", "math/bits.deBruijn32tab", "math/bits.deBruijn64tab", "flagstone/flagstonelaw7.pieces"], apart := false, laid := [("math/bits.deBruijn32tab", laid_math_bits_deBruijn32tab), ("math/bits.deBruijn64tab", laid_math_bits_deBruijn64tab), ("internal/strconv.uint64pow10", laid_internal_strconv_uint64pow10), ("unicode/utf8.acceptRanges", laid_unicode_utf8_acceptRanges), ("strconv.ErrRange", laid_strconv_ErrRange), ("strconv.ErrSyntax", laid_strconv_ErrSyntax), ("flagstone/flagstonelaw7.pieces", laid_flagstone_flagstonelaw7_pieces), ("unicode/utf8.first", laid_unicode_utf8_first)], narrowed := true }
def LexerTokensUptoSaid : Prop := lexerTokensUptoRow.holds Tryd.pinned (OpenSpec.upto lexerTokensSpec)

/-- 'flagstonelaw7.LexerLong', WHERE WHAT IT READS IS OF BULK AT MOST 1048576: true; the input reads as it did. -/
def lexerLongUptoRow : OpenClaim := { program := "ytpildefkhlejgaadoor", sum := "cf94a63f3bfb588e720de2ac7d6f6933aefe2a1b916d060f760c7eaa9ce0f36b", func := "flagstone/flagstonelaw7.LexerLong", spec := "lexerLong", inPlace := ["internal/bytealg.CountString", "internal/bytealg.IndexByteString", "internal/bytealg.IndexString", "internal/abi.NoEscape"], unfollowed := true, recurses := true, named := ["unicode/utf8.first", "unicode/utf8.acceptRanges", "internal/bytealg.MaxLen", "strconv.ErrSyntax", "strconv.ErrRange", "internal/strconv.uint64pow10", "math/bits.deBruijn32tab", "math/bits.deBruijn64tab"], apart := false, laid := [("math/bits.deBruijn32tab", laid_math_bits_deBruijn32tab), ("math/bits.deBruijn64tab", laid_math_bits_deBruijn64tab), ("internal/strconv.uint64pow10", laid_internal_strconv_uint64pow10), ("unicode/utf8.acceptRanges", laid_unicode_utf8_acceptRanges), ("strconv.ErrRange", laid_strconv_ErrRange), ("strconv.ErrSyntax", laid_strconv_ErrSyntax), ("unicode/utf8.first", laid_unicode_utf8_first)], narrowed := true }
def LexerLongUptoSaid : Prop := lexerLongUptoRow.holds Tryd.pinned (OpenSpec.upto lexerLongSpec)

/-- 'flagstonelaw7.LexerBlank', WHERE WHAT IT READS IS OF BULK AT MOST 1048576: true; the input reads as it did. -/
def lexerBlankUptoRow : OpenClaim := { program := "ytpildefkhlejgaadoor", sum := "cf94a63f3bfb588e720de2ac7d6f6933aefe2a1b916d060f760c7eaa9ce0f36b", func := "flagstone/flagstonelaw7.LexerBlank", spec := "lexerBlank", inPlace := ["internal/bytealg.CountString", "internal/bytealg.IndexByteString", "internal/bytealg.IndexString", "internal/abi.NoEscape"], unfollowed := true, recurses := true, named := ["flagstone/flagstonelaw7.pieces", "unicode/utf8.first", "unicode/utf8.acceptRanges", "internal/bytealg.MaxLen", "strconv.ErrSyntax", "strconv.ErrRange", "internal/strconv.uint64pow10", "math/bits.deBruijn32tab", "math/bits.deBruijn64tab"], apart := false, laid := [("math/bits.deBruijn32tab", laid_math_bits_deBruijn32tab), ("math/bits.deBruijn64tab", laid_math_bits_deBruijn64tab), ("internal/strconv.uint64pow10", laid_internal_strconv_uint64pow10), ("unicode/utf8.acceptRanges", laid_unicode_utf8_acceptRanges), ("strconv.ErrRange", laid_strconv_ErrRange), ("strconv.ErrSyntax", laid_strconv_ErrSyntax), ("flagstone/flagstonelaw7.pieces", laid_flagstone_flagstonelaw7_pieces), ("unicode/utf8.first", laid_unicode_utf8_first)], narrowed := true }
def LexerBlankUptoSaid : Prop := lexerBlankUptoRow.holds Tryd.pinned (OpenSpec.upto lexerBlankSpec)

/-- 'flagstonelaw7.LexerParts', WHERE WHAT IT READS IS OF BULK AT MOST 1048576: true; the input reads as it did. -/
def lexerPartsUptoRow : OpenClaim := { program := "ytpildefkhlejgaadoor", sum := "cf94a63f3bfb588e720de2ac7d6f6933aefe2a1b916d060f760c7eaa9ce0f36b", func := "flagstone/flagstonelaw7.LexerParts", spec := "lexerParts", inPlace := ["internal/bytealg.CountString", "internal/bytealg.IndexByteString", "internal/bytealg.IndexString", "internal/abi.NoEscape"], unfollowed := true, recurses := true, named := ["unicode/utf8.first", "unicode/utf8.acceptRanges", "internal/bytealg.MaxLen", "strconv.ErrSyntax", "strconv.ErrRange", "internal/strconv.uint64pow10", "math/bits.deBruijn32tab", "math/bits.deBruijn64tab", "flagstone/flagstonelaw7.pieces"], apart := false, laid := [("math/bits.deBruijn32tab", laid_math_bits_deBruijn32tab), ("math/bits.deBruijn64tab", laid_math_bits_deBruijn64tab), ("internal/strconv.uint64pow10", laid_internal_strconv_uint64pow10), ("unicode/utf8.acceptRanges", laid_unicode_utf8_acceptRanges), ("strconv.ErrRange", laid_strconv_ErrRange), ("strconv.ErrSyntax", laid_strconv_ErrSyntax), ("flagstone/flagstonelaw7.pieces", laid_flagstone_flagstonelaw7_pieces), ("unicode/utf8.first", laid_unicode_utf8_first)], narrowed := true }
def LexerPartsUptoSaid : Prop := lexerPartsUptoRow.holds Tryd.pinned (OpenSpec.upto lexerPartsSpec)

/-- 'flagstonelaw7.LexerTexts', WHERE WHAT IT READS IS OF BULK AT MOST 1048576: true; the input reads as it did. -/
def lexerTextsUptoRow : OpenClaim := { program := "ytpildefkhlejgaadoor", sum := "cf94a63f3bfb588e720de2ac7d6f6933aefe2a1b916d060f760c7eaa9ce0f36b", func := "flagstone/flagstonelaw7.LexerTexts", spec := "lexerTexts", inPlace := ["internal/bytealg.CountString", "internal/bytealg.IndexByteString", "internal/bytealg.IndexString", "internal/abi.NoEscape"], unfollowed := true, recurses := true, named := ["unicode/utf8.first", "unicode/utf8.acceptRanges", "internal/bytealg.MaxLen", "strconv.ErrSyntax", "strconv.ErrRange", "internal/strconv.uint64pow10", "math/bits.deBruijn32tab", "math/bits.deBruijn64tab"], apart := false, laid := [("math/bits.deBruijn32tab", laid_math_bits_deBruijn32tab), ("math/bits.deBruijn64tab", laid_math_bits_deBruijn64tab), ("internal/strconv.uint64pow10", laid_internal_strconv_uint64pow10), ("unicode/utf8.acceptRanges", laid_unicode_utf8_acceptRanges), ("strconv.ErrRange", laid_strconv_ErrRange), ("strconv.ErrSyntax", laid_strconv_ErrSyntax), ("unicode/utf8.first", laid_unicode_utf8_first)], narrowed := true }
def LexerTextsUptoSaid : Prop := lexerTextsUptoRow.holds Tryd.pinned (OpenSpec.upto lexerTextsSpec)

/-- 'flagstonelaw3.ValueVersions', WHERE WHAT IT READS IS OF BULK AT MOST 1048576: true; the input reads as it did. -/
def valueVersionsUptoRow : OpenClaim := { program := "ytpildefkhlejgaadoor", sum := "cf94a63f3bfb588e720de2ac7d6f6933aefe2a1b916d060f760c7eaa9ce0f36b", func := "flagstone/flagstonelaw3.ValueVersions", spec := "valueVersions", inPlace := ["internal/bytealg.CountString", "internal/bytealg.IndexByteString", "internal/bytealg.IndexString", "internal/abi.NoEscape", "internal/bytealg.MakeNoZero"], named := ["unicode/utf8.first", "unicode/utf8.acceptRanges", "internal/bytealg.MaxLen", "strconv.ErrSyntax", "strconv.ErrRange", "internal/strconv.uint64pow10", "math/bits.deBruijn32tab", "math/bits.deBruijn64tab"], apart := false, laid := [("math/bits.deBruijn32tab", laid_math_bits_deBruijn32tab), ("math/bits.deBruijn64tab", laid_math_bits_deBruijn64tab), ("internal/strconv.uint64pow10", laid_internal_strconv_uint64pow10), ("unicode/utf8.acceptRanges", laid_unicode_utf8_acceptRanges), ("strconv.ErrRange", laid_strconv_ErrRange), ("strconv.ErrSyntax", laid_strconv_ErrSyntax), ("unicode/utf8.first", laid_unicode_utf8_first)], narrowed := true }
def ValueVersionsUptoSaid : Prop := valueVersionsUptoRow.holds Tryd.pinned (OpenSpec.upto valueVersionsSpec)

/-- 'flagstonelaw3.ValueOrder', WHERE WHAT IT READS IS OF BULK AT MOST 1048576: true; the input reads as it did. -/
def valueOrderUptoRow : OpenClaim := { program := "ytpildefkhlejgaadoor", sum := "cf94a63f3bfb588e720de2ac7d6f6933aefe2a1b916d060f760c7eaa9ce0f36b", func := "flagstone/flagstonelaw3.ValueOrder", spec := "valueOrder", inPlace := ["internal/bytealg.CountString", "internal/bytealg.IndexByteString", "internal/bytealg.IndexString", "internal/abi.NoEscape", "internal/bytealg.MakeNoZero"], named := ["unicode/utf8.first", "unicode/utf8.acceptRanges", "internal/bytealg.MaxLen", "strconv.ErrSyntax", "strconv.ErrRange", "internal/strconv.uint64pow10", "math/bits.deBruijn32tab", "math/bits.deBruijn64tab", "flagstone/flagstonedraw.versions", "flagstone/flagstonedraw.lists", "flagstone/flagstonedraw.texts"], apart := false, laid := [("math/bits.deBruijn32tab", laid_math_bits_deBruijn32tab), ("math/bits.deBruijn64tab", laid_math_bits_deBruijn64tab), ("internal/strconv.uint64pow10", laid_internal_strconv_uint64pow10), ("unicode/utf8.acceptRanges", laid_unicode_utf8_acceptRanges), ("flagstone/flagstonedraw.texts", laid_flagstone_flagstonedraw_texts), ("flagstone/flagstonedraw.versions", laid_flagstone_flagstonedraw_versions), ("flagstone/flagstonedraw.lists", laid_flagstone_flagstonedraw_lists), ("strconv.ErrRange", laid_strconv_ErrRange), ("strconv.ErrSyntax", laid_strconv_ErrSyntax), ("unicode/utf8.first", laid_unicode_utf8_first)], narrowed := true }
def ValueOrderUptoSaid : Prop := valueOrderUptoRow.holds Tryd.pinned (OpenSpec.upto valueOrderSpec)

/-- 'flagstonelaw3.ValueParts', WHERE WHAT IT READS IS OF BULK AT MOST 1048576: true; the input reads as it did. -/
def valuePartsUptoRow : OpenClaim := { program := "ytpildefkhlejgaadoor", sum := "cf94a63f3bfb588e720de2ac7d6f6933aefe2a1b916d060f760c7eaa9ce0f36b", func := "flagstone/flagstonelaw3.ValueParts", spec := "valueParts", inPlace := ["internal/bytealg.CountString", "internal/bytealg.IndexByteString", "internal/bytealg.IndexString", "internal/abi.NoEscape", "internal/bytealg.MakeNoZero"], named := ["unicode/utf8.first", "unicode/utf8.acceptRanges", "internal/bytealg.MaxLen", "strconv.ErrSyntax", "strconv.ErrRange", "internal/strconv.uint64pow10", "math/bits.deBruijn32tab", "math/bits.deBruijn64tab", "flagstone/value.names"], apart := false, laid := [("math/bits.deBruijn32tab", laid_math_bits_deBruijn32tab), ("math/bits.deBruijn64tab", laid_math_bits_deBruijn64tab), ("internal/strconv.uint64pow10", laid_internal_strconv_uint64pow10), ("unicode/utf8.acceptRanges", laid_unicode_utf8_acceptRanges), ("strconv.ErrRange", laid_strconv_ErrRange), ("strconv.ErrSyntax", laid_strconv_ErrSyntax), ("flagstone/value.names", laid_flagstone_value_names), ("unicode/utf8.first", laid_unicode_utf8_first)], narrowed := true }
def ValuePartsUptoSaid : Prop := valuePartsUptoRow.holds Tryd.pinned (OpenSpec.upto valuePartsSpec)

end Rows
end Go.Proofs.YtpildefkhlejgaaDoor
