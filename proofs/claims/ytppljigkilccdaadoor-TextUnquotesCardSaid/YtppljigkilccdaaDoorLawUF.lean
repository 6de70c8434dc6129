/- TextUnquotes: the walk, with what the row gives it. -/
import Derived.Test.YtppljigkilccdaaDoorTextLU
namespace Go.Proofs.YtppljigkilccdaaDoor.law
open Go.RowKit Go.Proofs.YtppljigkilccdaaDoor.text

theorem u8_bounds_u {a : Int} (h : (Lit.int .u8 a).wf = true) : 0 ≤ a ∧ a ≤ 255 := by
  simpa [Lit.wf, IntKind.min, IntKind.max, IntKind.signed, IntKind.bits] using h
theorem textUnquotes_final (W : World) (hL : laidMetH Tryd.prog Rows.textUnquotesRow.laid W) (s0 : ByteArray) (_w0 : s0.size ≤ maxLen) (r0 : s0.size ≤ 140737488351232) (a1 : Int) (_w1 : (Lit.int .i64 a1).wf = true) (a2 : Int) (w2 : (Lit.int .u8 a2).wf = true) :
    Calls Tryd.prog 9 #[.string s0, .int .i64 a1, .int .u8 a2] W fun e w' => e = .returned (.bool true) ∧ Below W.heap.size W w' :=
  unquotes_walk s0 a1 a2 W r0 (u8_bounds_u w2).1 (u8_bounds_u w2).2 (tabs_of_laid hL)

end Go.Proofs.YtppljigkilccdaaDoor.law
