/- TextQuotes: the walk, with what the row gives it. -/
import Derived.Test.YtppljigkilccdaaDoorTextLQ
namespace Go.Proofs.YtppljigkilccdaaDoor.law
open Go.RowKit Go.Proofs.YtppljigkilccdaaDoor.text

theorem u8_bounds {a : Int} (h : (Lit.int .u8 a).wf = true) : 0 ≤ a ∧ a ≤ 255 := by
  simpa [Lit.wf, IntKind.min, IntKind.max, IntKind.signed, IntKind.bits] using h
theorem textQuotes_final (W : World) (hL : laidMetH Tryd.prog Rows.textQuotesRow.laid W) (s0 : ByteArray) (_w0 : s0.size ≤ maxLen) (r0 : s0.size ≤ 140737488351232) (a1 : Int) (w1 : (Lit.int .u8 a1).wf = true) :
    Calls Tryd.prog 8 #[.string s0, .int .u8 a1] W fun e w' => e = .returned (.bool true) ∧ Below W.heap.size W w' :=
  quotes_walk s0 a1 W r0 (u8_bounds w1).1 (u8_bounds w1).2 (tabs_of_laid hL)

end Go.Proofs.YtppljigkilccdaaDoor.law
