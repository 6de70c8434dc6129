/- TextNumbers: the walk, with what the row gives it. -/
import Derived.Test.YtppljigkilccdaaDoorTextLN
namespace Go.Proofs.YtppljigkilccdaaDoor.law
open Go.RowKit Go.Proofs.YtppljigkilccdaaDoor.text

theorem i64_bounds {a : Int} (h : (Lit.int .i64 a).wf = true) : -9223372036854775808 ≤ a ∧ a ≤ 9223372036854775807 := by
  simpa [Lit.wf, IntKind.min, IntKind.max, IntKind.signed, IntKind.bits] using h
theorem textNumbers_final (W : World) (hL : laidMetH Tryd.prog Rows.textNumbersRow.laid W) (a0 : Int) (w0 : (Lit.int .i64 a0).wf = true) :
    Calls Tryd.prog 5 #[.int .i64 a0] W fun e w' => e = .returned (.bool true) ∧ Below W.heap.size W w' :=
  numbers_walk a0 W (i64_bounds w0).1 (i64_bounds w0).2 (tabs_of_laid hL)

end Go.Proofs.YtppljigkilccdaaDoor.law
