/- TextReserved: the walk, with what the row gives it. -/
import Derived.Test.YtppljigkilccdaaDoorTextLR
namespace Go.Proofs.YtppljigkilccdaaDoor.law
open Go.RowKit Go.Proofs.YtppljigkilccdaaDoor.text

theorem textReserved_final (W : World) (hL : laidMetH Tryd.prog Rows.textReservedRow.laid W) (a0 : Int) (_w0 : (Lit.int .i64 a0).wf = true) :
    Calls Tryd.prog 7 #[.int .i64 a0] W fun e w' => e = .returned (.bool true) ∧ Below W.heap.size W w' :=
  reserved_walk a0 W (tabs_of_laid hL)

end Go.Proofs.YtppljigkilccdaaDoor.law
