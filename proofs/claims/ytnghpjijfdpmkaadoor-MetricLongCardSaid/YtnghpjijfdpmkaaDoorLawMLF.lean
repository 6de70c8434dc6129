/- MetricLong: the walk, with what the row gives it. -/
import Derived.Test.YtnghpjijfdpmkaaDoorMetLL
import Derived.Test.YtnghpjijfdpmkaaDoorRowML
import Derived.Test.YtnghpjijfdpmkaaDoorMetRw
namespace Go.Proofs.YtnghpjijfdpmkaaDoor.law
open Go.RowKit Go.Proofs.YtnghpjijfdpmkaaDoor Go.Proofs.YtnghpjijfdpmkaaDoor.metric

theorem metricLong_final (W : World) (hL : laidMetH Tryd.prog Rows.metricLongRow.laid W) (a0 : Option Addr) (len0 cap0 : Nat) (z0 : List Int) (w0 : IsRow .u8 W a0 len0 cap0 z0) (a1 : Int) (w1 : (Lit.int .u8 a1).wf = true) :
    Calls Tryd.prog 4 #[.slice a0 len0 cap0, .int .u8 a1] W fun e W' => e = .returned (.bool true) ∧ Below W.heap.size W W' :=
  long_walk a0 len0 cap0 a1 W (bytesIn_of_row w0) (u8_bd w1).1 (u8_bd w1).2 (metricLongRow.ntabs_of_laid hL)

end Go.Proofs.YtnghpjijfdpmkaaDoor.law

