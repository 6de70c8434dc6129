/- MetricRoundTrip: the walk, with what the row gives it. -/
import Derived.Test.YtnghpjijfdpmkaaDoorMetLR
import Derived.Test.YtnghpjijfdpmkaaDoorRowMR
import Derived.Test.YtnghpjijfdpmkaaDoorMetRw
namespace Go.Proofs.YtnghpjijfdpmkaaDoor.law
open Go.RowKit Go.Proofs.YtnghpjijfdpmkaaDoor Go.Proofs.YtnghpjijfdpmkaaDoor.metric

theorem metricRoundTrip_final (W : World) (hL : laidMetH Tryd.prog Rows.metricRoundTripRow.laid W) (a0 : Option Addr) (len0 cap0 : Nat) (z0 : List Int) (w0 : IsRow .u8 W a0 len0 cap0 z0) (a1 : Option Addr) (len1 cap1 : Nat) (z1 : List Int) (w1 : IsRow .u8 W a1 len1 cap1 z1) :
    Calls Tryd.prog 8 #[.slice a0 len0 cap0, .slice a1 len1 cap1] W fun e W' => e = .returned (.bool true) ∧ Below W.heap.size W W' :=
  trip_walk a0 len0 cap0 a1 len1 cap1 W (bytesIn_of_row w0) (bytesIn_of_row w1) (metricRoundTripRow.ntabs_of_laid hL)

end Go.Proofs.YtnghpjijfdpmkaaDoor.law

