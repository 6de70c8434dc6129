/- MetricLimited: the walk, with what the row gives it. -/
import Derived.Test.YtnghpjijfdpmkaaDoorMetLi
import Derived.Test.YtnghpjijfdpmkaaDoorRowMI
import Derived.Test.YtnghpjijfdpmkaaDoorMetRw
namespace Go.Proofs.YtnghpjijfdpmkaaDoor.law
open Go.RowKit Go.Proofs.YtnghpjijfdpmkaaDoor Go.Proofs.YtnghpjijfdpmkaaDoor.metric

theorem metricLimited_final (W : World) (hL : laidMetH Tryd.prog Rows.metricLimitedRow.laid W) (a0 : Option Addr) (len0 cap0 : Nat) (z0 : List Int) (w0 : IsRow .u8 W a0 len0 cap0 z0) (a1 : Option Addr) (len1 cap1 : Nat) (z1 : List Int) (w1 : IsRow .u8 W a1 len1 cap1 z1) (a2 : Int) (w2 : (Lit.int .u8 a2).wf = true) (a3 : Int) (w3 : (Lit.int .u8 a3).wf = true) :
    Calls Tryd.prog 6 #[.slice a0 len0 cap0, .slice a1 len1 cap1, .int .u8 a2, .int .u8 a3] W fun e W' => e = .returned (.bool true) ∧ Below W.heap.size W W' :=
  limited_walk a0 len0 cap0 a1 len1 cap1 a2 a3 W (bytesIn_of_row w0) (bytesIn_of_row w1) (u8_bd w2).1 (u8_bd w2).2 (u8_bd w3).1 (u8_bd w3).2 (metricLimitedRow.ntabs_of_laid hL)

end Go.Proofs.YtnghpjijfdpmkaaDoor.law

