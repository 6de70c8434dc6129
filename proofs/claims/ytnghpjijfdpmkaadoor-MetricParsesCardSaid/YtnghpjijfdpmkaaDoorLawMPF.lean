/- MetricParses: the walk, with what the row gives it. -/
import Derived.Test.YtnghpjijfdpmkaaDoorMetLP
import Derived.Test.YtnghpjijfdpmkaaDoorRowMP
import Derived.Test.YtnghpjijfdpmkaaDoorMetRw
namespace Go.Proofs.YtnghpjijfdpmkaaDoor.law
open Go.RowKit Go.Proofs.YtnghpjijfdpmkaaDoor Go.Proofs.YtnghpjijfdpmkaaDoor.metric

theorem u16_bd {a : Int} (h : (Lit.int .u16 a).wf = true) : 0 ≤ a ∧ a ≤ 65535 := by
  simpa [Lit.wf, IntKind.min, IntKind.max, IntKind.signed, IntKind.bits] using h
theorem metricParses_final (W : World) (hL : laidMetH Tryd.prog Rows.metricParsesRow.laid W) (s0 : ByteArray) (w0 : s0.size ≤ maxLen) (a1 : Option Addr) (len1 cap1 : Nat) (z1 : List Int) (w1 : IsRow .u8 W a1 len1 cap1 z1) (a2 : Option Addr) (len2 cap2 : Nat) (z2 : List Int) (w2 : IsRow .u8 W a2 len2 cap2 z2) (a3 : Int) (w3 : (Lit.int .u16 a3).wf = true) (a4 : Int) (w4 : (Lit.int .u16 a4).wf = true) (a5 : Int) (w5 : (Lit.int .u8 a5).wf = true) :
    Calls Tryd.prog 3 #[.string s0, .slice a1 len1 cap1, .slice a2 len2 cap2, .int .u16 a3, .int .u16 a4, .int .u8 a5] W fun e W' => e = .returned (.bool true) ∧ Below W.heap.size W W' :=
  parses_walk s0 a1 len1 cap1 a2 len2 cap2 a3 a4 a5 W w0 (bytesIn_of_row w1) (bytesIn_of_row w2) (u16_bd w3).1 (u16_bd w3).2 (u16_bd w4).1 (u16_bd w4).2 (u8_bd w5).1 (u8_bd w5).2 (metricParsesRow.ntabs_of_laid hL)

end Go.Proofs.YtnghpjijfdpmkaaDoor.law

