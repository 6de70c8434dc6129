/- LexerLong: the walk, with what the row gives it. -/
import Derived.Test.YtpildefkhlejgaaDoorLexLL
import Derived.Test.YtpildefkhlejgaaDoorRowLL
namespace Go.Proofs.YtpildefkhlejgaaDoor.law
open Go.RowKit Go.Proofs.YtpildefkhlejgaaDoor Go.Proofs.YtpildefkhlejgaaDoor.text Go.Proofs.YtpildefkhlejgaaDoor.lex

theorem int_bd' {a : Int} (h : (Lit.int .i64 a).wf = true) : -9223372036854775808 ≤ a ∧ a ≤ 9223372036854775807 := by
  simpa [Lit.wf, IntKind.min, IntKind.max, IntKind.signed, IntKind.bits] using h
theorem byte_bd {a : Int} (h : (Lit.int .u8 a).wf = true) : 0 ≤ a ∧ a ≤ 255 := by
  simpa [Lit.wf, IntKind.min, IntKind.max, IntKind.signed, IntKind.bits] using h
theorem lexerLong_final (W : World) (hL : laidMetH Tryd.prog Rows.lexerLongRow.laid W) (hsh : W.ShapedOpen Tryd.prog) (a0 : Int) (w0 : (Lit.int .i64 a0).wf = true) (a1 : Int) (w1 : (Lit.int .u8 a1).wf = true) :
    Calls Tryd.prog 4 #[.int .i64 a0, .int .u8 a1] W fun e W' => e = .returned (.bool true) ∧ Below W.heap.size W W' :=
  lexLong_walk a0 a1 W (int_bd' w0).1 (int_bd' w0).2 (byte_bd w1).1 (byte_bd w1).2 (lexerLongRow.tabs_of_laid hL hsh)

end Go.Proofs.YtpildefkhlejgaaDoor.law
