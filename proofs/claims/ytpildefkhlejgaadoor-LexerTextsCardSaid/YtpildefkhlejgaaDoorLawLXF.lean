/- LexerTexts: the walk, with what the row gives it. -/
import Derived.Test.YtpildefkhlejgaaDoorLexLX
import Derived.Test.YtpildefkhlejgaaDoorRowLX
namespace Go.Proofs.YtpildefkhlejgaaDoor.law
open Go.RowKit Go.Proofs.YtpildefkhlejgaaDoor Go.Proofs.YtpildefkhlejgaaDoor.text Go.Proofs.YtpildefkhlejgaaDoor.lex

theorem int_bd' {a : Int} (h : (Lit.int .i64 a).wf = true) : -9223372036854775808 ≤ a ∧ a ≤ 9223372036854775807 := by
  simpa [Lit.wf, IntKind.min, IntKind.max, IntKind.signed, IntKind.bits] using h
theorem lexerTexts_final (W : World) (hL : laidMetH Tryd.prog Rows.lexerTextsRow.laid W) (hsh : W.ShapedOpen Tryd.prog) (s0 : ByteArray) (_w0 : s0.size ≤ maxLen) (_r0 : s0.size ≤ 140737488351232) (a1 : Int) (w1 : (Lit.int .i64 a1).wf = true) :
    Calls Tryd.prog 7 #[.string s0, .int .i64 a1] W fun e W' => e = .returned (.bool true) ∧ Below W.heap.size W W' :=
  lexTexts_walk s0 a1 W (int_bd' w1).1 (int_bd' w1).2 (lexerTextsRow.tabs_of_laid hL hsh)

end Go.Proofs.YtpildefkhlejgaaDoor.law
