/- LexerTokens: the walk, with what the row gives it. -/
import Derived.Test.YtpildefkhlejgaaDoorLexLT
import Derived.Test.YtpildefkhlejgaaDoorLexK
import Derived.Test.YtpildefkhlejgaaDoorRowLT
namespace Go.Proofs.YtpildefkhlejgaaDoor.law
open Go.RowKit Go.Proofs.YtpildefkhlejgaaDoor Go.Proofs.YtpildefkhlejgaaDoor.text Go.Proofs.YtpildefkhlejgaaDoor.lex

theorem lt_pieces {w : World} (h : laidMetH Tryd.prog Rows.lexerTokensRow.laid w) : PiecesX w.cell? := by
  rw [MakeChecks.laidMetH_plain _ _ _ (by kernel_rfl)] at h
  exact pieces_of_reads (Lib.laidMet.reads h (n := "flagstone/flagstonelaw7.pieces") (d := Rows.laid_flagstone_flagstonelaw7_pieces) (by simp [Rows.lexerTokensRow]))
theorem lexerTokens_final (W : World) (hL : laidMetH Tryd.prog Rows.lexerTokensRow.laid W) (hsh : W.ShapedOpen Tryd.prog) (s0 : ByteArray) (_w0 : s0.size ≤ maxLen) (r0 : s0.size ≤ 140737488351232) (a1 : Option Addr) (len1 cap1 : Nat) (z1 : List Int) (w1 : IsRow .u8 W a1 len1 cap1 z1) :
    Calls Tryd.prog 3 #[.string s0, .slice a1 len1 cap1] W fun e W' => e = .returned (.bool true) ∧ Below W.heap.size W W' :=
  lexTokens_walk s0 a1 len1 cap1 W (by omega) (draw.bytes_of_row w1) (lexerTokensRow.tabs_of_laid hL hsh) (lt_pieces hL).some

end Go.Proofs.YtpildefkhlejgaaDoor.law
