/- LexerBlank: the walk, with what the row gives it. -/
import Derived.Test.YtpildefkhlejgaaDoorLexW
import Derived.Test.YtpildefkhlejgaaDoorLexK
import Derived.Test.YtpildefkhlejgaaDoorRowLB
namespace Go.Proofs.YtpildefkhlejgaaDoor.law
open Go.RowKit Go.Proofs.YtpildefkhlejgaaDoor Go.Proofs.YtpildefkhlejgaaDoor.text Go.Proofs.YtpildefkhlejgaaDoor.lex

theorem lb_pieces {w : World} (h : laidMetH Tryd.prog Rows.lexerBlankRow.laid w) : PiecesX w.cell? := by
  rw [MakeChecks.laidMetH_plain _ _ _ (by kernel_rfl)] at h
  exact pieces_of_reads (Lib.laidMet.reads h (n := "flagstone/flagstonelaw7.pieces") (d := Rows.laid_flagstone_flagstonelaw7_pieces) (by simp [Rows.lexerBlankRow]))
theorem lexerBlank_final (W : World) (hL : laidMetH Tryd.prog Rows.lexerBlankRow.laid W) (hsh : W.ShapedOpen Tryd.prog) (a0 : Option Addr) (len0 cap0 : Nat) (z0 : List Int) (w0 : IsRow .u8 W a0 len0 cap0 z0) (a1 : Option Addr) (len1 cap1 : Nat) (z1 : List Int) (w1 : IsRow .u8 W a1 len1 cap1 z1) :
    Calls Tryd.prog 5 #[.slice a0 len0 cap0, .slice a1 len1 cap1] W fun e W' => e = .returned (.bool true) ∧ Below W.heap.size W W' :=
  lexBlank_walk a0 a1 len0 cap0 len1 cap1 W (draw.bytes_of_row w0) (draw.bytes_of_row w1) (lexerBlankRow.tabs_of_laid hL hsh) (lb_pieces hL)

end Go.Proofs.YtpildefkhlejgaaDoor.law
