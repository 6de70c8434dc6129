/- TextParses: the walk, with what the row gives it. -/
import Derived.Test.YtppljigkilccdaaDoorTextLP
namespace Go.Proofs.YtppljigkilccdaaDoor.law
open Go.RowKit Go.Proofs.YtppljigkilccdaaDoor.text

theorem textParses_final (W : World) (hL : laidMetH Tryd.prog Rows.textParsesRow.laid W) (s0 : ByteArray) (_w0 : s0.size ≤ maxLen) (r0 : s0.size ≤ 140737488351232) (a1 : Option Addr) (len1 cap1 : Nat) (z1 : List Int) (w1 : IsRow .u8 W a1 len1 cap1 z1) :
    Calls Tryd.prog 6 #[.string s0, .slice a1 len1 cap1] W fun e w' => e = .returned (.bool true) ∧ Below W.heap.size W w' :=
  parses_walk s0 a1 len1 cap1 W (by omega) (bytes_in w1) (tabs_of_laid hL)

end Go.Proofs.YtppljigkilccdaaDoor.law
