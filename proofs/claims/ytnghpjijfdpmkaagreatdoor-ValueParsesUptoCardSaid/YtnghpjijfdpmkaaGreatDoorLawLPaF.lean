/- ValueParses: the walk, with what the row gives it. -/
import Derived.Test.YtnghpjijfdpmkaaGreatDoorValLPa
import Derived.Test.YtnghpjijfdpmkaaGreatDoorValOV
import Derived.Test.YtnghpjijfdpmkaaGreatDoorRowVPa
namespace Go.Proofs.YtnghpjijfdpmkaaGreatDoor.law
open Go.RowKit Go.Lib Go.Proofs.YtnghpjijfdpmkaaGreatDoor Go.Proofs.YtnghpjijfdpmkaaGreatDoor.text Go.Proofs.YtnghpjijfdpmkaaGreatDoor.value Go.Proofs.YtnghpjijfdpmkaaGreatDoor.draw

theorem int_bd {a : Int} (h : (Lit.int .i64 a).wf = true) : -9223372036854775808 ≤ a ∧ a ≤ 9223372036854775807 := by
  simpa [Lit.wf, IntKind.min, IntKind.max, IntKind.signed, IntKind.bits] using h

set_option maxRecDepth 100000 in
theorem valueParses_final (W : World) (hL : laidMetH Tryz.prog Rows.valueParsesUptoRow.laid W) (hsh : W.ShapedOpen Tryz.prog) (s0 : ByteArray) (_w0 : s0.size ≤ maxLen) (r0 : s0.size ≤ 1048576) (a1 : Option Addr) (len1 cap1 : Nat) (z1 : List Int) (w1 : IsRow .u8 W a1 len1 cap1 z1)
    (a2 : Int) (w2 : (Lit.int .i64 a2).wf = true) (a3 : Int) (_w3 : (Lit.int .u8 a3).wf = true) :
    Calls Tryz.prog 5 #[.string s0, .slice a1 len1 cap1, .int .i64 a2, .int .u8 a3] W fun e W' => e = .returned (.bool true) ∧ Below W.heap.size W W' := by
  have hT := valueParsesUptoRow.tabs_of_laid hL hsh
  rw [MakeChecks.laidMetH_plain _ _ _ (by kernel_rfl)] at hL
  have hD := draw_of_reads (Lib.laidMet.reads hL (n := "flagstone/flagstonedraw.texts") (d := Rows.laid_flagstone_flagstonedraw_texts) (by simp [Rows.valueParsesUptoRow])) (Lib.laidMet.reads hL (n := "flagstone/flagstonedraw.versions") (d := Rows.laid_flagstone_flagstonedraw_versions) (by simp [Rows.valueParsesUptoRow]))
  have hLT := lists_of_reads (Lib.laidMet.reads hL (n := "flagstone/flagstonedraw.lists") (d := Rows.laid_flagstone_flagstonedraw_lists) (by simp [Rows.valueParsesUptoRow]))
  exact parses_walk s0 a1 len1 cap1 a2 a3 W r0 (int_bd w2).1 (int_bd w2).2 (draw.bytes_of_row w1) hT hD hLT

end Go.Proofs.YtnghpjijfdpmkaaGreatDoor.law
