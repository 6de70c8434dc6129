/- ClauseSwaps: the walk, with what the row gives it. -/
import Derived.Test.YtlohdmghaeabjaaGreatDoorKClSx
import Derived.Test.YtlohdmghaeabjaaGreatDoorKRowCSw
import Derived.Test.YtlohdmghaeabjaaGreatDoorKJ9
namespace Go.Proofs.YtlohdmghaeabjaaGreatDoor.law
open Go.ChangeShapes Go.WideShapes Go.RowKit Go.Lib Go.Proofs.YtlohdmghaeabjaaGreatDoor Go.Proofs.YtlohdmghaeabjaaGreatDoor.schema Go.Proofs.YtlohdmghaeabjaaGreatDoor.text Go.Proofs.YtlohdmghaeabjaaGreatDoor.value Go.Proofs.YtlohdmghaeabjaaGreatDoor.draw Go.Proofs.YtlohdmghaeabjaaGreatDoor.clause

theorem int_bd {a : Int} (h : (Lit.int .i64 a).wf = true) : -9223372036854775808 ≤ a ∧ a ≤ 9223372036854775807 := by
  simpa [Lit.wf, IntKind.min, IntKind.max, IntKind.signed, IntKind.bits] using h
set_option maxRecDepth 100000 in
theorem clauseSwaps_final (W : World) (hL : laidMetH Tryz.prog Rows.clauseSwapsRow.laid W) (hsh : W.ShapedOpen Tryz.prog) (a0 : Option Addr) (len0 cap0 : Nat) (z0 : List Int) (w0 : IsRow .u8 W a0 len0 cap0 z0) (a1 : Int) (w1 : (Lit.int .i64 a1).wf = true) (a2 : Int) (w2 : (Lit.int .i64 a2).wf = true) :
    Calls Tryz.prog 7 #[.slice a0 len0 cap0, .int .i64 a1, .int .i64 a2] W fun e W' => e = .returned (.bool true) ∧ Below W.heap.size W W' := by
  have hT := clauseSwapsRow.tabs_of_laid hL hsh
  rw [MakeChecks.laidMetH_plain _ _ _ (by kernel_rfl)] at hL
  have hG := glob_of_reads (Lib.laidMet.reads hL (n := "flagstone/flagstonedraw.texts") (d := Rows.laid_flagstone_flagstonedraw_texts) (by simp [Rows.clauseSwapsRow])) (Lib.laidMet.reads hL (n := "flagstone/flagstonedraw.versions") (d := Rows.laid_flagstone_flagstonedraw_versions) (by simp [Rows.clauseSwapsRow])) (Lib.laidMet.reads hL (n := "flagstone/flagstonedraw.lists") (d := Rows.laid_flagstone_flagstonedraw_lists) (by simp [Rows.clauseSwapsRow]))
  exact swaps_walk a0 len0 cap0 a1 a2 W (int_bd w1).1 (int_bd w1).2 (int_bd w2).1 (int_bd w2).2 (draw.bytes_of_row w0) (fun b hb => hG.mono (sub_but W b hb)) hT

end Go.Proofs.YtlohdmghaeabjaaGreatDoor.law

