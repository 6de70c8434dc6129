/- ClauseCompares: the walk, with what the row gives it. -/
import Derived.Test.YtlohdmghaeabjaaGreatDoorClK
import Derived.Test.YtlohdmghaeabjaaGreatDoorRowCCo
namespace Go.Proofs.YtlohdmghaeabjaaGreatDoor.law
open Go.RowKit Go.Lib Go.Proofs.YtlohdmghaeabjaaGreatDoor Go.Proofs.YtlohdmghaeabjaaGreatDoor.text Go.Proofs.YtlohdmghaeabjaaGreatDoor.value Go.Proofs.YtlohdmghaeabjaaGreatDoor.draw Go.Proofs.YtlohdmghaeabjaaGreatDoor.clause

theorem int_bd {a : Int} (h : (Lit.int .i64 a).wf = true) : -9223372036854775808 ≤ a ∧ a ≤ 9223372036854775807 := by
  simpa [Lit.wf, IntKind.min, IntKind.max, IntKind.signed, IntKind.bits] using h

set_option maxRecDepth 100000 in
theorem clauseCompares_final (W : World) (hL : laidMetH Tryz.prog Rows.clauseComparesRow.laid W) (hsh : W.ShapedOpen Tryz.prog) (a0 : Int) (w0 : (Lit.int .i64 a0).wf = true) (a1 : Option Addr) (len1 cap1 : Nat) (z1 : List Int) (w1 : IsRow .u8 W a1 len1 cap1 z1) :
    Calls Tryz.prog 9 #[.int .i64 a0, .slice a1 len1 cap1] W fun e W' => e = .returned (.bool true) ∧ Below W.heap.size W W' := by
  have hT := clauseComparesRow.tabs_of_laid hL hsh
  rw [MakeChecks.laidMetH_plain _ _ _ (by kernel_rfl)] at hL
  have hD := cmp_of_reads (Lib.laidMet.reads hL (n := "flagstone/flagstonedraw.texts") (d := Rows.laid_flagstone_flagstonedraw_texts) (by simp [Rows.clauseComparesRow])) (Lib.laidMet.reads hL (n := "flagstone/flagstonedraw.versions") (d := Rows.laid_flagstone_flagstonedraw_versions) (by simp [Rows.clauseComparesRow]))
  exact compares_walk a0 a1 len1 cap1 W (int_bd w0).1 (int_bd w0).2 (draw.bytes_of_row w1) (fun b hb => hD.mono (sub_but W b hb)) hT

end Go.Proofs.YtlohdmghaeabjaaGreatDoor.law

