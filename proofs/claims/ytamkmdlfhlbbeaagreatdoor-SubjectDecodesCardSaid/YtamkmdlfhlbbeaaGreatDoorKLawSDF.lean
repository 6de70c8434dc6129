/- SubjectDecodes: the walk, with what the row gives it. -/
import Derived.Test.YtamkmdlfhlbbeaaGreatDoorKSuLd
import Derived.Test.YtamkmdlfhlbbeaaGreatDoorKRowSD
import Derived.Test.YtamkmdlfhlbbeaaGreatDoorKJ9
import Derived.Test.YtamkmdlfhlbbeaaGreatDoorKJ9
namespace Go.Proofs.YtamkmdlfhlbbeaaGreatDoor.law
open Go.ChangeShapes Go.WideShapes Go.RowKit Go.Lib Go.Proofs.YtamkmdlfhlbbeaaGreatDoor Go.Proofs.YtamkmdlfhlbbeaaGreatDoor.schema Go.Proofs.YtamkmdlfhlbbeaaGreatDoor.text Go.Proofs.YtamkmdlfhlbbeaaGreatDoor.value Go.Proofs.YtamkmdlfhlbbeaaGreatDoor.draw Go.Proofs.YtamkmdlfhlbbeaaGreatDoor.clause Go.Proofs.YtamkmdlfhlbbeaaGreatDoor.subj

theorem u8_bdD {v : Int} (h : (Lit.int .u8 v).wf = true) : 0 ≤ v ∧ v ≤ 255 := by
  simpa [Lit.wf, IntKind.min, IntKind.max, IntKind.signed, IntKind.bits] using h
theorem i64_bdD {v : Int} (h : (Lit.int .i64 v).wf = true) : -9223372036854775808 ≤ v ∧ v ≤ 9223372036854775807 := by
  simpa [Lit.wf, IntKind.min, IntKind.max, IntKind.signed, IntKind.bits] using h
set_option maxRecDepth 100000 in
theorem subjectDecodes_final (W : World) (hL : laidMetH Tryz.prog Rows.subjectDecodesRow.laid W) (hsh : W.ShapedOpen Tryz.prog)
    (a0 : Option Addr) (len0 cap0 : Nat) (z0 : List Int) (w0 : IsRow .u8 W a0 len0 cap0 z0)
    (a1 : Option Addr) (len1 cap1 : Nat) (z1 : List Int) (w1 : IsRow .u8 W a1 len1 cap1 z1)
    (a2 : Int) (w2 : (Lit.int .i64 a2).wf = true) (a3 : Int) (w3 : (Lit.int .u8 a3).wf = true) :
    Calls Tryz.prog 6 #[.slice a0 len0 cap0, .slice a1 len1 cap1, .int .i64 a2, .int .u8 a3] W fun e W' => e = .returned (.bool true) ∧ Below W.heap.size W W' := by
  have hT := subjectDecodesRow.stabs_of_laid hL hsh
  rw [MakeChecks.laidMetH_plain _ _ _ (by kernel_rfl)] at hL
  have hG := glob_of_reads (Lib.laidMet.reads hL (n := "flagstone/flagstonedraw.texts") (d := Rows.laid_flagstone_flagstonedraw_texts) (by simp [Rows.subjectDecodesRow])) (Lib.laidMet.reads hL (n := "flagstone/flagstonedraw.versions") (d := Rows.laid_flagstone_flagstonedraw_versions) (by simp [Rows.subjectDecodesRow])) (Lib.laidMet.reads hL (n := "flagstone/flagstonedraw.lists") (d := Rows.laid_flagstone_flagstonedraw_lists) (by simp [Rows.subjectDecodesRow]))
  exact decodes_walk a0 len0 cap0 a1 len1 cap1 a2 a3 W (draw.bytes_of_row w0) (draw.bytes_of_row w1) (i64_bdD w2).1 (i64_bdD w2).2 (u8_bdD w3).1 (u8_bdD w3).2 (fun b hb => hG.mono (sub_but W b hb)) hT

end Go.Proofs.YtamkmdlfhlbbeaaGreatDoor.law

