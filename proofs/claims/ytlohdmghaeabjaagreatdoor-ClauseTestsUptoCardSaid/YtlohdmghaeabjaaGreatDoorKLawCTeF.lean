/- ClauseTests: the walk, with what the row gives it. -/
import Derived.Test.YtlohdmghaeabjaaGreatDoorKClTx
import Derived.Test.YtlohdmghaeabjaaGreatDoorKRowCTe
import Derived.Test.YtlohdmghaeabjaaGreatDoorKJ9
import Derived.Test.YtlohdmghaeabjaaGreatDoorKJ9
namespace Go.Proofs.YtlohdmghaeabjaaGreatDoor.law
open Go.ChangeShapes Go.WideShapes Go.RowKit Go.Lib Go.Proofs.YtlohdmghaeabjaaGreatDoor Go.Proofs.YtlohdmghaeabjaaGreatDoor.schema Go.Proofs.YtlohdmghaeabjaaGreatDoor.text Go.Proofs.YtlohdmghaeabjaaGreatDoor.value Go.Proofs.YtlohdmghaeabjaaGreatDoor.draw Go.Proofs.YtlohdmghaeabjaaGreatDoor.clause

theorem int_bd {a : Int} (h : (Lit.int .i64 a).wf = true) : -9223372036854775808 ≤ a ∧ a ≤ 9223372036854775807 := by
  simpa [Lit.wf, IntKind.min, IntKind.max, IntKind.signed, IntKind.bits] using h
set_option maxRecDepth 100000 in
theorem clauseTests_final (W : World) (hL : laidMetH Tryz.prog Rows.clauseTestsUptoRow.laid W) (hsh : W.ShapedOpen Tryz.prog) (a0 : Option Addr) (len0 cap0 : Nat) (z0 : List Int) (w0 : IsRow .u8 W a0 len0 cap0 z0)
    {H : Type} {enc : TypeId × Value → H} {base b0 : Nat} {sp : Nat → Bool} {held : Bool} {d1 d2 : DataW H} {p1 p2 : List MemPlace}
    (v1 : Value) (o1 : Value.okWide Tryz.prog W .any b0 25 v1) (k1 : DataW.Trod enc Tryz.prog W base sp held 25 v1 d1 p1) (b1 : Rows.uptoBulk d1 ≤ 1048576)
    (v2 : Value) (o2 : Value.okWide Tryz.prog W .any b0 29 v2) (k2 : DataW.Trod enc Tryz.prog W base sp held 29 v2 d2 p2) (b2 : Rows.uptoBulk d2 ≤ 1048576)
    (a3 : Int) (w3 : (Lit.int .i64 a3).wf = true) :
    Calls Tryz.prog 3 #[.slice a0 len0 cap0, v1, v2, .int .i64 a3] W fun e W' => e = .returned (.bool true) ∧ Below W.heap.size W W' := by
  have hT := clauseTestsUptoRow.tabs_of_laid hL hsh
  rw [MakeChecks.laidMetH_plain _ _ _ (by kernel_rfl)] at hL
  have hG := glob_of_reads (Lib.laidMet.reads hL (n := "flagstone/flagstonedraw.texts") (d := Rows.laid_flagstone_flagstonedraw_texts) (by simp [Rows.clauseTestsUptoRow])) (Lib.laidMet.reads hL (n := "flagstone/flagstonedraw.versions") (d := Rows.laid_flagstone_flagstonedraw_versions) (by simp [Rows.clauseTestsUptoRow])) (Lib.laidMet.reads hL (n := "flagstone/flagstonedraw.lists") (d := Rows.laid_flagstone_flagstonedraw_lists) (by simp [Rows.clauseTestsUptoRow]))
  obtain ⟨sa, sn, sc, ls, rfl, hS, -⟩ := open_subject o1 b1 k1
  obtain ⟨de, re, rfl, hE⟩ := open_exprB o2 b2 k2
  exact tests_walk a0 len0 cap0 sa sn sc ls de re a3 W (int_bd w3).1 (int_bd w3).2 (draw.bytes_of_row w0) hS hE (fun b hb => hG.mono (sub_but W b hb)) hT

end Go.Proofs.YtlohdmghaeabjaaGreatDoor.law

