/- ClauseAtoms: the walk, with what the row gives it. -/
import Derived.Test.YtlohdmghaeabjaaGreatDoorKClAt
import Derived.Test.YtlohdmghaeabjaaGreatDoorKRowCAt
import Derived.Test.YtlohdmghaeabjaaGreatDoorKOpenC
import Derived.Test.YtlohdmghaeabjaaGreatDoorKJ9
namespace Go.Proofs.YtlohdmghaeabjaaGreatDoor.law
open Go.ChangeShapes Go.WideShapes Go.RowKit Go.Lib Go.Proofs.YtlohdmghaeabjaaGreatDoor Go.Proofs.YtlohdmghaeabjaaGreatDoor.schema Go.Proofs.YtlohdmghaeabjaaGreatDoor.text Go.Proofs.YtlohdmghaeabjaaGreatDoor.value Go.Proofs.YtlohdmghaeabjaaGreatDoor.draw Go.Proofs.YtlohdmghaeabjaaGreatDoor.clause

set_option maxRecDepth 100000 in
theorem clauseAtoms_final (W : World) (hL : laidMetH Tryz.prog Rows.clauseAtomsUptoRow.laid W) (hsh : W.ShapedOpen Tryz.prog) (a0 : Option Addr) (len0 cap0 : Nat) (z0 : List Int) (w0 : IsRow .u8 W a0 len0 cap0 z0)
    {H : Type} {enc : TypeId × Value → H} {base b0 : Nat} {sp : Nat → Bool} {held : Bool} {d1 : DataW H} {p1 : List MemPlace}
    (v1 : Value) (o1 : Value.okWide Tryz.prog W .any b0 29 v1) (k1 : DataW.Trod enc Tryz.prog W base sp held 29 v1 d1 p1) (b1 : Rows.uptoBulk d1 ≤ 1048576) :
    Calls Tryz.prog 6 #[.slice a0 len0 cap0, v1] W fun e W' => e = .returned (.bool true) ∧ Below W.heap.size W W' := by
  have hT := clauseAtomsUptoRow.tabs_of_laid hL hsh
  rw [MakeChecks.laidMetH_plain _ _ _ (by kernel_rfl)] at hL
  have hG := glob_of_reads (Lib.laidMet.reads hL (n := "flagstone/flagstonedraw.texts") (d := Rows.laid_flagstone_flagstonedraw_texts) (by simp [Rows.clauseAtomsUptoRow])) (Lib.laidMet.reads hL (n := "flagstone/flagstonedraw.versions") (d := Rows.laid_flagstone_flagstonedraw_versions) (by simp [Rows.clauseAtomsUptoRow])) (Lib.laidMet.reads hL (n := "flagstone/flagstonedraw.lists") (d := Rows.laid_flagstone_flagstonedraw_lists) (by simp [Rows.clauseAtomsUptoRow]))
  obtain ⟨de, re, rfl, hE, hce, hfe⟩ := open_exprC o1 b1 k1
  exact atoms_walk a0 len0 cap0 de re W (draw.bytes_of_row w0) hE hce hfe (fun b hb => hG.mono (sub_but W b hb)) hT

end Go.Proofs.YtlohdmghaeabjaaGreatDoor.law

