/- ClauseEvals: the walk, with what the row gives it. -/
import Derived.Test.YtlohdmghaeabjaaGreatDoorKClEx
import Derived.Test.YtlohdmghaeabjaaGreatDoorKRowCEv
import Derived.Test.YtlohdmghaeabjaaGreatDoorKJ9
import Derived.Test.YtlohdmghaeabjaaGreatDoorKJ9
namespace Go.Proofs.YtlohdmghaeabjaaGreatDoor.law
open Go.ChangeShapes Go.WideShapes Go.RowKit Go.Lib Go.Proofs.YtlohdmghaeabjaaGreatDoor Go.Proofs.YtlohdmghaeabjaaGreatDoor.schema Go.Proofs.YtlohdmghaeabjaaGreatDoor.text Go.Proofs.YtlohdmghaeabjaaGreatDoor.value Go.Proofs.YtlohdmghaeabjaaGreatDoor.draw Go.Proofs.YtlohdmghaeabjaaGreatDoor.clause

set_option maxRecDepth 100000 in
theorem clauseEvals_final (W : World) (hL : laidMetH Tryz.prog Rows.clauseEvalsUptoRow.laid W) (hsh : W.ShapedOpen Tryz.prog) (a0 : Option Addr) (len0 cap0 : Nat) (z0 : List Int) (w0 : IsRow .u8 W a0 len0 cap0 z0)
    {H : Type} {enc : TypeId × Value → H} {base b0 : Nat} {sp : Nat → Bool} {held : Bool} {d1 d2 d3 : DataW H} {p1 p2 p3 : List MemPlace}
    (v1 : Value) (o1 : Value.okWide Tryz.prog W .any b0 25 v1) (k1 : DataW.Trod enc Tryz.prog W base sp held 25 v1 d1 p1) (b1 : Rows.uptoBulk d1 ≤ 1048576)
    (v2 : Value) (o2 : Value.okWide Tryz.prog W .any b0 29 v2) (k2 : DataW.Trod enc Tryz.prog W base sp held 29 v2 d2 p2) (b2 : Rows.uptoBulk d2 ≤ 1048576)
    (v3 : Value) (o3 : Value.okWide Tryz.prog W .any b0 41 v3) (k3 : DataW.Trod enc Tryz.prog W base sp held 41 v3 d3 p3) (_b3 : Rows.uptoBulk d3 ≤ 1048576) :
    Calls Tryz.prog 5 #[.slice a0 len0 cap0, v1, v2, v3] W fun e W' => e = .returned (.bool true) ∧ Below W.heap.size W W' := by
  have hT := clauseEvalsUptoRow.tabs_of_laid hL hsh
  rw [MakeChecks.laidMetH_plain _ _ _ (by kernel_rfl)] at hL
  have hG := glob_of_reads (Lib.laidMet.reads hL (n := "flagstone/flagstonedraw.texts") (d := Rows.laid_flagstone_flagstonedraw_texts) (by simp [Rows.clauseEvalsUptoRow])) (Lib.laidMet.reads hL (n := "flagstone/flagstonedraw.versions") (d := Rows.laid_flagstone_flagstonedraw_versions) (by simp [Rows.clauseEvalsUptoRow])) (Lib.laidMet.reads hL (n := "flagstone/flagstonedraw.lists") (d := Rows.laid_flagstone_flagstonedraw_lists) (by simp [Rows.clauseEvalsUptoRow]))
  obtain ⟨sa, sn, sc, ls, rfl, hS, -⟩ := open_subject o1 b1 k1
  obtain ⟨de, re, rfl, hE⟩ := open_exprB o2 b2 k2
  obtain ⟨ia, i, ic, rfl⟩ := okWide_slice Tryz.underlying41 o3
  obtain ⟨fuel, hf⟩ := k3
  obtain ⟨inn, hin⟩ := open_ls (v := .slice ia i ic) hf
  exact evals_walk a0 len0 cap0 sa sn sc ls de re ia i ic inn W (draw.bytes_of_row w0) hS hE hin (fun b hb => hG.mono (sub_but W b hb)) hT

end Go.Proofs.YtlohdmghaeabjaaGreatDoor.law

