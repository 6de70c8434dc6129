/- SchemaSubjects: the walk, with what the row gives it. -/
import Derived.Test.YtamkmdlfhlbbeaaDoorKSuL9
import Derived.Test.YtamkmdlfhlbbeaaDoorKRowSS
import Derived.Test.YtamkmdlfhlbbeaaDoorKJ9
import Derived.Test.YtamkmdlfhlbbeaaDoorKJ9
namespace Go.Proofs.YtamkmdlfhlbbeaaDoor.law
open Go.ChangeShapes Go.WideShapes Go.RowKit Go.Lib Go.Proofs.YtamkmdlfhlbbeaaDoor Go.Proofs.YtamkmdlfhlbbeaaDoor.schema Go.Proofs.YtamkmdlfhlbbeaaDoor.text Go.Proofs.YtamkmdlfhlbbeaaDoor.value Go.Proofs.YtamkmdlfhlbbeaaDoor.draw Go.Proofs.YtamkmdlfhlbbeaaDoor.clause Go.Proofs.YtamkmdlfhlbbeaaDoor.subj

theorem int_bd {a : Int} (h : (Lit.int .i64 a).wf = true) : -9223372036854775808 ≤ a ∧ a ≤ 9223372036854775807 := by
  simpa [Lit.wf, IntKind.min, IntKind.max, IntKind.signed, IntKind.bits] using h
set_option maxRecDepth 100000 in
theorem schemaSubjects_final (W : World) (hL : laidMetH Tryd.prog Rows.schemaSubjectsUptoRow.laid W) (hsh : W.ShapedOpen Tryd.prog)
    {H : Type} {enc : TypeId × Value → H} {base b0 : Nat} {sp : Nat → Bool} {held : Bool} {d3 : DataW H} {p3 : List MemPlace}
    (a0 : Option Addr) (len0 cap0 : Nat) (z0 : List Int) (w0 : IsRow .u8 W a0 len0 cap0 z0)
    (a1 : Int) (w1 : (Lit.int .i64 a1).wf = true) (a2 : Int) (w2 : (Lit.int .i64 a2).wf = true)
    (v3 : Value) (o3 : Value.okWide Tryd.prog W .any b0 25 v3) (k3 : DataW.Trod enc Tryd.prog W base sp held 25 v3 d3 p3) (b3' : Rows.uptoBulk d3 ≤ 1048576) :
    Calls Tryd.prog 3 #[.slice a0 len0 cap0, .int .i64 a1, .int .i64 a2, v3] W fun e W' => e = .returned (.bool true) ∧ Below W.heap.size W W' := by
  have hT := schemaSubjectsUptoRow.stabs_of_laid hL hsh
  rw [MakeChecks.laidMetH_plain _ _ _ (by kernel_rfl)] at hL
  have hG := glob_of_reads (Lib.laidMet.reads hL (n := "flagstone/flagstonedraw.texts") (d := Rows.laid_flagstone_flagstonedraw_texts) (by simp [Rows.schemaSubjectsUptoRow])) (Lib.laidMet.reads hL (n := "flagstone/flagstonedraw.versions") (d := Rows.laid_flagstone_flagstonedraw_versions) (by simp [Rows.schemaSubjectsUptoRow])) (Lib.laidMet.reads hL (n := "flagstone/flagstonedraw.lists") (d := Rows.laid_flagstone_flagstonedraw_lists) (by simp [Rows.schemaSubjectsUptoRow]))
  obtain ⟨sa, sn, sc, ls, rfl, hS, hN, -⟩ := open_subject o3 b3' k3
  exact ssub_walk a0 len0 cap0 a1 a2 (int_bd w1).1 (int_bd w1).2 (int_bd w2).1 (int_bd w2).2 sa sn sc ls W (draw.bytes_of_row w0) hS hN (fun b hb => hG.mono (sub_but W b hb)) hT

end Go.Proofs.YtamkmdlfhlbbeaaDoor.law

