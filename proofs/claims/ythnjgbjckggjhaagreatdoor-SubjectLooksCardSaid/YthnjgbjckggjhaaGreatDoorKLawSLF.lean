/- SubjectLooks: the walk, with what the row gives it. -/
import Derived.Test.YthnjgbjckggjhaaGreatDoorKWdL3
import Derived.Test.YthnjgbjckggjhaaGreatDoorKRowSL
import Derived.Test.YthnjgbjckggjhaaGreatDoorKOpenW
import Derived.Test.YthnjgbjckggjhaaGreatDoorKJ9
namespace Go.Proofs.YthnjgbjckggjhaaGreatDoor.law
open Go.ChangeShapes Go.WideShapes Go.RowKit Go.Lib Go.Proofs.YthnjgbjckggjhaaGreatDoor Go.Proofs.YthnjgbjckggjhaaGreatDoor.schema Go.Proofs.YthnjgbjckggjhaaGreatDoor.text Go.Proofs.YthnjgbjckggjhaaGreatDoor.value Go.Proofs.YthnjgbjckggjhaaGreatDoor.draw Go.Proofs.YthnjgbjckggjhaaGreatDoor.clause Go.Proofs.YthnjgbjckggjhaaGreatDoor.subj

set_option maxRecDepth 100000 in
theorem subjectLooks_final (W : World) (hL : laidMetH Tryz.prog Rows.subjectLooksRow.laid W) (hsh : W.ShapedOpen Tryz.prog)
    {H : Type} {enc : TypeId × Value → H} {base b0 : Nat} {sp : Nat → Bool} {held : Bool} {d0 : DataW H} {p0 : List MemPlace}
    (v0 : Value) (o0 : Value.okWide Tryz.prog W .any b0 24 v0) (k0 : DataW.Trod enc Tryz.prog W base sp held 24 v0 d0 p0) (q0 : ∀ x ∈ DataW.weights Tryz.prog 24 d0, x ≤ reachBytes)
    (a1 : Option Addr) (len1 cap1 : Nat) (z1 : List Int) (w1 : IsRow .u8 W a1 len1 cap1 z1)
    (s2 : ByteArray) (_w2 : s2.size ≤ maxLen) (s3 : ByteArray) (_w3 : s3.size ≤ maxLen) :
    Calls Tryz.prog 3 #[v0, .slice a1 len1 cap1, .string s2, .string s3] W fun e W' => e = .returned (.bool true) ∧ Below W.heap.size W W' := by
  have hT := subjectLooksRow.stabs_of_laid hL hsh
  rw [MakeChecks.laidMetH_plain _ _ _ (by kernel_rfl)] at hL
  have hG := glob_of_reads (Lib.laidMet.reads hL (n := "flagstone/flagstonedraw.texts") (d := Rows.laid_flagstone_flagstonedraw_texts) (by simp [Rows.subjectLooksRow])) (Lib.laidMet.reads hL (n := "flagstone/flagstonedraw.versions") (d := Rows.laid_flagstone_flagstonedraw_versions) (by simp [Rows.subjectLooksRow])) (Lib.laidMet.reads hL (n := "flagstone/flagstonedraw.lists") (d := Rows.laid_flagstone_flagstonedraw_lists) (by simp [Rows.subjectLooksRow]))
  obtain ⟨sa, sn, sc, ls, rfl, hS⟩ := subj.wide.open_subjectW o0 q0 k0
  exact subj.wide.looks_walk sa sn sc ls a1 len1 cap1 s2 s3 W (draw.bytes_of_row w1) hS (fun b hb => hG.mono (sub_but W b hb)) hT

end Go.Proofs.YthnjgbjckggjhaaGreatDoor.law

