/- SubjectTrip: the walk, with what the row gives it. -/
import Derived.Test.YtamkmdlfhlbbeaaGreatDoorKSuLt
import Derived.Test.YtamkmdlfhlbbeaaGreatDoorKRowST
import Derived.Test.YtamkmdlfhlbbeaaGreatDoorKJ9
import Derived.Test.YtamkmdlfhlbbeaaGreatDoorKJ9
namespace Go.Proofs.YtamkmdlfhlbbeaaGreatDoor.law
open Go.ChangeShapes Go.WideShapes Go.RowKit Go.Lib Go.Proofs.YtamkmdlfhlbbeaaGreatDoor Go.Proofs.YtamkmdlfhlbbeaaGreatDoor.schema Go.Proofs.YtamkmdlfhlbbeaaGreatDoor.text Go.Proofs.YtamkmdlfhlbbeaaGreatDoor.value Go.Proofs.YtamkmdlfhlbbeaaGreatDoor.draw Go.Proofs.YtamkmdlfhlbbeaaGreatDoor.clause Go.Proofs.YtamkmdlfhlbbeaaGreatDoor.subj

set_option maxRecDepth 100000 in
theorem subjectTrip_final (W : World) (hL : laidMetH Tryz.prog Rows.subjectTripUptoRow.laid W) (hsh : W.ShapedOpen Tryz.prog)
    {H : Type} {enc : TypeId × Value → H} {base b0 : Nat} {sp : Nat → Bool} {held : Bool} {d0 : DataW H} {p0 : List MemPlace}
    (v0 : Value) (o0 : Value.okWide Tryz.prog W .any b0 24 v0) (k0 : DataW.Trod enc Tryz.prog W base sp held 24 v0 d0 p0) (b0' : Rows.uptoBulk d0 ≤ 1048576)
    (a1 : Option Addr) (len1 cap1 : Nat) (z1 : List Int) (w1 : IsRow .u8 W a1 len1 cap1 z1) :
    Calls Tryz.prog 7 #[v0, .slice a1 len1 cap1] W fun e W' => e = .returned (.bool true) ∧ Below W.heap.size W W' := by
  have hT := subjectTripUptoRow.stabs_of_laid hL hsh
  rw [MakeChecks.laidMetH_plain _ _ _ (by kernel_rfl)] at hL
  have hG := glob_of_reads (Lib.laidMet.reads hL (n := "flagstone/flagstonedraw.texts") (d := Rows.laid_flagstone_flagstonedraw_texts) (by simp [Rows.subjectTripUptoRow])) (Lib.laidMet.reads hL (n := "flagstone/flagstonedraw.versions") (d := Rows.laid_flagstone_flagstonedraw_versions) (by simp [Rows.subjectTripUptoRow])) (Lib.laidMet.reads hL (n := "flagstone/flagstonedraw.lists") (d := Rows.laid_flagstone_flagstonedraw_lists) (by simp [Rows.subjectTripUptoRow]))
  obtain ⟨sa, sn, sc, ls, rfl, hS, hN, -⟩ := open_subject o0 b0' k0
  exact trip_walk a1 len1 cap1 sa sn sc ls W (draw.bytes_of_row w1) hS hN (fun b hb => hG.mono (sub_but W b hb)) hT

end Go.Proofs.YtamkmdlfhlbbeaaGreatDoor.law

