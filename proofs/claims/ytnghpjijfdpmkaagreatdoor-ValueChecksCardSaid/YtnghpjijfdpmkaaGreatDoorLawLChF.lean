/- ValueChecks: the walk, with what the row gives it. -/
import Derived.Test.YtnghpjijfdpmkaaGreatDoorValLCh
import Derived.Test.YtnghpjijfdpmkaaGreatDoorValOV
import Derived.Test.YtnghpjijfdpmkaaGreatDoorRowVCh
namespace Go.Proofs.YtnghpjijfdpmkaaGreatDoor.law
open Go.RowKit Go.Lib Go.Proofs.YtnghpjijfdpmkaaGreatDoor Go.Proofs.YtnghpjijfdpmkaaGreatDoor.text Go.Proofs.YtnghpjijfdpmkaaGreatDoor.value Go.Proofs.YtnghpjijfdpmkaaGreatDoor.draw

set_option maxRecDepth 100000 in
theorem valueChecks_final {H : Type} {enc : TypeId × Value → H} (W : World) (hL : laidMetH Tryz.prog Rows.valueChecksRow.laid W) (hsh : W.ShapedOpen Tryz.prog) {base b0 : Nat} {sp : Nat → Bool} {held : Bool} (v0 : Value) (o0 : Value.okWide Tryz.prog W .any b0 24 v0)
    {d0 : DataW H} {p0 : List MemPlace} (k0 : DataW.Trod enc Tryz.prog W base sp held 24 v0 d0 p0) (a1 : Option Addr) (len1 cap1 : Nat) (z1 : List Int) (w1 : IsRow .u8 W a1 len1 cap1 z1) :
    Calls Tryz.prog 3 #[v0, .slice a1 len1 cap1] W fun e W' => e = .returned (.bool true) ∧ Below W.heap.size W W' := by
  have hT := valueChecksRow.tabs_of_laid hL hsh
  rw [MakeChecks.laidMetH_plain _ _ _ (by kernel_rfl)] at hL
  have hD := draw_of_reads (Lib.laidMet.reads hL (n := "flagstone/flagstonedraw.texts") (d := Rows.laid_flagstone_flagstonedraw_texts) (by simp [Rows.valueChecksRow])) (Lib.laidMet.reads hL (n := "flagstone/flagstonedraw.versions") (d := Rows.laid_flagstone_flagstonedraw_versions) (by simp [Rows.valueChecksRow]))
  have hLT := lists_of_reads (Lib.laidMet.reads hL (n := "flagstone/flagstonedraw.lists") (d := Rows.laid_flagstone_flagstonedraw_lists) (by simp [Rows.valueChecksRow]))
  obtain ⟨k, n, t, la, lc, ls, rfl, -, hl, hV, -⟩ := open_value o0 k0
  unfold maxLen at hl
  exact checks_walk ⟨⟨k, n, t.data.toList, lsL ls⟩, t, la, lc, ls⟩ a1 len1 cap1 W hV (by show ls.length ≤ _; omega) (draw.bytes_of_row w1) hT hD hLT

end Go.Proofs.YtnghpjijfdpmkaaGreatDoor.law
