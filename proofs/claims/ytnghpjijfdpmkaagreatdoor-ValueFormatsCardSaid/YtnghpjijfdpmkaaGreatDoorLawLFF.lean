/- ValueFormats: the walk, with what the row gives it. -/
import Derived.Test.YtnghpjijfdpmkaaGreatDoorValLF
import Derived.Test.YtnghpjijfdpmkaaGreatDoorValOV
import Derived.Test.YtnghpjijfdpmkaaGreatDoorRowVFo
namespace Go.Proofs.YtnghpjijfdpmkaaGreatDoor.law
open Go.RowKit Go.Lib Go.Proofs.YtnghpjijfdpmkaaGreatDoor Go.Proofs.YtnghpjijfdpmkaaGreatDoor.text Go.Proofs.YtnghpjijfdpmkaaGreatDoor.value Go.Proofs.YtnghpjijfdpmkaaGreatDoor.draw

set_option maxRecDepth 100000 in
theorem valueFormats_final {H : Type} {enc : TypeId × Value → H} (W : World) (hL : laidMetH Tryz.prog Rows.valueFormatsRow.laid W) (hsh : W.ShapedOpen Tryz.prog) {base b0 : Nat} {sp : Nat → Bool} {held : Bool} (v0 : Value) (o0 : Value.okWide Tryz.prog W .any b0 24 v0)
    {d0 : DataW H} {p0 : List MemPlace} (k0 : DataW.Trod enc Tryz.prog W base sp held 24 v0 d0 p0) (a1 : Option Addr) (len1 cap1 : Nat) (z1 : List Int) (w1 : IsRow .u8 W a1 len1 cap1 z1) :
    Calls Tryz.prog 4 #[v0, .slice a1 len1 cap1] W fun e W' => e = .returned (.bool true) ∧ Below W.heap.size W W' := by
  have hT := valueFormatsRow.tabs_of_laid hL hsh
  rw [MakeChecks.laidMetH_plain _ _ _ (by kernel_rfl)] at hL
  have hD := draw_of_reads (Lib.laidMet.reads hL (n := "flagstone/flagstonedraw.texts") (d := Rows.laid_flagstone_flagstonedraw_texts) (by simp [Rows.valueFormatsRow])) (Lib.laidMet.reads hL (n := "flagstone/flagstonedraw.versions") (d := Rows.laid_flagstone_flagstonedraw_versions) (by simp [Rows.valueFormatsRow]))
  have hLT := lists_of_reads (Lib.laidMet.reads hL (n := "flagstone/flagstonedraw.lists") (d := Rows.laid_flagstone_flagstonedraw_lists) (by simp [Rows.valueFormatsRow]))
  obtain ⟨k, n, t, la, lc, ls, rfl, -, hl, hV, -⟩ := open_value o0 k0
  unfold maxLen at hl
  exact formats_walk ⟨k, n, t.data.toList, lsL ls⟩ t la lc ls a1 len1 cap1 W hV (by omega) (draw.bytes_of_row w1) hT hD hLT

end Go.Proofs.YtnghpjijfdpmkaaGreatDoor.law
