/- ValueCompares: the walk, with what the row gives it. -/
import Derived.Test.YtnghpjijfdpmkaaGreatDoorValLM
import Derived.Test.YtnghpjijfdpmkaaGreatDoorValOV
import Derived.Test.YtnghpjijfdpmkaaGreatDoorRowVCo
namespace Go.Proofs.YtnghpjijfdpmkaaGreatDoor.law
open Go.RowKit Go.Lib Go.Proofs.YtnghpjijfdpmkaaGreatDoor Go.Proofs.YtnghpjijfdpmkaaGreatDoor.text Go.Proofs.YtnghpjijfdpmkaaGreatDoor.value Go.Proofs.YtnghpjijfdpmkaaGreatDoor.draw

set_option maxRecDepth 100000 in
theorem valueCompares_final {H : Type} {enc : TypeId × Value → H} (W : World) (hL : laidMetH Tryz.prog Rows.valueComparesRow.laid W) (hsh : W.ShapedOpen Tryz.prog) {base b0 : Nat} {sp : Nat → Bool} {held : Bool} (v0 : Value) (o0 : Value.okWide Tryz.prog W .any b0 24 v0)
    {d0 : DataW H} {p0 : List MemPlace} (k0 : DataW.Trod enc Tryz.prog W base sp held 24 v0 d0 p0)
    (v1 : Value) (o1 : Value.okWide Tryz.prog W .any b0 24 v1) {d1 : DataW H} {p1 : List MemPlace} (k1 : DataW.Trod enc Tryz.prog W base sp held 24 v1 d1 p1) (a2 : Option Addr) (len2 cap2 : Nat) (z2 : List Int) (w2 : IsRow .u8 W a2 len2 cap2 z2) :
    Calls Tryz.prog 6 #[v0, v1, .slice a2 len2 cap2] W fun e W' => e = .returned (.bool true) ∧ Below W.heap.size W W' := by
  have hT := valueComparesRow.tabs_of_laid hL hsh
  rw [MakeChecks.laidMetH_plain _ _ _ (by kernel_rfl)] at hL
  have hD := draw_of_reads (Lib.laidMet.reads hL (n := "flagstone/flagstonedraw.texts") (d := Rows.laid_flagstone_flagstonedraw_texts) (by simp [Rows.valueComparesRow])) (Lib.laidMet.reads hL (n := "flagstone/flagstonedraw.versions") (d := Rows.laid_flagstone_flagstonedraw_versions) (by simp [Rows.valueComparesRow]))
  have hLT := lists_of_reads (Lib.laidMet.reads hL (n := "flagstone/flagstonedraw.lists") (d := Rows.laid_flagstone_flagstonedraw_lists) (by simp [Rows.valueComparesRow]))
  obtain ⟨k, n, t, la, lc, ls, rfl, -, hl, hV, -⟩ := open_value o0 k0
  obtain ⟨k', n', t', la', lc', ls', rfl, -, hl', hV', -⟩ := open_value o1 k1
  unfold maxLen at hl hl'
  exact compares_walk ⟨⟨k, n, t.data.toList, lsL ls⟩, t, la, lc, ls⟩ ⟨⟨k', n', t'.data.toList, lsL ls'⟩, t', la', lc', ls'⟩ a2 len2 cap2 W hV hV' (by show ls.length ≤ _; omega) (by show ls'.length ≤ _; omega) (draw.bytes_of_row w2) hT hD hLT

end Go.Proofs.YtnghpjijfdpmkaaGreatDoor.law
