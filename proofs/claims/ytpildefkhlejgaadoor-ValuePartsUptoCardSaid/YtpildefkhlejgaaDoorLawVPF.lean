/- ValueParts: the walk, with what the row gives it. -/
import Derived.Test.YtpildefkhlejgaaDoorValLP
import Derived.Test.YtpildefkhlejgaaDoorRowVP
import Derived.Test.YtpildefkhlejgaaDoorTab
namespace Go.Proofs.YtpildefkhlejgaaDoor.law
open Go.RowKit Go.Proofs.YtpildefkhlejgaaDoor Go.Proofs.YtpildefkhlejgaaDoor.text Go.Proofs.YtpildefkhlejgaaDoor.value

theorem lit_str {a : ByteArray} {l : List UInt8} (h : (DataW.lit (H := Unit) (.string l)) = .lit (.string a.data.toList)) : a = ⟨l.toArray⟩ := by
  injection h with h
  injection h with h
  rw [h]
theorem names_of_laid {w : World} (h : laidMetH Tryd.prog Rows.valuePartsUptoRow.laid w) : Names w := by
  rw [MakeChecks.laidMetH_plain _ _ _ (by kernel_rfl)] at h
  have hn := Lib.laidMet.reads h (n := "flagstone/value.names") (d := Rows.laid_flagstone_value_names) (by simp [Rows.valuePartsUptoRow])
  obtain ⟨g', t', cs, fuel, p, hg', ht', hvar, hd⟩ := hn
  obtain rfl := Option.some.inj ((show Tryd.prog.globalNamed "flagstone/value.names" = some 3 by kernel_rfl).symm.trans hg')
  obtain rfl := Option.some.inj ((show (Tryd.prog.globals[3]?).map (·.type) = some 79 by kernel_rfl).symm.trans ht')
  obtain ⟨ss, hl, hd2, hc⟩ := tab_strs hg' hvar Tryd.underlying79 Tryd.underlying9 (by kernel_rfl) hd
  obtain ⟨a, b, c, d, e, rfl⟩ : ∃ a b c d e, ss = [a, b, c, d, e] := by
    match ss, hl with
    | [a, b, c, d, e], _ => exact ⟨a, b, c, d, e, rfl⟩
  rw [Rows.laid_flagstone_value_names] at hd2
  injection hd2 with hd2
  simp only [List.map_cons, List.map_nil, List.cons.injEq, and_true] at hd2
  obtain ⟨h0, h1, h2, h3, h4⟩ := hd2
  intro j hj
  have h5 := hc j
  rcases (show j = 0 ∨ j = 1 ∨ j = 2 ∨ j = 3 ∨ j = 4 by omega) with rfl | rfl | rfl | rfl | rfl
  · rw [h5 a rfl, lit_str h0]; rfl
  · rw [h5 b rfl, lit_str h1]; rfl
  · rw [h5 c rfl, lit_str h2]; rfl
  · rw [h5 d rfl, lit_str h3]; rfl
  · rw [h5 e rfl, lit_str h4]; rfl

theorem int_bd {a : Int} (h : (Lit.int .i64 a).wf = true) : -9223372036854775808 ≤ a ∧ a ≤ 9223372036854775807 := by
  simpa [Lit.wf, IntKind.min, IntKind.max, IntKind.signed, IntKind.bits] using h
theorem valueParts_final (W : World) (hL : laidMetH Tryd.prog Rows.valuePartsUptoRow.laid W) (hsh : W.ShapedOpen Tryd.prog) (s0 : ByteArray) (_w0 : s0.size ≤ maxLen) (r0 : s0.size ≤ 1048576) (a1 : Int) (_w1 : (Lit.int .i64 a1).wf = true) (a2 : Int) (w2 : (Lit.int .i64 a2).wf = true) :
    Calls Tryd.prog 10 #[.string s0, .int .i64 a1, .int .i64 a2] W fun e W' => e = .returned (.bool true) ∧ Below W.heap.size W W' :=
  parts_walk s0 a1 a2 W r0 (int_bd w2).1 (int_bd w2).2 (valuePartsUptoRow.tabs_of_laid hL hsh) (names_of_laid hL)

end Go.Proofs.YtpildefkhlejgaaDoor.law
