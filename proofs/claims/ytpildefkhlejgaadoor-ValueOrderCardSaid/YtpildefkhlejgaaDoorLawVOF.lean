/- ValueOrder: the walk, with what the row gives it. -/
import Derived.Test.YtpildefkhlejgaaDoorValLO
import Derived.Test.YtpildefkhlejgaaDoorRowVO
namespace Go.Proofs.YtpildefkhlejgaaDoor.law
open Go.RowKit Go.Lib Go.Proofs.YtpildefkhlejgaaDoor Go.Proofs.YtpildefkhlejgaaDoor.text Go.Proofs.YtpildefkhlejgaaDoor.value Go.Proofs.YtpildefkhlejgaaDoor.draw

theorem lits_inj' : ∀ (L : List (List UInt8)) (ss : List ByteArray), L.map (fun l => (DataW.lit (.string l) : DataW Unit)) = ss.map (fun s => .lit (.string s.data.toList)) → ss = L.map (fun l => ⟨l.toArray⟩)
  | [], [], _ => rfl
  | [], _ :: _, h => by cases h
  | _ :: _, [], h => by cases h
  | l :: L, s :: ss, h => by
    rw [List.map_cons, List.map_cons] at h
    injection h with h1 h2
    injection h1 with h1
    injection h1 with h1
    rw [List.map_cons, ← lits_inj' L ss h2, h1]
def textsL : List (List UInt8) := [[115, 101], [100, 101], [117, 115], [112, 114, 111], [102, 114, 101, 101], [], [97, 34, 98], [99, 92], [195, 169], [112, 114, 111, 115, 101], [120, 32, 121]]
def versionsL : List (List UInt8) := [[49, 46, 48, 46, 48], [49, 46, 50, 46, 51], [49, 46, 49, 48, 46, 48], [50, 46, 48, 46, 49], [48, 46, 48, 46, 48], [57, 57, 57, 57, 57, 57, 46, 48, 46, 57, 57, 57, 57, 57, 57]]
set_option maxRecDepth 100000 in
theorem strs_at {w : World} {nm : String} {g t n : Nat} {d : DataW Unit} {L : List (List UInt8)} (hn : VarReads Tryd.prog w nm d) (hg : Tryd.prog.globalNamed nm = some g) (ht : (Tryd.prog.globals[g]?).map (·.type) = some t)
    (hu : Tryd.prog.underlying t = some (.array n 9)) (hd0 : d = .agg (L.map fun l => .lit (.string l))) (j : Nat) (hj : j < L.length) : w.cell? ⟨g, j, none⟩ = some (.string ⟨L[j].toArray⟩) := by
  obtain ⟨g', t', cs, fuel, p, hg', ht', hvar, hd⟩ := hn
  obtain rfl := Option.some.inj (hg.symm.trans hg')
  obtain rfl := Option.some.inj (ht.symm.trans ht')
  obtain ⟨ss, hl, hd2, hc⟩ := tab_strs hg' hvar hu Tryd.underlying9 (by kernel_rfl) hd
  rw [hd0] at hd2
  injection hd2 with hd2
  have hss := lits_inj' L ss hd2
  refine hc j _ ?_
  rw [hss, List.getElem?_map, List.getElem?_eq_getElem hj]
  rfl
set_option maxRecDepth 100000 in
theorem draw_tabs {w : World} (h : laidMetH Tryd.prog Rows.valueOrderRow.laid w) : DrawTabs w.cell? := by
  rw [MakeChecks.laidMetH_plain _ _ _ (by kernel_rfl)] at h
  have h1 := Lib.laidMet.reads h (n := "flagstone/flagstonedraw.texts") (d := Rows.laid_flagstone_flagstonedraw_texts) (by simp [Rows.valueOrderRow])
  have h2 := Lib.laidMet.reads h (n := "flagstone/flagstonedraw.versions") (d := Rows.laid_flagstone_flagstonedraw_versions) (by simp [Rows.valueOrderRow])
  have k1 := strs_at (g := 4) (t := 92) (n := 11) (L := textsL) h1 (by kernel_rfl) (by kernel_rfl) Tryd.underlying92 rfl
  have k2 := strs_at (g := 1) (t := 76) (n := 6) (L := versionsL) h2 (by kernel_rfl) (by kernel_rfl) Tryd.underlying76 rfl
  have v1 : ∀ l ∈ textsL, validS l = true ∧ l.length ≤ 200 := by
    have hb : (textsL.all fun l => validS l && decide (l.length ≤ 200)) = true := by kernel_rfl
    intro l hl
    have := List.all_eq_true.1 hb l hl
    simpa using this
  have v2 : ∀ l ∈ versionsL, (verS l).isSome = true ∧ l.length ≤ 200 := by
    have hb : (versionsL.all fun l => (verS l).isSome && decide (l.length ≤ 200)) = true := by kernel_rfl
    intro l hl
    have := List.all_eq_true.1 hb l hl
    simpa using this
  refine ⟨fun j hj => ?_, fun j hj => ?_⟩
  · have hl : j < textsL.length := hj
    have := v1 _ (List.getElem_mem hl)
    exact ⟨_, k1 j hl, this.1, by show (textsL[j].toArray).size ≤ 200; simpa using this.2⟩
  · have hl : j < versionsL.length := hj
    have := v2 _ (List.getElem_mem hl)
    exact ⟨_, k2 j hl, this.1, by show (versionsL[j].toArray).size ≤ 200; simpa using this.2⟩
theorem int_bd {a : Int} (h : (Lit.int .i64 a).wf = true) : -9223372036854775808 ≤ a ∧ a ≤ 9223372036854775807 := by
  simpa [Lit.wf, IntKind.min, IntKind.max, IntKind.signed, IntKind.bits] using h
theorem valueOrder_final (W : World) (hL : laidMetH Tryd.prog Rows.valueOrderRow.laid W) (hsh : W.ShapedOpen Tryd.prog) (a0 : Int) (w0 : (Lit.int .i64 a0).wf = true) (a1 : Option Addr) (len1 cap1 : Nat) (z1 : List Int) (w1 : IsRow .u8 W a1 len1 cap1 z1)
    (a2 : Int) (w2 : (Lit.int .i64 a2).wf = true) (a3 : Int) (w3 : (Lit.int .i64 a3).wf = true) (a4 : Int) (w4 : (Lit.int .i64 a4).wf = true) :
    Calls Tryd.prog 9 #[.int .i64 a0, .slice a1 len1 cap1, .int .i64 a2, .int .i64 a3, .int .i64 a4] W fun e W' => e = .returned (.bool true) ∧ Below W.heap.size W W' :=
  order_walk a0 a2 a3 a4 a1 len1 cap1 W (int_bd w0).1 (int_bd w0).2 (int_bd w2) (int_bd w3) (int_bd w4) (draw.bytes_of_row w1) (valueOrderRow.tabs_of_laid hL hsh) (draw_tabs hL)

end Go.Proofs.YtpildefkhlejgaaDoor.law
