/- What the drawing package's three tables hold, read off their given values. -/
import Derived.Test.YtlohdmghaeabjaaGreatDoorTab
import Derived.Test.YtlohdmghaeabjaaGreatDoorRows
import Derived.Test.YtlohdmghaeabjaaGreatDoorDraw3
import Derived.Test.YtlohdmghaeabjaaGreatDoorValV
import Derived.Test.YtlohdmghaeabjaaGreatDoorValL
import Derived.Lib.LaidTab
namespace Go.Proofs.YtlohdmghaeabjaaGreatDoor.draw
open Go.ChangeShapes Go.WideShapes Go.ChangeAt Go.RowKit Go.WideMaps Go.WideElems Go.Deep Go.Lib Go.Proofs.YtlohdmghaeabjaaGreatDoor Go.Proofs.YtlohdmghaeabjaaGreatDoor.text Go.Proofs.YtlohdmghaeabjaaGreatDoor.value

theorem lit_inj : ∀ (L : List (List UInt8)) (ss : List ByteArray), L.map (fun l => (DataW.lit (.string l) : DataW Unit)) = ss.map (fun s => .lit (.string s.data.toList)) → ss = L.map (fun l => ⟨l.toArray⟩)
  | [], [], _ => rfl
  | [], _ :: _, h => by cases h
  | _ :: _, [], h => by cases h
  | l :: L, s :: ss, h => by
    rw [List.map_cons, List.map_cons] at h
    injection h with h1 h2
    injection h1 with h1
    injection h1 with h1
    rw [List.map_cons, ← lit_inj L ss h2, h1]
def textsL : List (List UInt8) := [[115, 101], [100, 101], [117, 115], [112, 114, 111], [102, 114, 101, 101], [], [97, 34, 98], [99, 92], [195, 169], [112, 114, 111, 115, 101], [120, 32, 121]]
def versionsL : List (List UInt8) := [[49, 46, 48, 46, 48], [49, 46, 50, 46, 51], [49, 46, 49, 48, 46, 48], [50, 46, 48, 46, 49], [48, 46, 48, 46, 48], [57, 57, 57, 57, 57, 57, 46, 48, 46, 57, 57, 57, 57, 57, 57]]
def versionsN : List (Int × Int × Int) := [(1, 0, 0), (1, 2, 3), (1, 10, 0), (2, 0, 1), (0, 0, 0), (999999, 0, 999999)]
def listsL : List (List (List UInt8)) := [[], [[112, 114, 111]], [[100, 101], [115, 101]], [[], [102, 114, 101, 101], [117, 115]], [[120, 32, 121]]]
set_option maxRecDepth 100000 in
theorem strs_at {w : World} {nm : String} {g t n : Nat} {d : DataW Unit} {L : List (List UInt8)} (hn : VarReads Tryz.prog w nm d) (hg : Tryz.prog.globalNamed nm = some g) (ht : (Tryz.prog.globals[g]?).map (·.type) = some t)
    (hu : Tryz.prog.underlying t = some (.array n 9)) (hd0 : d = .agg (L.map fun l => .lit (.string l))) (j : Nat) (hj : j < L.length) : w.cell? ⟨g, j, none⟩ = some (.string ⟨L[j].toArray⟩) := by
  obtain ⟨g', t', cs, fuel, p, hg', ht', hvar, hd⟩ := hn
  obtain rfl := Option.some.inj (hg.symm.trans hg')
  obtain rfl := Option.some.inj (ht.symm.trans ht')
  obtain ⟨ss, hl, hd2, hc⟩ := tab_strs hg' hvar hu Tryz.underlying9 (by kernel_rfl) hd
  rw [hd0] at hd2
  injection hd2 with hd2
  have hss := lit_inj L ss hd2
  refine hc j _ ?_
  rw [hss, List.getElem?_map, List.getElem?_eq_getElem hj]
  rfl
theorem lists_data : (Rows.laid_flagstone_flagstonedraw_lists : DataW Unit) = .agg (listsL.map fun L => .slice (L.map fun l => .lit (.string l)) []) := rfl
set_option maxRecDepth 100000 in
theorem lists_of_reads {w : World} (h : VarReads Tryz.prog w "flagstone/flagstonedraw.lists" (Rows.laid_flagstone_flagstonedraw_lists : DataW Unit)) (j : Nat) (hj : j < 5) :
    ∃ (ad : Addr) (c : Nat) (l : List ByteArray), w.cell? ⟨1, j, none⟩ = some (.slice (some ad) l.length c) ∧ l.length ≤ 20 ∧ ∀ (i : Nat) (s : ByteArray), l[i]? = some s → w.cell? (ad.add i) = some (.string s) := by
  obtain ⟨g', t', cs, fuel, p, hg', ht', hvar, hd⟩ := h
  obtain rfl := Option.some.inj ((show Tryz.prog.globalNamed "flagstone/flagstonedraw.lists" = some 1 by kernel_rfl).symm.trans hg')
  obtain rfl := Option.some.inj ((show (Tryz.prog.globals[1]?).map (·.type) = some 91 by kernel_rfl).symm.trans ht')
  obtain ⟨xs, hx, h3⟩ := tab_lists hg' hvar Tryz.underlying91 Tryz.underlying41 Tryz.underlying9 (by kernel_rfl) (by kernel_rfl) hd j hj
  rw [lists_data] at hx
  injection hx with hx
  have hjl : j < listsL.length := hj
  have hxj : xs[j]? = some (.slice (listsL[j].map fun l => .lit (.string l)) []) := by
    rw [← hx, List.getElem?_map, List.getElem?_eq_getElem hjl]; rfl
  rcases h3 with ⟨_, h4⟩ | ⟨a, cap, l, sp, h4, h5, h6, h7, h8⟩
  · rw [hxj] at h4; cases h4
  · rw [hxj] at h7
    injection h7 with h7
    injection h7 with h7 _
    have hl := lit_inj listsL[j] l h7
    have hok : ∀ L ∈ listsL, L.length ≤ 20 := by decide
    have : l.length = listsL[j].length := by rw [hl]; simp
    exact ⟨a, cap, l, h4, by rw [this]; exact hok _ (List.getElem_mem hjl), h8⟩

/-- The texts are valid, the versions are of three numbers. -/
structure CmpTabs (m : Mem) : Prop where
  texts : ∀ j, j < 11 → ∃ s : ByteArray, m ⟨2, j, none⟩ = some (.string s) ∧ validS s.data.toList = true ∧ s.size ≤ 200
  versions : ∀ j, j < 6 → ∃ (s : ByteArray) (x y z : Int), m ⟨0, j, none⟩ = some (.string s) ∧ s.data.toList = ver3 x y z ∧ (0 ≤ x ∧ x ≤ 999999) ∧ (0 ≤ y ∧ y ≤ 999999) ∧ (0 ≤ z ∧ z ≤ 999999) ∧ s.size ≤ 200
theorem CmpTabs.mono {m m' : Mem} (hs : Sub m m') (h : CmpTabs m) : CmpTabs m' :=
  ⟨fun j hj => let ⟨s, h1, h2⟩ := h.texts j hj; ⟨s, hs _ _ h1, h2⟩, fun j hj => let ⟨s, x, y, z, h1, h2⟩ := h.versions j hj; ⟨s, x, y, z, hs _ _ h1, h2⟩⟩
theorem texts_ok : ∀ l ∈ textsL, validS l = true ∧ l.length ≤ 200 := by
  have hb : (textsL.all fun l => validS l && decide (l.length ≤ 200)) = true := by kernel_rfl
  intro l hl
  have := List.all_eq_true.1 hb l hl
  rw [Bool.and_eq_true, decide_eq_true_eq] at this
  exact this
theorem versions_eq : versionsL = versionsN.map fun v => ver3 v.1 v.2.1 v.2.2 := by kernel_rfl
theorem cmp_of_reads {w : World} (h1 : VarReads Tryz.prog w "flagstone/flagstonedraw.texts" (Rows.laid_flagstone_flagstonedraw_texts : DataW Unit)) (h2 : VarReads Tryz.prog w "flagstone/flagstonedraw.versions" (Rows.laid_flagstone_flagstonedraw_versions : DataW Unit)) : CmpTabs w.cell? := by
  have k1 := strs_at (g := 2) (t := 111) (n := 11) (L := textsL) h1 (by kernel_rfl) (by kernel_rfl) Tryz.underlying111 rfl
  have k2 := strs_at (g := 0) (t := 90) (n := 6) (L := versionsL) h2 (by kernel_rfl) (by kernel_rfl) Tryz.underlying90 rfl
  have hN : ∀ v ∈ versionsN, (0 ≤ v.1 ∧ v.1 ≤ 999999) ∧ (0 ≤ v.2.1 ∧ v.2.1 ≤ 999999) ∧ (0 ≤ v.2.2 ∧ v.2.2 ≤ 999999) := by decide
  have hZ : ∀ l ∈ versionsL, l.length ≤ 200 := by decide
  refine ⟨fun j hj => ?_, fun j hj => ?_⟩
  · have hl : j < textsL.length := hj
    have := texts_ok _ (List.getElem_mem hl)
    exact ⟨_, k1 j hl, this.1, by show (textsL[j].toArray).size ≤ 200; simpa using this.2⟩
  · have hl : j < versionsL.length := hj
    have hn : j < versionsN.length := hj
    have e : versionsL[j] = ver3 versionsN[j].1 versionsN[j].2.1 versionsN[j].2.2 := by
      have : versionsL[j]? = (versionsN.map fun v => ver3 v.1 v.2.1 v.2.2)[j]? := by rw [versions_eq]
      rw [List.getElem?_eq_getElem hl, List.getElem?_map, List.getElem?_eq_getElem hn] at this
      exact Option.some.inj this
    have h3 := hN _ (List.getElem_mem hn)
    exact ⟨_, versionsN[j].1, versionsN[j].2.1, versionsN[j].2.2, k2 j hl, (show versionsL[j].toArray.toList = _ by rw [← e]), h3.1, h3.2.1, h3.2.2, by have hz := hZ _ (List.getElem_mem hl); show (versionsL[j].toArray).size ≤ 200; rw [List.size_toArray]; exact hz⟩
theorem glob_of_reads {w : World} (h1 : VarReads Tryz.prog w "flagstone/flagstonedraw.texts" (Rows.laid_flagstone_flagstonedraw_texts : DataW Unit)) (h2 : VarReads Tryz.prog w "flagstone/flagstonedraw.versions" (Rows.laid_flagstone_flagstonedraw_versions : DataW Unit))
    (h3 : VarReads Tryz.prog w "flagstone/flagstonedraw.lists" (Rows.laid_flagstone_flagstonedraw_lists : DataW Unit)) : Glob w.cell? :=
  have hc := cmp_of_reads h1 h2
  ⟨fun j hj => let ⟨s, _, _, _, k1, _, _, _, _, k2⟩ := hc.versions j hj; ⟨s, k1, k2⟩, fun j hj => let ⟨s, k1, _, k2⟩ := hc.texts j hj; ⟨s, k1, k2⟩, fun j hj => lists_of_reads h3 j hj⟩

end Go.Proofs.YtlohdmghaeabjaaGreatDoor.draw

