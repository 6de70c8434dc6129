/- An argument that is a value: its cells, and the texts of its list. What the drawing package's tables hold. -/
import Derived.Test.YtnghpjijfdpmkaaGreatDoorValLC
import Derived.Test.YtnghpjijfdpmkaaGreatDoorTab
import Derived.Test.YtnghpjijfdpmkaaGreatDoorRows
import Derived.Lib.SmallJoins
import Derived.MakeChecks
import Derived.Stop.LaidErr
import Derived.Lib.LaidTab
namespace Go.Proofs.YtnghpjijfdpmkaaGreatDoor.value
open Go.ChangeShapes Go.WideShapes Go.ChangeAt Go.RowKit Go.WideMaps Go.WideElems Go.Joins Go.Deep Go.Lib Go.Proofs.YtnghpjijfdpmkaaGreatDoor Go.Proofs.YtnghpjijfdpmkaaGreatDoor.text Go.Proofs.YtnghpjijfdpmkaaGreatDoor.draw

theorem spot_none {w : World} {x : Addr} (h0 : w.cell? (x.add 0) ≠ none) : x.spot = none := by
  unfold World.cell? at h0
  cases hsp : x.spot with
  | none => rfl
  | some i =>
    exfalso
    have : ((x.add 0).spot.isSome) = true := by unfold Addr.add; split <;> simp_all
    apply h0
    split
    · rw [if_pos this]
    · rfl
theorem lin_open {w : World} {x : Addr} {ls : List ByteArray} (h : ∀ i s, ls[i]? = some s → w.cell? (x.add i) = some (.string s)) : LIn w (some x) ls := by
  by_cases h0 : ls = []
  · exact Or.inl h0
  · have hp : 0 < ls.length := by cases ls with | nil => exact absurd rfl h0 | cons a r => simp
    have h1 := h 0 ls[0] (List.getElem?_eq_getElem hp)
    have hs := spot_none (by rw [h1]; simp)
    obtain ⟨blk, off, sp⟩ := x
    simp only at hs
    subst hs
    refine Or.inr ⟨blk, off, rfl, fun k hk => ?_⟩
    have h2 := h k ls[k] (List.getElem?_eq_getElem hk)
    have e : (⟨blk, off, none⟩ : Addr).add k = ⟨blk, off + k, none⟩ := by unfold Addr.add; split <;> simp_all
    rw [e] at h2
    exact h2
theorem lit_inj : ∀ (L : List (List UInt8)) (ss : List ByteArray), L.map (fun l => (DataW.lit (.string l) : DataW Unit)) = ss.map (fun s => .lit (.string s.data.toList)) → ss = L.map (fun l => ⟨l.toArray⟩)
  | [], [], _ => rfl
  | [], _ :: _, h => by cases h
  | _ :: _, [], h => by cases h
  | l :: L, s :: ss, h => by
    rw [List.map_cons, List.map_cons] at h
    injection h with h1 h2
    injection h1 with h1
    injection h1 with h1
    rw [List.map_cons, ← lit_inj L ss h2, h1]

set_option maxRecDepth 100000 in
theorem open_value {H : Type} {enc : TypeId × Value → H} {W : World} {base b0 : Nat} {sp : Nat → Bool} {held : Bool} {r : Reach} {v : Value} {d : DataW H} {p : List MemPlace}
    (hv : Value.okWide Tryz.prog W r b0 24 v) (h : DataW.Trod enc Tryz.prog W base sp held 24 v d p) :
    ∃ (k n : Int) (t : ByteArray) (la : Option Addr) (lc : Nat) (ls : List ByteArray), v = .agg #[.int .i64 k, .int .i64 n, .string t, .slice la ls.length lc] ∧ t.size ≤ maxLen ∧ ls.length ≤ maxLen ∧ VOk W ⟨k, n, t.data.toList, lsL ls⟩ t la ls ∧
      ∃ sp', d = .agg [.lit (.int .i64 k), .lit (.int .i64 n), .lit (.string t.data.toList), sp'] := by
  obtain ⟨v0, v1, v2, v3, y0, y1, y2, y3, m, rfl, rfl, -, h0, h1, h2, h3⟩ := open_agg4 Tryz.underlying24 (by kernel_rfl) (by kernel_rfl) hv h
  obtain ⟨k, hk, hy0, -⟩ := DataW.trod_int Tryz.underlying3 h0
  obtain ⟨n, hn, hy1, -⟩ := DataW.trod_int Tryz.underlying3 h1
  obtain ⟨t, ht, hy2, htz⟩ := DataW.trod_string Tryz.underlying9 h2
  injection hk with hk
  injection hn with hn
  injection ht with ht
  subst hk hn ht hy0 hy1 hy2
  rcases open_strings Tryz.underlying22 Tryz.underlying9 (by kernel_rfl) h3 with ⟨h4, -⟩ | ⟨a, len, cap, ss, h4, -, hlc, hcm, hlen, -, hc, -⟩
  · injection h4 with h4
    subst h4
    exact ⟨k, n, t, none, 0, [], rfl, htz, by simp, ⟨rfl, Or.inl rfl, rfl⟩, _, rfl⟩
  · injection h4 with h4
    subst h4
    have hle : len ≤ ss.length := by rw [hlen]; split <;> omega
    have hl2 : (ss.take len).length = len := by simp; omega
    refine ⟨k, n, t, some a, cap, ss.take len, by rw [hl2], htz, by rw [hl2]; omega, ⟨rfl, lin_open fun i s hs => ?_, rfl⟩, _, rfl⟩
    rw [List.getElem?_take] at hs
    split at hs
    · have h5 := hc i (by omega)
      rw [List.getD_eq_getElem?_getD, hs] at h5
      exact h5
    · cases hs

def textsL : List (List UInt8) := [[115, 101], [100, 101], [117, 115], [112, 114, 111], [102, 114, 101, 101], [], [97, 34, 98], [99, 92], [195, 169], [112, 114, 111, 115, 101], [120, 32, 121]]
def versionsL : List (List UInt8) := [[49, 46, 48, 46, 48], [49, 46, 50, 46, 51], [49, 46, 49, 48, 46, 48], [50, 46, 48, 46, 49], [48, 46, 48, 46, 48], [57, 57, 57, 57, 57, 57, 46, 48, 46, 57, 57, 57, 57, 57, 57]]
def listsL : List (List (List UInt8)) := [[], [[112, 114, 111]], [[100, 101], [115, 101]], [[], [102, 114, 101, 101], [117, 115]], [[120, 32, 121]]]
set_option maxRecDepth 100000 in
theorem strs_at {w : World} {nm : String} {g t n : Nat} {d : DataW Unit} {L : List (List UInt8)} (hn : VarReads Tryz.prog w nm d) (hg : Tryz.prog.globalNamed nm = some g) (ht : (Tryz.prog.globals[g]?).map (·.type) = some t)
    (hu : Tryz.prog.underlying t = some (.array n 9)) (hd0 : d = .agg (L.map fun l => .lit (.string l))) (j : Nat) (hj : j < L.length) : w.cell? ⟨g, j, none⟩ = some (.string ⟨L[j].toArray⟩) := by
  obtain ⟨g', t', cs, fuel, p, hg', ht', hvar, hd⟩ := hn
  obtain rfl := Option.some.inj (hg.symm.trans hg')
  obtain rfl := Option.some.inj (ht.symm.trans ht')
  obtain ⟨ss, hl, hd2, hc⟩ := tab_strs hg' hvar hu Tryz.underlying9 (by kernel_rfl) hd
  rw [hd0] at hd2
  injection hd2 with hd2
  have hss := lit_inj L ss hd2
  refine hc j _ ?_
  rw [hss, List.getElem?_map, List.getElem?_eq_getElem hj]
  rfl
theorem draw_of_reads {w : World} (h1 : VarReads Tryz.prog w "flagstone/flagstonedraw.texts" (Rows.laid_flagstone_flagstonedraw_texts : DataW Unit)) (h2 : VarReads Tryz.prog w "flagstone/flagstonedraw.versions" (Rows.laid_flagstone_flagstonedraw_versions : DataW Unit)) : DrawTabs w.cell? := by
  have k1 := strs_at (g := 0) (t := 52) (n := 11) (L := textsL) h1 (by kernel_rfl) (by kernel_rfl) Tryz.underlying52 rfl
  have k2 := strs_at (g := 1) (t := 67) (n := 6) (L := versionsL) h2 (by kernel_rfl) (by kernel_rfl) Tryz.underlying67 rfl
  have v1 : ∀ l ∈ textsL, validS l = true ∧ l.length ≤ 200 := by
    have hb : (textsL.all fun l => validS l && decide (l.length ≤ 200)) = true := by kernel_rfl
    intro l hl
    have := List.all_eq_true.1 hb l hl
    rw [Bool.and_eq_true, decide_eq_true_eq] at this
    exact this
  have v2 : ∀ l ∈ versionsL, (verS l).isSome = true ∧ l.length ≤ 200 := by
    have hb : (versionsL.all fun l => (verS l).isSome && decide (l.length ≤ 200)) = true := by kernel_rfl
    intro l hl
    have := List.all_eq_true.1 hb l hl
    rw [Bool.and_eq_true, decide_eq_true_eq] at this
    exact this
  refine ⟨fun j hj => ?_, fun j hj => ?_⟩
  · have hl : j < textsL.length := hj
    have := v1 _ (List.getElem_mem hl)
    exact ⟨_, k1 j hl, this.1, by show (textsL[j].toArray).size ≤ 200; simpa using this.2⟩
  · have hl : j < versionsL.length := hj
    have := v2 _ (List.getElem_mem hl)
    exact ⟨_, k2 j hl, this.1, by show (versionsL[j].toArray).size ≤ 200; simpa using this.2⟩
theorem lists_data : (Rows.laid_flagstone_flagstonedraw_lists : DataW Unit) = .agg (listsL.map fun L => .slice (L.map fun l => .lit (.string l)) []) := rfl
theorem listsL_ok : ∀ L ∈ listsL, listS L = 0 ∧ L.length ≤ 20 := by
  have hb : (listsL.all fun L => decide (listS L = 0) && decide (L.length ≤ 20)) = true := by kernel_rfl
  intro L hL
  have := List.all_eq_true.1 hb L hL
  rw [Bool.and_eq_true, decide_eq_true_eq, decide_eq_true_eq] at this
  exact this
set_option maxRecDepth 100000 in
theorem lists_of_reads {w : World} (h : VarReads Tryz.prog w "flagstone/flagstonedraw.lists" (Rows.laid_flagstone_flagstonedraw_lists : DataW Unit)) : ListTab w.cell? := by
  obtain ⟨g', t', cs, fuel, p, hg', ht', hvar, hd⟩ := h
  obtain rfl := Option.some.inj ((show Tryz.prog.globalNamed "flagstone/flagstonedraw.lists" = some 2 by kernel_rfl).symm.trans hg')
  obtain rfl := Option.some.inj ((show (Tryz.prog.globals[2]?).map (·.type) = some 68 by kernel_rfl).symm.trans ht')
  intro j hj
  obtain ⟨xs, hx, h3⟩ := tab_lists hg' hvar Tryz.underlying68 Tryz.underlying22 Tryz.underlying9 (by kernel_rfl) (by kernel_rfl) hd j hj
  rw [lists_data] at hx
  injection hx with hx
  have hjl : j < listsL.length := hj
  have hxj : xs[j]? = some (.slice (listsL[j].map fun l => .lit (.string l)) []) := by
    rw [← hx, List.getElem?_map, List.getElem?_eq_getElem hjl]; rfl
  rcases h3 with ⟨_, h4⟩ | ⟨a, cap, l, sp, h4, h5, h6, h7, h8⟩
  · rw [hxj] at h4; cases h4
  · rw [hxj] at h7
    injection h7 with h7
    injection h7 with h7 _
    have hl := lit_inj listsL[j] l h7
    have hll : lsL l = listsL[j] := by
      rw [hl]
      unfold lsL
      rw [List.map_map]
      exact (List.map_congr_left (fun x _ => by simp)).trans (List.map_id _)
    have hok := listsL_ok _ (List.getElem_mem hjl)
    refine ⟨a, cap, l, h4, ?_, by rw [hll]; exact hok.1, h8⟩
    have : l.length = listsL[j].length := by rw [hl]; simp
    omega

end Go.Proofs.YtnghpjijfdpmkaaGreatDoor.value
