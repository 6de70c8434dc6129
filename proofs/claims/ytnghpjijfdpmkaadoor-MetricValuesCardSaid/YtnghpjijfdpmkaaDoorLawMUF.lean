/- MetricValues: the walk, with what the row gives it; an argument that is a row of events. -/
import Derived.Test.YtnghpjijfdpmkaaDoorMetVl
import Derived.Test.YtnghpjijfdpmkaaDoorRowMU
import Derived.Test.YtnghpjijfdpmkaaDoorMetRw
import Derived.Deep.Slices
import Derived.Lib.SmallJoins
namespace Go.Proofs.YtnghpjijfdpmkaaDoor.law
open Go.Joins Go.ChangeShapes Go.WideShapes Go.RowKit Go.Deep Go.Proofs.YtnghpjijfdpmkaaDoor Go.Proofs.YtnghpjijfdpmkaaDoor.metric

theorem an_int {H : Type} {enc : TypeId × Value → H} {W : World} {base n : Nat} {sp : Nat → Bool} {held : Bool} {v : Value} {y : DataW H × List MemPlace} (h : DataW.trod enc Tryd.prog W base sp held n 3 [v] = some y) : ∃ k : Int, v = .int .i64 k := by
  obtain ⟨k, hk, -, -⟩ := DataW.trod_int Tryd.underlying3 h
  injection hk with hk
  exact ⟨k, hk⟩
theorem a_text {H : Type} {enc : TypeId × Value → H} {W : World} {base n : Nat} {sp : Nat → Bool} {held : Bool} {v : Value} {y : DataW H × List MemPlace} (h : DataW.trod enc Tryd.prog W base sp held n 9 [v] = some y) : ∃ s : ByteArray, v = .string s := by
  obtain ⟨s, hs, -, -⟩ := DataW.trod_string Tryd.underlying9 h
  injection hs with hs
  exact ⟨s, hs⟩
set_option maxRecDepth 100000 in
/-- Ten cells that read as an event. -/
theorem open_event {H : Type} {enc : TypeId × Value → H} {W : World} {base n : Nat} {sp : Nat → Bool} {held : Bool} {cs : List Value} {y : DataW H × List MemPlace} (hl : cs.length = 10) (h : DataW.trod enc Tryd.prog W base sp held n 40 cs = some y) : ∃ e : EV, cs = (evA e).toList := by
  have cS : Tryd.prog.cellsOf 9 = 1 := by kernel_rfl
  have cI : Tryd.prog.cellsOf 3 = 1 := by kernel_rfl
  obtain ⟨xs, k, hk, hxy, _, hxl, hf⟩ := DataW.trod_struct Tryd.underlying40 h
  match xs, hxl, cs, hl with
  | [y0, y1, y2, y3, y4, y5, y6, y7, y8, y9], _, [v0, v1, v2, v3, v4, v5, v6, v7, v8, v9], _ =>
    have g0 := hf 0 _ rfl
    have g1 := hf 1 _ rfl
    have g2 := hf 2 _ rfl
    have g3 := hf 3 _ rfl
    have g4 := hf 4 _ rfl
    have g5 := hf 5 _ rfl
    have g6 := hf 6 _ rfl
    have g7 := hf 7 _ rfl
    have g8 := hf 8 _ rfl
    have g9 := hf 9 _ rfl
    simp only [List.getElem?_cons_succ, List.getElem?_cons_zero] at g0 g1 g2 g3 g4 g5 g6 g7 g8 g9
    obtain ⟨s0, rfl⟩ := a_text g0
    obtain ⟨s1, rfl⟩ := an_int g1
    obtain ⟨s2, rfl⟩ := an_int g2
    obtain ⟨s3, rfl⟩ := an_int g3
    obtain ⟨s4, rfl⟩ := a_text g4
    obtain ⟨s5, rfl⟩ := a_text g5
    obtain ⟨s6, rfl⟩ := a_text g6
    obtain ⟨s7, rfl⟩ := an_int g7
    obtain ⟨s8, rfl⟩ := an_int g8
    obtain ⟨s9, rfl⟩ := an_int g9
    exact ⟨⟨s0, s1, s2, s3, s4, s5, s6, s7, s8, s9⟩, rfl⟩
set_option maxRecDepth 100000 in
/-- An argument that is a row of events. -/
theorem open_events {H : Type} {enc : TypeId × Value → H} {W : World} {base b0 : Nat} {sp : Nat → Bool} {held : Bool} {v : Value} {d : DataW H} {p : List MemPlace}
    (hv : Value.okWide Tryd.prog W .any b0 38 v) (h : DataW.Trod enc Tryd.prog W base sp held 38 v d p) : ∃ (a : Option Addr) (c : Nat) (R : List EV), v = .slice a R.length c ∧ EvsAt W.cell? a R := by
  obtain ⟨a, n, c, rfl⟩ := okWide_slice Tryd.underlying38 hv
  obtain ⟨fuel, hf⟩ := h
  have ce : Tryd.prog.cellsOf 40 = 10 := by kernel_rfl
  rcases open_slice Tryd.underlying38 hf with ⟨hcs, -⟩ | ⟨x, l, cp, m, nn, D, Pl, hcs, -, hl, hm, hmm, -, hx⟩
  · simp [Value.cells] at hcs
    obtain ⟨rfl, rfl, rfl⟩ := hcs
    exact ⟨none, 0, [], rfl, Or.inl rfl⟩
  · simp [Value.cells] at hcs
    obtain ⟨rfl, rfl, rfl⟩ := hcs
    have hlm : n ≤ m := by rw [hmm]; split <;> omega
    have each : ∀ i, i < n → ∃ e : EV, ∀ j, j < 10 → W.cell? ((x.add (i * 10)).add j) = (evA e)[j]? := by
      intro i hi
      obtain ⟨cs', h1, h2⟩ := hx i (by omega)
      rw [ce] at h1
      obtain ⟨_, hlen, hcell⟩ := World.cells?_some h1
      obtain ⟨e, he⟩ := open_event hlen h2
      refine ⟨e, fun j hj => ?_⟩
      rw [hcell j hj, he, Array.getElem?_toList]
    by_cases h0 : n = 0
    · subst h0
      exact ⟨some x, c, [], rfl, Or.inl rfl⟩
    haveI : Inhabited EV := ⟨dflt⟩
    obtain ⟨F, hF⟩ := choose_lt (α := EV) (p := fun i e => ∀ j, j < 10 → W.cell? ((x.add (i * 10)).add j) = (evA e)[j]?) each
    have hs : x.spot = none := by
      have h1 := hF 0 (by omega) 0 (by omega)
      unfold World.cell? at h1
      cases hsp : x.spot with
      | none => rfl
      | some i =>
        exfalso
        have : (((x.add (0 * 10)).add 0).spot.isSome) = true := by unfold Addr.add; split <;> simp_all
        split at h1
        · rw [if_pos this] at h1; cases h1
        · cases h1
    obtain ⟨blk, off, sp⟩ := x
    simp only at hs
    subst hs
    refine ⟨some ⟨blk, off, none⟩, c, (List.range n).map F, by simp, Or.inr ⟨blk, off, rfl, fun i e hi j hj => ?_⟩⟩
    have hin : i < n := by have := (List.getElem?_eq_some_iff.1 hi).1; simpa using this
    rw [List.getElem?_map, List.getElem?_range hin] at hi
    injection hi with hi
    have h1 := hF i hin j hj
    have e1 : ((⟨blk, off, none⟩ : Addr).add (i * 10)).add j = ⟨blk, off + i * 10 + j, none⟩ := by
      unfold Addr.add
      split <;> split <;> simp_all
    rw [e1, hi] at h1
    exact h1

set_option maxRecDepth 100000 in
theorem metricValues_final (W : World) (hL : laidMetH Tryd.prog Rows.metricValuesRow.laid W) {H : Type} {enc : TypeId × Value → H} {base b0 : Nat} {sp : Nat → Bool} {held : Bool} (a0 : Option Addr) (len0 cap0 : Nat) (z0 : List Int) (w0 : IsRow .u8 W a0 len0 cap0 z0) (a1 : Option Addr) (len1 cap1 : Nat) (z1 : List Int) (w1 : IsRow .u8 W a1 len1 cap1 z1)
    (v2 : Value) (o2 : Value.okWide Tryd.prog W .any b0 38 v2) {d2 : DataW H} {p2 : List MemPlace} (k2 : DataW.Trod enc Tryd.prog W base sp held 38 v2 d2 p2) (a3 : Int) (w3 : (Lit.int .u8 a3).wf = true) :
    Calls Tryd.prog 5 #[.slice a0 len0 cap0, .slice a1 len1 cap1, v2, .int .u8 a3] W fun e W' => e = .returned (.bool true) ∧ Below W.heap.size W W' := by
  obtain ⟨a, c, R, rfl, hR⟩ := open_events o2 k2
  exact values_walk a0 len0 cap0 a1 len1 cap1 a c R a3 W (bytesIn_of_row w0) (bytesIn_of_row w1) hR (u8_bd w3).1 (u8_bd w3).2 (metricValuesRow.ntabs_of_laid hL)

end Go.Proofs.YtnghpjijfdpmkaaDoor.law

