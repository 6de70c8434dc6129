/- MetricChecks: the walk, with what the row gives it. -/
import Derived.Test.YtnghpjijfdpmkaaDoorMetLC
import Derived.Test.YtnghpjijfdpmkaaDoorRowMC
import Derived.Test.YtnghpjijfdpmkaaDoorMetRw
import Derived.Lib.SmallJoins
namespace Go.Proofs.YtnghpjijfdpmkaaDoor.law
open Go.Joins Go.ChangeShapes Go.WideShapes Go.RowKit Go.Deep Go.Proofs.YtnghpjijfdpmkaaDoor Go.Proofs.YtnghpjijfdpmkaaDoor.metric

theorem open_agg7 {H : Type} {enc : TypeId × Value → H} {P : Program} {w : World} {base : Nat} {spare : Nat → Bool} {held : Bool} {r : Reach} {b0 : Nat} {t : TypeId} {f0 f1 f2 f3 f4 f5 f6 : Field} {v : Value} {d : DataW H} {p : List MemPlace} (hs : P.underlying t = some (.struct #[f0, f1, f2, f3, f4, f5, f6])) (hone : oneCellFields P #[f0, f1, f2, f3, f4, f5, f6] = true) (hC : P.cellsOf t = 7)
    (hv : Value.okWide P w r b0 t v) (h : DataW.Trod enc P w base spare held t v d p) :
    ∃ (v0 v1 v2 v3 v4 v5 v6 : Value) (y0 y1 y2 y3 y4 y5 y6 : DataW H × List MemPlace) (n : Nat), v = .agg #[v0, v1, v2, v3, v4, v5, v6] ∧
      DataW.trod enc P w base spare held n f0.type [v0] = some y0 ∧ DataW.trod enc P w base spare held n f1.type [v1] = some y1 ∧ DataW.trod enc P w base spare held n f2.type [v2] = some y2 ∧ DataW.trod enc P w base spare held n f3.type [v3] = some y3 ∧ DataW.trod enc P w base spare held n f4.type [v4] = some y4 ∧ DataW.trod enc P w base spare held n f5.type [v5] = some y5 ∧ DataW.trod enc P w base spare held n f6.type [v6] = some y6 := by
  obtain ⟨cs, rfl, hsz⟩ := okWide_struct hs hv
  obtain ⟨l⟩ := cs
  match l, hsz.trans hC with
  | [c0, c1, c2, c3, c4, c5, c6], _ =>
    obtain ⟨fuel, hf⟩ := h
    obtain ⟨xs, n, _, hx, _, hlen, hg⟩ := DataW.trod_struct hs hf
    obtain ⟨o0, k0⟩ := hone_of hone 0 f0 rfl
    obtain ⟨o1, k1⟩ := hone_of hone 1 f1 rfl
    obtain ⟨o2, k2⟩ := hone_of hone 2 f2 rfl
    obtain ⟨o3, k3⟩ := hone_of hone 3 f3 rfl
    obtain ⟨o4, k4⟩ := hone_of hone 4 f4 rfl
    obtain ⟨o5, k5⟩ := hone_of hone 5 f5 rfl
    obtain ⟨o6, k6⟩ := hone_of hone 6 f6 rfl
    match xs, hlen with
    | [y0, y1, y2, y3, y4, y5, y6], _ =>
      exact ⟨c0, c1, c2, c3, c4, c5, c6, y0, y1, y2, y3, y4, y5, y6, n, rfl, by simpa [Value.cells, o0, k0] using hg 0 f0 rfl, by simpa [Value.cells, o1, k1] using hg 1 f1 rfl, by simpa [Value.cells, o2, k2] using hg 2 f2 rfl, by simpa [Value.cells, o3, k3] using hg 3 f3 rfl, by simpa [Value.cells, o4, k4] using hg 4 f4 rfl, by simpa [Value.cells, o5, k5] using hg 5 f5 rfl, by simpa [Value.cells, o6, k6] using hg 6 f6 rfl⟩
theorem one_int {H : Type} {enc : TypeId × Value → H} {W : World} {base n : Nat} {sp : Nat → Bool} {held : Bool} {v : Value} {y : DataW H × List MemPlace} (h : DataW.trod enc Tryd.prog W base sp held n 3 [v] = some y) : ∃ k : Int, v = .int .i64 k := by
  obtain ⟨k, hk, -, -⟩ := DataW.trod_int Tryd.underlying3 h
  injection hk with hk
  exact ⟨k, hk⟩
theorem one_text {H : Type} {enc : TypeId × Value → H} {W : World} {base n : Nat} {sp : Nat → Bool} {held : Bool} {v : Value} {y : DataW H × List MemPlace} (h : DataW.trod enc Tryd.prog W base sp held n 9 [v] = some y) : ∃ s : ByteArray, v = .string s ∧ s.size ≤ maxLen := by
  obtain ⟨s, hs, -, hz⟩ := DataW.trod_string Tryd.underlying9 h
  injection hs with hs
  exact ⟨s, hs, hz⟩
set_option maxRecDepth 100000 in
/-- An argument that is a metric. -/
theorem open_metric {H : Type} {enc : TypeId × Value → H} {W : World} {base b0 : Nat} {sp : Nat → Bool} {held : Bool} {v : Value} {d : DataW H} {p : List MemPlace}
    (hv : Value.okWide Tryd.prog W .any b0 29 v) (h : DataW.Trod enc Tryd.prog W base sp held 29 v d p) :
    ∃ (m : MV) (s t : ByteArray), v = .agg (mrow7 m.k s t m.win m.cap m.least m.before) ∧ s.data.toList = m.name ∧ t.data.toList = m.below ∧ s.size ≤ maxLen ∧ t.size ≤ maxLen := by
  obtain ⟨v0, v1, v2, v3, v4, v5, v6, y0, y1, y2, y3, y4, y5, y6, n, rfl, h0, h1, h2, h3, h4, h5, h6⟩ := open_agg7 Tryd.underlying29 (by kernel_rfl) (by kernel_rfl) hv h
  obtain ⟨a, rfl⟩ := one_int h0
  obtain ⟨s, rfl, hs⟩ := one_text h1
  obtain ⟨t, rfl, ht⟩ := one_text h2
  obtain ⟨b, rfl⟩ := one_int h3
  obtain ⟨c, rfl⟩ := one_int h4
  obtain ⟨e, rfl⟩ := one_int h5
  obtain ⟨f, rfl⟩ := one_int h6
  exact ⟨⟨a, s.data.toList, t.data.toList, b, c, e, f⟩, s, t, rfl, rfl, rfl, hs, ht⟩

set_option maxRecDepth 100000 in
theorem metricChecks_final (W : World) (hL : laidMetH Tryd.prog Rows.metricChecksRow.laid W) {H : Type} {enc : TypeId × Value → H} {base b0 : Nat} {sp : Nat → Bool} {held : Bool} (v0 : Value) (o0 : Value.okWide Tryd.prog W .any b0 29 v0)
    {d0 : DataW H} {p0 : List MemPlace} (k0 : DataW.Trod enc Tryd.prog W base sp held 29 v0 d0 p0) (a1 : Option Addr) (len1 cap1 : Nat) (z1 : List Int) (w1 : IsRow .u8 W a1 len1 cap1 z1) (a2 : Int) (_w2 : (Lit.int .u8 a2).wf = true) (a3 : Int) (w3 : (Lit.int .u8 a3).wf = true) (a4 : Int) (_w4 : (Lit.int .i64 a4).wf = true) (s5 : ByteArray) (w5 : s5.size ≤ maxLen) :
    Calls Tryd.prog 7 #[v0, .slice a1 len1 cap1, .int .u8 a2, .int .u8 a3, .int .i64 a4, .string s5] W fun e W' => e = .returned (.bool true) ∧ Below W.heap.size W W' := by
  obtain ⟨m, s, t, rfl, hs, ht, hsz, htz⟩ := open_metric o0 k0
  exact checks_walk m s t a1 len1 cap1 a2 a3 a4 s5 W hs ht hsz htz w5 (bytesIn_of_row w1) (u8_bd w3).1 (u8_bd w3).2 (metricChecksRow.ntabs_of_laid hL)

end Go.Proofs.YtnghpjijfdpmkaaDoor.law

