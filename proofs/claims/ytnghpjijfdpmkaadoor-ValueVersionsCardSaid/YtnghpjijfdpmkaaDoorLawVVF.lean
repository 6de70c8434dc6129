/- ValueVersions: the walk, with what the row gives it. -/
import Derived.Test.YtnghpjijfdpmkaaDoorValLV
import Derived.Test.YtnghpjijfdpmkaaDoorRowVV
import Derived.OpenShut
namespace Go.Proofs.YtnghpjijfdpmkaaDoor.law
open Go.RowKit Go.ChangeShapes Go.WideShapes Go.ChangeAt Go.Proofs.YtnghpjijfdpmkaaDoor Go.Proofs.YtnghpjijfdpmkaaDoor.text Go.Proofs.YtnghpjijfdpmkaaDoor.value

set_option maxRecDepth 100000 in
/-- An argument that is an array of three numbers. -/
theorem open_arr3 {H : Type} {enc : TypeId × Value → H} {W : World} {base b0 : Nat} {sp : Nat → Bool} {held : Bool} {v : Value} {d : DataW H} {p : List MemPlace}
    (hv : Value.okWide Tryd.prog W .any b0 53 v) (h : DataW.Trod enc Tryd.prog W base sp held 53 v d p) :
    ∃ a b c : Int, v = .agg #[.int .i64 a, .int .i64 b, .int .i64 c] ∧ (Lit.int .i64 a).wf = true ∧ (Lit.int .i64 b).wf = true ∧ (Lit.int .i64 c).wf = true := by
  unfold Value.okWide at hv
  rw [Tryd.underlying53] at hv
  obtain ⟨cs, rfl, hsz, -⟩ := hv
  have h3 : Tryd.prog.cellsOf 53 = 3 := by kernel_rfl
  rw [h3] at hsz
  obtain ⟨x, y, z, rfl⟩ : ∃ x y z, cs = #[x, y, z] := by
    obtain ⟨l⟩ := cs
    match l, hsz with
    | [x, y, z], _ => exact ⟨x, y, z, rfl⟩
  obtain ⟨fuel, hf⟩ := h
  obtain ⟨xs, m, -, -, -, hl, hi⟩ := DataW.trod_array Tryd.underlying53 hf
  have h1 : Tryd.prog.cellsOf 3 = 1 := by kernel_rfl
  rw [h1] at hi
  have g : ∀ (i : Nat) (u : Value), i < 3 → ([x, y, z].drop (i * 1)).take 1 = [u] → ∃ n, u = .int .i64 n ∧ (Lit.int .i64 n).wf = true := by
    intro i u h4 h5
    have h6 := hi i h4
    change DataW.trod _ _ _ _ _ _ _ _ (([x, y, z].drop (i * 1)).take 1) = _ at h6
    rw [h5, List.getElem?_eq_getElem (by omega)] at h6
    obtain ⟨n, hn, -, hw⟩ := DataW.trod_int Tryd.underlying3 h6
    injection hn with hn
    exact ⟨n, hn, hw⟩
  obtain ⟨a, rfl, wa⟩ := g 0 x (by omega) rfl
  obtain ⟨b, rfl, wb⟩ := g 1 y (by omega) rfl
  obtain ⟨c, rfl, wc⟩ := g 2 z (by omega) rfl
  exact ⟨a, b, c, rfl, wa, wb, wc⟩
theorem int_bd {a : Int} (h : (Lit.int .i64 a).wf = true) : -9223372036854775808 ≤ a ∧ a ≤ 9223372036854775807 := by
  simpa [Lit.wf, IntKind.min, IntKind.max, IntKind.signed, IntKind.bits] using h
/-- Three numbers as a function. -/
def fn3 (a b c : Int) : Nat → Int := fun j => if j = 0 then a else if j = 1 then b else if j = 2 then c else 0
theorem fn3_bd {a b c : Int} (ha : -9223372036854775808 ≤ a ∧ a ≤ 9223372036854775807) (hb : -9223372036854775808 ≤ b ∧ b ≤ 9223372036854775807) (hc : -9223372036854775808 ≤ c ∧ c ≤ 9223372036854775807) (j : Nat) :
    -9223372036854775808 ≤ fn3 a b c j ∧ fn3 a b c j ≤ 9223372036854775807 := by
  unfold fn3
  split
  · exact ha
  · split
    · exact hb
    · split
      · exact hc
      · omega
set_option maxRecDepth 100000 in
theorem valueVersions_final {H : Type} {enc : TypeId × Value → H} (W : World) (hL : laidMetH Tryd.prog Rows.valueVersionsRow.laid W) (hsh : W.ShapedOpen Tryd.prog) {base b0 base' b0' : Nat} {sp sp' : Nat → Bool} {held held' : Bool} (v0 : Value) (o0 : Value.okWide Tryd.prog W .any b0 53 v0)
    {d0 : DataW H} {p0 : List MemPlace} (k0 : DataW.Trod enc Tryd.prog W base sp held 53 v0 d0 p0) (v1 : Value) (o1 : Value.okWide Tryd.prog W .any b0' 53 v1)
    {d1 : DataW H} {p1 : List MemPlace} (k1 : DataW.Trod enc Tryd.prog W base' sp' held' 53 v1 d1 p1) (a2 : Int) (_w2 : (Lit.int .i64 a2).wf = true) :
    Calls Tryd.prog 9 #[v0, v1, .int .i64 a2] W fun e W' => e = .returned (.bool true) ∧ Below W.heap.size W W' := by
  obtain ⟨a, b, c, rfl, wa, wb, wc⟩ := open_arr3 o0 k0
  obtain ⟨x, y, z, rfl, wx, wy, wz⟩ := open_arr3 o1 k1
  exact versions_walk (fn3 a b c) (fn3 x y z) a2 W (fun j => ⟨fn3_bd (int_bd wa) (int_bd wb) (int_bd wc) j, fn3_bd (int_bd wx) (int_bd wy) (int_bd wz) j⟩) (valueVersionsRow.tabs_of_laid hL hsh)

end Go.Proofs.YtnghpjijfdpmkaaDoor.law

