/- Conditions that came in, as data. -/
import Derived.Test.YtblmmldhlbnbiaaDoorOpen
import Derived.Test.YtblmmldhlbnbiaaDoorSchema3
namespace Go.Proofs.YtblmmldhlbnbiaaDoor.schema
open Go.ChangeShapes Go.WideShapes Go.RowKit Go.Deep Go.Proofs.YtblmmldhlbnbiaaDoor

theorem in_int {H : Type} {enc : TypeId × Value → H} {W : World} {base n : Nat} {sp : Nat → Bool} {held : Bool} {v : Value} {y : DataW H × List MemPlace} (h : DataW.trod enc Tryd.prog W base sp held n 3 [v] = some y) : ∃ k : Int, v = .int .i64 k := by
  obtain ⟨k, hk, -, -⟩ := DataW.trod_int Tryd.underlying3 h
  injection hk with hk
  exact ⟨k, hk⟩
theorem in_text {H : Type} {enc : TypeId × Value → H} {W : World} {base n : Nat} {sp : Nat → Bool} {held : Bool} {v : Value} {y : DataW H × List MemPlace} (h : DataW.trod enc Tryd.prog W base sp held n 9 [v] = some y) : ∃ s : ByteArray, v = .string s := by
  obtain ⟨s, hs, -, -⟩ := DataW.trod_string Tryd.underlying9 h
  injection hs with hs
  exact ⟨s, hs⟩
theorem in_slice {H : Type} {enc : TypeId × Value → H} {P : Program} {W : World} {base n : Nat} {sp : Nat → Bool} {held : Bool} {t e : TypeId} {v : Value} {y : DataW H × List MemPlace} (ht : P.underlying t = some (.slice e)) (h : DataW.trod enc P W base sp held n t [v] = some y) : ∃ a m c, v = .slice a m c := by
  rcases DataW.trod_slice ht h with ⟨hcs, -⟩ | ⟨a, len, cap, elems, rest, n, hf, hcs, -⟩
  · injection hcs with hv
    exact ⟨_, _, _, hv⟩
  · injection hcs with hv
    exact ⟨_, _, _, hv⟩
set_option maxRecDepth 100000 in
theorem open_vd {H : Type} {enc : TypeId × Value → H} {W : World} {base n : Nat} {sp : Nat → Bool} {held : Bool} {cs : List Value} {y : DataW H × List MemPlace} (hl : cs.length = 4) (h : DataW.trod enc Tryd.prog W base sp held n 44 cs = some y) : ∃ d : VD, cs = d.row := by
  obtain ⟨xs, k, hk, hxy, _, hxl, hf⟩ := DataW.trod_struct Tryd.underlying44 h
  match xs, hxl, cs, hl with
  | [y0, y1, y2, y3], _, [v0, v1, v2, v3], _ =>
    have g0 := hf 0 _ rfl
    have g1 := hf 1 _ rfl
    have g2 := hf 2 _ rfl
    have g3 := hf 3 _ rfl
    simp only [List.getElem?_cons_succ, List.getElem?_cons_zero] at g0 g1 g2 g3
    obtain ⟨s0, rfl⟩ := in_int g0
    obtain ⟨s1, rfl⟩ := in_int g1
    obtain ⟨s2, rfl⟩ := in_text g2
    obtain ⟨a, m, c, rfl⟩ := in_slice Tryd.underlying32 g3
    exact ⟨⟨s0, s1, s2, a, m, c⟩, rfl⟩
set_option maxRecDepth 100000 in
theorem open_ed {H : Type} {enc : TypeId × Value → H} {W : World} {base : Nat} {sp : Nat → Bool} {held : Bool} : ∀ (fuel : Nat) (cs : List Value) (y : DataW H × List MemPlace), cs.length = 5 → DataW.trod enc Tryd.prog W base sp held fuel 26 cs = some y → ∃ d : ED, EAt W.cell? d cs := by
  intro fuel
  induction fuel using Nat.strongRecOn with
  | ind fuel ih =>
    intro cs y hl h
    obtain ⟨xs, k, hk, hxy, _, hxl, hf⟩ := DataW.trod_struct Tryd.underlying26 h
    match xs, hxl, cs, hl with
    | [y0, y1, y2, y3, y4], _, [v0, v1, v2, v3, v4], _ =>
      have g0 := hf 0 _ rfl
      have g1 := hf 1 _ rfl
      have g2 := hf 2 _ rfl
      have g3 := hf 3 _ rfl
      have g4 := hf 4 _ rfl
      simp only [List.getElem?_cons_succ, List.getElem?_cons_zero] at g0 g1 g2 g3 g4
      obtain ⟨s0, rfl⟩ := in_int g0
      obtain ⟨s1, rfl⟩ := in_text g1
      obtain ⟨s2, rfl⟩ := in_text g2
      obtain ⟨vr, hvr, hvq⟩ := rows_of_trod Tryd.underlying23 (by kernel_rfl) (show 0 < 4 by omega) (fun cs => ∃ d : VD, cs = d.row) (fun n cs y _ hl h => open_vd hl h) g3
      obtain ⟨l, rfl⟩ := rows_map vr (fun r hr => (hvq r hr).2)
      obtain ⟨kr, hkr, hkq⟩ := rows_of_trod Tryd.underlying24 (by kernel_rfl) (show 0 < 5 by omega) (fun cs => ∃ d : ED, EAt W.cell? d cs) (fun n cs y hn hl h => ih n (by omega) cs y hl h) g4
      obtain ⟨kids, hlen, hp⟩ := rows_list kr (fun r hr => (hkq r hr).2)
      exact ⟨.mk s0 s1 s2 l kids, EAt.mk kr hvr hkr hlen hp⟩
set_option maxRecDepth 100000 in
/-- An argument that is a condition. -/
theorem open_expr {H : Type} {enc : TypeId × Value → H} {W : World} {base b0 : Nat} {sp : Nat → Bool} {held : Bool} {v : Value} {d : DataW H} {p : List MemPlace}
    (hv : Value.okWide Tryd.prog W .any b0 26 v) (h : DataW.Trod enc Tryd.prog W base sp held 26 v d p) : ∃ (d : ED) (r : List Value), v = .agg r.toArray ∧ EAt W.cell? d r := by
  obtain ⟨cs, rfl, hsz⟩ := okWide_struct Tryd.underlying26 hv
  obtain ⟨l⟩ := cs
  obtain ⟨fuel, hf⟩ := h
  obtain ⟨d, hd⟩ := open_ed fuel l _ (hsz.trans (by kernel_rfl)) hf
  exact ⟨d, l, rfl, hd⟩

end Go.Proofs.YtblmmldhlbnbiaaDoor.schema
