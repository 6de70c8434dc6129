/- A subject that came in, out of the first form's weights: its lists are bounded, its texts are not. -/
import Derived.Test.YthnjgbjckggjhaaGreatDoorKJ9
import Derived.Test.YthnjgbjckggjhaaGreatDoorKWd
import Derived.Test.YthnjgbjckggjhaaGreatDoorRows
namespace Go.Proofs.YthnjgbjckggjhaaGreatDoor.subj.wide
open Go.ChangeShapes Go.WideShapes Go.RowKit Go.Deep Go.Proofs.YthnjgbjckggjhaaGreatDoor Go.Proofs.YthnjgbjckggjhaaGreatDoor.schema Go.Proofs.YthnjgbjckggjhaaGreatDoor.clause

/-- No part weighs more than the reach. -/
def Lght {H : Type} (P : Program) (t : TypeId) (d : DataW H) : Prop := ∀ x ∈ d.weights P t, x ≤ reachBytes
theorem wt_struct {H : Type} {P : Program} {t : TypeId} {fs : Array Field} {parts : List (DataW H)} (hu : P.underlying t = some (.struct fs)) : DataW.weights P t (.agg parts) = DataW.weightsEach P (fs.toList.map (·.type)) parts := by
  rw [DataW.weights]
  simp only [hu]
theorem wt_slice {H : Type} {P : Program} {t e : TypeId} {l s : List (DataW H)} (hu : P.underlying t = some (.slice e)) : DataW.weights P t (.slice l s) = (l.length + s.length) * P.bytesOf e :: (DataW.weightsAll P e l ++ DataW.weightsAll P e s) := by
  rw [DataW.weights]
  simp only [hu]
theorem wt_all {H : Type} {P : Program} {e : TypeId} {x : Nat} : ∀ (l : List (DataW H)) (d : DataW H), d ∈ l → x ∈ d.weights P e → x ∈ DataW.weightsAll P e l
  | [], d, h, _ => by cases h
  | y :: r, d, h, hx => by
    rw [DataW.weightsAll, List.mem_append]
    rcases List.mem_cons.1 h with rfl | h
    · exact Or.inl hx
    · exact Or.inr (wt_all r d h hx)
theorem wt_each {H : Type} {P : Program} {x : Nat} : ∀ (ts : List TypeId) (ds : List (DataW H)) (i : Nat) (t : TypeId) (d : DataW H), ts[i]? = some t → ds[i]? = some d → x ∈ d.weights P t → x ∈ DataW.weightsEach P ts ds
  | [], _, i, t, d, h, _, _ => by simp at h
  | _ :: _, [], i, t, d, _, h, _ => by simp at h
  | t' :: ts, y :: r, 0, t, d, h, h', hx => by
    simp at h h'
    subst h; subst h'
    rw [DataW.weightsEach, List.mem_append]
    exact Or.inl hx
  | t' :: ts, y :: r, i + 1, t, d, h, h', hx => by
    rw [DataW.weightsEach, List.mem_append]
    exact Or.inr (wt_each ts r i t d (by simpa using h) (by simpa using h') hx)
/-- A part of a struct is as light. -/
theorem lght_part {H : Type} {P : Program} {t : TypeId} {fs : Array Field} {xs : List (DataW H × List MemPlace)} {x : DataW H × List MemPlace} {p : List MemPlace} (hu : P.underlying t = some (.struct fs)) (hx : x = (.agg (xs.map (·.1)), p)) (h : Lght P t x.1)
    {i : Nat} {u : TypeId} {y : DataW H × List MemPlace} (hi : (fs.toList.map (·.type))[i]? = some u) (hy : xs[i]? = some y) : Lght P u y.1 := by
  subst hx
  intro z hz
  refine h z ?_
  show z ∈ DataW.weights P t (.agg (xs.map (·.1)))
  rw [wt_struct hu]
  exact wt_each _ _ i u y.1 hi (by rw [List.getElem?_map, hy]; rfl) hz

/-- A slice, opened: its rows, each of which is such that Q, and how many there can be. -/
theorem rows_of_trodW {H : Type} {enc : TypeId × Value → H} {P : Program} {W : World} {base fuel sz : Nat} {sp : Nat → Bool} {held : Bool} {t e : TypeId} {v : Value} {x : DataW H × List MemPlace}
    (ht : P.underlying t = some (.slice e)) (ce : P.cellsOf e = sz) (hsz : 0 < sz) (Q : List Value → Prop)
    (hQ : ∀ (n : Nat) (cs : List Value) (y : DataW H × List MemPlace), n < fuel → cs.length = sz → Lght P e y.1 → DataW.trod enc P W base sp held n e cs = some y → Q cs)
    (hB : Lght P t x.1)
    (h : DataW.trod enc P W base sp held fuel t [v] = some x) : ∃ rows, RowsAt W.cell? sz v rows ∧ rows.length * P.bytesOf e ≤ reachBytes ∧ ∀ r ∈ rows, r.length = sz ∧ Q r := by
  rcases DataW.trod_slice ht h with ⟨hcs, -⟩ | ⟨a, len, cap, elems, rest, n, hf, hcs, hx, hb, hl, hm, hlen, hel, -, -⟩
  · injection hcs with hv
    subst hv
    exact ⟨[], rows_nil _ _, by simp, fun r hr => by cases hr⟩
  · injection hcs with hv
    subst hv
    subst hx
    have hW : ∀ z ∈ (elems.map (·.1)).length * P.bytesOf e :: DataW.weightsAll P e (elems.map (·.1)), z ≤ reachBytes := by
      intro z hz
      rcases List.mem_cons.1 hz with rfl | hz
      · have h1 := hB (((elems.map (·.1)).length + (rest.map (·.1)).length) * P.bytesOf e) (by
          show _ ∈ DataW.weights P t (.slice (elems.map (·.1)) (rest.map (·.1)))
          rw [wt_slice ht]
          exact List.mem_cons_self)
        exact Nat.le_trans (Nat.mul_le_mul_right _ (Nat.le_add_right _ _)) h1
      · refine hB z ?_
        show _ ∈ DataW.weights P t (.slice (elems.map (·.1)) (rest.map (·.1)))
        rw [wt_slice ht]
        exact List.mem_cons_of_mem _ (List.mem_append_left _ hz)
    have hsm : ∀ y ∈ elems, Lght P e y.1 := fun y hy z hz => hW z (List.mem_cons_of_mem _ (wt_all _ y.1 (List.mem_map.2 ⟨y, hy, rfl⟩) hz))
    have hlB : len * P.bytesOf e ≤ reachBytes := by
      have := hW _ List.mem_cons_self
      rw [List.length_map, hlen] at this
      exact this
    have each : ∀ i, i < len → ∃ cs : List Value, cs.length = sz ∧ Q cs ∧ ∀ j, j < sz → W.cell? ((a.add (i * sz)).add j) = cs[j]? := by
      intro i hi
      have key := hel i hi
      rw [List.getElem?_eq_getElem (by omega), ce] at key
      obtain ⟨cs, h1, h2⟩ := Option.bind_eq_some_iff.1 key
      obtain ⟨-, hln, hcell⟩ := World.cells?_some h1
      exact ⟨cs, hln, hQ n cs _ (by omega) hln (hsm _ (List.getElem_mem _)) h2, hcell⟩
    obtain ⟨F, hF⟩ := choose_lt (α := List Value) (p := fun i cs => cs.length = sz ∧ Q cs ∧ ∀ j, j < sz → W.cell? ((a.add (i * sz)).add j) = cs[j]?) each
    refine ⟨(List.range len).map F, ⟨some a, cap, by simp, by simpa using hl, hm, ?_⟩, by simpa using hlB, fun r hr => ?_⟩
    · by_cases h0 : len = 0
      · exact Or.inl (by rw [h0]; rfl)
      · obtain ⟨h1, -, h3⟩ := hF 0 (by omega)
        have h4 := h3 0 hsz
        rw [List.getElem?_eq_getElem (by omega)] at h4
        have hs := spot_none h4
        obtain ⟨blk, off, s⟩ := a
        simp only at hs
        subst hs
        refine Or.inr ⟨blk, off, rfl, fun i r hi j y hj => ?_⟩
        have hin : i < len := by have := (List.getElem?_eq_some_iff.1 hi).1; simpa using this
        rw [List.getElem?_map, List.getElem?_range hin] at hi
        injection hi with hi
        subst hi
        obtain ⟨k1, -, k3⟩ := hF i hin
        have hjs : j < sz := by have := (List.getElem?_eq_some_iff.1 hj).1; omega
        have h5 := k3 j hjs
        have e1 : ((⟨blk, off, none⟩ : Addr).add (i * sz)).add j = ⟨blk, off + i * sz + j, none⟩ := by
          unfold Addr.add
          split <;> split <;> simp_all
        rw [e1, hj] at h5
        exact h5
    · obtain ⟨i, hi, rfl⟩ := List.mem_map.1 hr
      have := hF i (List.mem_range.1 hi)
      exact ⟨this.1, this.2.1⟩

set_option maxRecDepth 100000 in
theorem open_lsW {H : Type} {enc : TypeId × Value → H} {W : World} {base n : Nat} {sp : Nat → Bool} {held : Bool} {v : Value} {y : DataW H × List MemPlace} (hB : Lght Tryz.prog 33 y.1) (h : DataW.trod enc Tryz.prog W base sp held n 33 [v] = some y) : ∃ ls : List ByteArray, RowsAt W.cell? 1 v (ls.map strRow) ∧ ls.length ≤ 8796093022208 := by
  obtain ⟨lr, hlr, hB, hlq⟩ := rows_of_trodW Tryz.underlying33 (by kernel_rfl) (show 0 < 1 by omega) (fun cs => ∃ s : ByteArray, cs = strRow s) (fun n cs y _ hl hB h => by
    match cs, hl with
    | [v], _ =>
      obtain ⟨s, rfl⟩ := in_text h
      exact ⟨s, rfl⟩) hB h
  obtain ⟨ls, rfl⟩ := rows_map lr (fun r hr => (hlq r hr).2)
  rw [show Tryz.prog.bytesOf 9 = 16 by kernel_rfl, List.length_map] at hB
  unfold reachBytes at hB
  exact ⟨ls, hlr, by omega⟩
set_option maxRecDepth 100000 in
theorem open_vdW {H : Type} {enc : TypeId × Value → H} {W : World} {base n : Nat} {sp : Nat → Bool} {held : Bool} {cs : List Value} {y : DataW H × List MemPlace} (hl : cs.length = 4) (hB : Lght Tryz.prog 42 y.1) (h : DataW.trod enc Tryz.prog W base sp held n 42 cs = some y) : ∃ d : VD, cs = d.row ∧ LAt W.cell? d := by
  obtain ⟨xs, k, hk, hxy, _, hxl, hf⟩ := DataW.trod_struct Tryz.underlying42 h
  have hP := fun (i : Nat) (u : TypeId) (z : DataW H × List MemPlace) hi hy => lght_part (i := i) (u := u) (y := z) Tryz.underlying42 hxy hB hi hy
  match xs, hxl, cs, hl, hP with
  | [y0, y1, y2, y3], _, [v0, v1, v2, v3], _, hP =>
    have g0 := hf 0 _ rfl
    have g1 := hf 1 _ rfl
    have g2 := hf 2 _ rfl
    have g3 := hf 3 _ rfl
    simp only [List.getElem?_cons_succ, List.getElem?_cons_zero] at g0 g1 g2 g3
    obtain ⟨s0, rfl⟩ := in_int g0
    obtain ⟨s1, rfl⟩ := in_int g1
    obtain ⟨s2, rfl⟩ := in_text g2
    obtain ⟨ls, hls, hlen⟩ := open_lsW (hP 3 _ _ rfl rfl) g3
    obtain ⟨a, m, c, rfl⟩ := in_slice Tryz.underlying33 g3
    exact ⟨⟨s0, s1, s2, a, m, c, ls⟩, rfl, hls, trivial, hlen⟩
set_option maxRecDepth 100000 in
theorem open_adW {H : Type} {enc : TypeId × Value → H} {W : World} {base n : Nat} {sp : Nat → Bool} {held : Bool} {cs : List Value} {y : DataW H × List MemPlace} (hl : cs.length = 5) (hB : Lght Tryz.prog 56 y.1) (h : DataW.trod enc Tryz.prog W base sp held n 56 cs = some y) : ∃ d : AD, cs = d.row ∧ LAt W.cell? d.val := by
  obtain ⟨xs, k, hk, hxy, _, hxl, hf⟩ := DataW.trod_struct Tryz.underlying56 h
  have hP := fun (i : Nat) (u : TypeId) (z : DataW H × List MemPlace) hi hy => lght_part (i := i) (u := u) (y := z) Tryz.underlying56 hxy hB hi hy
  match xs, hxl, cs, hl, hP with
  | [y0, y1], _, [v0, v1, v2, v3, v4], _, hP =>
    have g0 := hf 0 _ rfl
    have g1 := hf 1 _ rfl
    simp only [List.getElem?_cons_succ, List.getElem?_cons_zero] at g0 g1
    obtain ⟨s0, rfl⟩ := in_text g0
    obtain ⟨d, hd, hL⟩ := open_vdW (cs := [v1, v2, v3, v4]) rfl (hP 1 _ _ rfl rfl) g1
    exact ⟨⟨s0, d⟩, by unfold AD.row; rw [← hd], hL⟩
set_option maxRecDepth 100000 in
theorem open_ctW {H : Type} {enc : TypeId × Value → H} {W : World} {base n : Nat} {sp : Nat → Bool} {held : Bool} {cs : List Value} {y : DataW H × List MemPlace} (hl : cs.length = 3) (hB : Lght Tryz.prog 37 y.1) (h : DataW.trod enc Tryz.prog W base sp held n 37 cs = some y) : ∃ d : CT, cs = d.row ∧ CAt W.cell? d := by
  obtain ⟨xs, k, hk, hxy, _, hxl, hf⟩ := DataW.trod_struct Tryz.underlying37 h
  have hP := fun (i : Nat) (u : TypeId) (z : DataW H × List MemPlace) hi hy => lght_part (i := i) (u := u) (y := z) Tryz.underlying37 hxy hB hi hy
  match xs, hxl, cs, hl, hP with
  | [y0, y1, y2], _, [v0, v1, v2], _, hP =>
    have g0 := hf 0 _ rfl
    have g1 := hf 1 _ rfl
    have g2 := hf 2 _ rfl
    simp only [List.getElem?_cons_succ, List.getElem?_cons_zero] at g0 g1 g2
    obtain ⟨s0, rfl⟩ := in_text g0
    obtain ⟨s1, rfl⟩ := in_text g1
    obtain ⟨ar, har, -, haq⟩ := rows_of_trodW Tryz.underlying35 (by kernel_rfl) (show 0 < 5 by omega) (fun cs => ∃ d : AD, cs = d.row ∧ LAt W.cell? d.val) (fun n cs y _ hl hB h => open_adW hl hB h) (hP 2 _ _ rfl rfl) g2
    obtain ⟨l, rfl, hl⟩ := rows_map2 ar (fun r hr => (haq r hr).2)
    obtain ⟨a, m, c, rfl⟩ := in_slice Tryz.underlying35 g2
    exact ⟨⟨s0, s1, a, m, c, l⟩, rfl, har, hl, trivial⟩
set_option maxRecDepth 100000 in
/-- An argument that is a subject. -/
theorem open_subjectW {H : Type} {enc : TypeId × Value → H} {W : World} {base b0 : Nat} {sp : Nat → Bool} {held : Bool} {v : Value} {d : DataW H} {p : List MemPlace}
    (hv : Value.okWide Tryz.prog W .any b0 24 v) (hB : Lght Tryz.prog 24 d) (h : DataW.Trod enc Tryz.prog W base sp held 24 v d p) :
    ∃ (a : Option Addr) (m c : Nat) (l : List CT), v = .agg #[.slice a m c] ∧ SAt W.cell? (.slice a m c) l := by
  obtain ⟨cs, rfl, hsz⟩ := okWide_struct Tryz.underlying24 hv
  obtain ⟨l⟩ := cs
  obtain ⟨fuel, hf⟩ := h
  obtain ⟨xs, k, hk, hxy, _, hxl, hff⟩ := DataW.trod_struct Tryz.underlying24 hf
  have hP := fun (i : Nat) (u : TypeId) (z : DataW H × List MemPlace) hi hy => lght_part (i := i) (u := u) (y := z) Tryz.underlying24 hxy hB hi hy
  match xs, hxl, l, hsz.trans (show _ = 1 by kernel_rfl), hP with
  | [y0], _, [v0], _, hP =>
    have g0 := hff 0 _ rfl
    simp only [List.getElem?_cons_zero] at g0
    obtain ⟨ar, har, -, haq⟩ := rows_of_trodW Tryz.underlying22 (by kernel_rfl) (show 0 < 3 by omega) (fun cs => ∃ d : CT, cs = d.row ∧ CAt W.cell? d) (fun n cs y _ hl hB h => open_ctW hl hB h) (hP 0 _ _ rfl rfl) g0
    obtain ⟨l, rfl, hl⟩ := rows_map2 ar (fun r hr => (haq r hr).2)
    obtain ⟨a, m, c, rfl⟩ := in_slice Tryz.underlying22 g0
    exact ⟨a, m, c, l, rfl, har, hl⟩

end Go.Proofs.YthnjgbjckggjhaaGreatDoor.subj.wide

