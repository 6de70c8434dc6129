/- Slices of rows that came in: what a reading of them says of the memory. -/
import Derived.Test.YtblmmldhlbnbiaaDoorBase
import Derived.Deep.Slices
namespace Go.Proofs.YtblmmldhlbnbiaaDoor
open Go.ChangeShapes Go.WideShapes Go.RowKit Go.Deep

theorem spot_none {W : World} {x : Addr} {v : Value} {sz : Nat} (h : W.cell? ((x.add (0 * sz)).add 0) = some v) : x.spot = none := by
  unfold World.cell? at h
  cases hsp : x.spot with
  | none => rfl
  | some i =>
    exfalso
    have : (((x.add (0 * sz)).add 0).spot.isSome) = true := by unfold Addr.add; split <;> simp_all
    split at h
    · rw [if_pos this] at h; cases h
    · cases h
/-- A slice whose elements take sz cells each, opened at every element: its rows, each of which is such that Q. -/
theorem rows_of_trod {H : Type} {enc : TypeId × Value → H} {P : Program} {W : World} {base fuel sz : Nat} {sp : Nat → Bool} {held : Bool} {t e : TypeId} {v : Value} {x : DataW H × List MemPlace}
    (ht : P.underlying t = some (.slice e)) (ce : P.cellsOf e = sz) (hsz : 0 < sz) (Q : List Value → Prop)
    (hQ : ∀ (n : Nat) (cs : List Value) (y : DataW H × List MemPlace), n < fuel → cs.length = sz → DataW.trod enc P W base sp held n e cs = some y → Q cs)
    (h : DataW.trod enc P W base sp held fuel t [v] = some x) : ∃ rows, RowsAt W.cell? sz v rows ∧ ∀ r ∈ rows, r.length = sz ∧ Q r := by
  rcases DataW.trod_slice ht h with ⟨hcs, -⟩ | ⟨a, len, cap, elems, rest, n, hf, hcs, -, hb, hl, hm, hlen, hel, -, -⟩
  · injection hcs with hv
    subst hv
    exact ⟨[], rows_nil _ _, fun r hr => by cases hr⟩
  · injection hcs with hv
    subst hv
    have each : ∀ i, i < len → ∃ cs : List Value, cs.length = sz ∧ Q cs ∧ ∀ j, j < sz → W.cell? ((a.add (i * sz)).add j) = cs[j]? := by
      intro i hi
      have key := hel i hi
      rw [List.getElem?_eq_getElem (by omega), ce] at key
      obtain ⟨cs, h1, h2⟩ := Option.bind_eq_some_iff.1 key
      obtain ⟨-, hln, hcell⟩ := World.cells?_some h1
      exact ⟨cs, hln, hQ n cs _ (by omega) hln h2, hcell⟩
    obtain ⟨F, hF⟩ := choose_lt (α := List Value) (p := fun i cs => cs.length = sz ∧ Q cs ∧ ∀ j, j < sz → W.cell? ((a.add (i * sz)).add j) = cs[j]?) each
    refine ⟨(List.range len).map F, ⟨some a, cap, by simp, by simpa using hl, hm, ?_⟩, fun r hr => ?_⟩
    · by_cases h0 : len = 0
      · exact Or.inl (by rw [h0]; rfl)
      · obtain ⟨h1, -, h3⟩ := hF 0 (by omega)
        have h4 := h3 0 hsz
        rw [List.getElem?_eq_getElem (by omega)] at h4
        have hs := spot_none h4
        obtain ⟨blk, off, s⟩ := a
        simp only at hs
        subst hs
        refine Or.inr ⟨blk, off, rfl, fun i r hi j y hj => ?_⟩
        have hin : i < len := by have := (List.getElem?_eq_some_iff.1 hi).1; simpa using this
        rw [List.getElem?_map, List.getElem?_range hin] at hi
        injection hi with hi
        subst hi
        obtain ⟨k1, -, k3⟩ := hF i hin
        have hjs : j < sz := by have := (List.getElem?_eq_some_iff.1 hj).1; omega
        have h5 := k3 j hjs
        have e1 : ((⟨blk, off, none⟩ : Addr).add (i * sz)).add j = ⟨blk, off + i * sz + j, none⟩ := by
          unfold Addr.add
          split <;> split <;> simp_all
        rw [e1, hj] at h5
        exact h5
    · obtain ⟨i, hi, rfl⟩ := List.mem_map.1 hr
      have := hF i (List.mem_range.1 hi)
      exact ⟨this.1, this.2.1⟩
/-- Rows each of which is somebody's: the list of those. -/
theorem rows_map {α : Type} {f : α → List Value} : ∀ rows : List (List Value), (∀ r ∈ rows, ∃ d, r = f d) → ∃ l : List α, rows = l.map f
  | [], _ => ⟨[], rfl⟩
  | r :: rows, h => by
    obtain ⟨d, hd⟩ := h r (by simp)
    obtain ⟨l, hl⟩ := rows_map rows (fun r hr => h r (by simp [hr]))
    exact ⟨d :: l, by rw [List.map_cons, hd, hl]⟩
theorem rows_list {α : Type} {p : α → List Value → Prop} : ∀ rows : List (List Value), (∀ r ∈ rows, ∃ d, p d r) → ∃ l : List α, rows.length = l.length ∧ ∀ (i : Nat) (r : List Value) (d : α), rows[i]? = some r → l[i]? = some d → p d r
  | [], _ => ⟨[], rfl, fun i r d hi => by simp at hi⟩
  | r :: rows, h => by
    obtain ⟨d, hd⟩ := h r (by simp)
    obtain ⟨l, hl, hp⟩ := rows_list rows (fun r hr => h r (by simp [hr]))
    refine ⟨d :: l, by simp [hl], fun i r' d' hi hd' => ?_⟩
    cases i with
    | zero => simp at hi hd'; subst hi; subst hd'; exact hd
    | succ i => exact hp i r' d' (by simpa using hi) (by simpa using hd')

end Go.Proofs.YtblmmldhlbnbiaaDoor
