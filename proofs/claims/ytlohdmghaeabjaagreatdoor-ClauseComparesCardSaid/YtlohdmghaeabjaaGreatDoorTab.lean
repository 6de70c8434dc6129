/- Listed tables of texts and of lists of texts: what their reading says of memory. Over any program. -/
import Derived.Test.YtlohdmghaeabjaaGreatDoorBase
import Derived.ProofKit
import Derived.OpenShut
import Derived.LaidMore
namespace Go.Proofs.YtlohdmghaeabjaaGreatDoor
open Go.ChangeShapes Go.WideShapes Go.ChangeAt Go.RowKit Go.WideMaps Go.WideElems

def strIn : Option Value → ByteArray | some (.string s) => s | _ => ⟨#[]⟩

section
variable {P : Program} {W : World} {H : Type} {enc : TypeId × Value → H}

/-- A table of texts. -/
theorem tab_strs {name : String} {g t e n fuel : Nat} {cs : Array Value} {d : DataW H} {p : List MemPlace} {base : Nat} {spare : Nat → Bool} {held : Bool} (hg : P.globalNamed name = some g) (hv : W.var? P name = some cs)
    (ht : P.underlying t = some (.array n e)) (he : P.underlying e = some .string) (hc : P.cellsOf e = 1)
    (hd : DataW.trod enc P W base spare held fuel t cs.toList = some (d, p)) :
    ∃ ss : List ByteArray, ss.length = n ∧ d = .agg (ss.map fun s => .lit (.string s.data.toList)) ∧ ∀ i s, ss[i]? = some s → W.cell? ⟨g, i, none⟩ = some (.string s) := by
  obtain ⟨xs, m, -, hx, hl, hn, hel⟩ := DataW.trod_array ht hd
  have each : ∀ i, i < n → ∃ s : ByteArray, xs[i]? = some (.lit (.string s.data.toList), []) ∧ cs[i]? = some (.string s) := by
    intro i hi
    have h := hel i hi
    rw [hc, Nat.mul_one] at h
    rw [List.getElem?_eq_getElem (by omega)] at h
    obtain ⟨s, h1, h2, -⟩ := DataW.trod_string he h
    refine ⟨s, by rw [List.getElem?_eq_getElem (by omega), h2], ?_⟩
    have h3 := congrArg (fun l : List Value => l[0]?) h1
    simp only [List.getElem?_cons_zero, List.getElem?_take, Nat.zero_lt_one, ↓reduceIte, List.getElem?_drop, Nat.add_zero] at h3
    simpa using h3
  refine ⟨(List.range n).map fun i => strIn cs[i]?, by simp, ?_, ?_⟩
  · have e1 : d = .agg (xs.map (·.1)) := by simpa using congrArg Prod.fst hx
    rw [e1]
    congr 1
    apply List.ext_getElem?
    intro i
    by_cases hi : i < n
    · obtain ⟨s, h1, h2⟩ := each i hi
      simp [h1, hi, h2, strIn]
    · rw [List.getElem?_eq_none (by simp; omega), List.getElem?_eq_none (by simp; omega)]
  · intro i s hs
    by_cases hi : i < n
    · obtain ⟨s', h1, h2⟩ := each i hi
      simp [hi, h2, strIn] at hs
      subst hs
      rw [World.var?_cell hg hv i]
      exact h2
    · rw [List.getElem?_eq_none (by simp; omega)] at hs; cases hs

/-- A table of lists of texts. -/
theorem tab_lists {name : String} {g t e e2 n fuel : Nat} {cs : Array Value} {d : DataW H} {p : List MemPlace} {base : Nat} {spare : Nat → Bool} {held : Bool} (hg : P.globalNamed name = some g) (hv : W.var? P name = some cs)
    (ht : P.underlying t = some (.array n e)) (he : P.underlying e = some (.slice e2)) (he2 : P.underlying e2 = some .string) (hc : P.cellsOf e = 1) (hc2 : P.cellsOf e2 = 1)
    (hd : DataW.trod enc P W base spare held fuel t cs.toList = some (d, p)) (i : Nat) (hi : i < n) :
    ∃ xs : List (DataW H), d = .agg xs ∧ ((W.cell? ⟨g, i, none⟩ = some (.slice none 0 0) ∧ xs[i]? = some .nil) ∨
      ∃ (a : Addr) (cap : Nat) (l : List ByteArray) (sp : List (DataW H)), W.cell? ⟨g, i, none⟩ = some (.slice (some a) l.length cap) ∧ l.length ≤ cap ∧ cap ≤ maxLen ∧ xs[i]? = some (.slice (l.map fun s => .lit (.string s.data.toList)) sp) ∧
        ∀ j s, l[j]? = some s → W.cell? (a.add j) = some (.string s)) := by
  obtain ⟨xs, m, -, hx, hl, hn, hel⟩ := DataW.trod_array ht hd
  have e1 : d = .agg (xs.map (·.1)) := by simpa using congrArg Prod.fst hx
  refine ⟨_, e1, ?_⟩
  have h := hel i hi
  rw [hc, Nat.mul_one, List.getElem?_eq_getElem (by omega)] at h
  have cell : ∀ v : Value, (cs.toList.drop i).take 1 = [v] → W.cell? ⟨g, i, none⟩ = some v := by
    intro v h1
    have h3 := congrArg (fun l : List Value => l[0]?) h1
    simp only [List.getElem?_cons_zero, List.getElem?_take, Nat.zero_lt_one, ↓reduceIte, List.getElem?_drop, Nat.add_zero] at h3
    rw [World.var?_cell hg hv i]
    simpa using h3
  rcases open_strings he he2 hc2 h with ⟨h1, h2⟩ | ⟨a, len, cap, ss, h1, -, hlc, hcm, hlen, h2, h3, -⟩
  · exact Or.inl ⟨cell _ h1, by rw [List.getElem?_map, List.getElem?_eq_getElem (by omega), h2]; rfl⟩
  · have hle : len ≤ ss.length := by rw [hlen]; split <;> omega
    have hlt : (ss.take len).length = len := by simp; omega
    refine Or.inr ⟨a, cap, ss.take len, strs (ss.drop len), ?_, by omega, hcm, ?_, ?_⟩
    · rw [hlt]
      exact cell _ h1
    · rw [List.getElem?_map, List.getElem?_eq_getElem (by omega), h2]
      rfl
    · intro j s hs
      rw [List.getElem?_take] at hs
      split at hs
      · rename_i hj
        have := h3 j (by omega)
        rw [List.getD_eq_getElem?_getD, hs] at this
        exact this
      · cases hs

/-- Memory is read as before below a block that is not there. -/
theorem sub_but (w : World) (b : Nat) (h : w.heap.size ≤ b) : Sub w.cell? (but b w) := by
  intro p v hp
  unfold but
  rw [if_neg]
  · exact hp
  · have := World.block_lt_of_cell? w p hp
    omega
end

end Go.Proofs.YtlohdmghaeabjaaGreatDoor

