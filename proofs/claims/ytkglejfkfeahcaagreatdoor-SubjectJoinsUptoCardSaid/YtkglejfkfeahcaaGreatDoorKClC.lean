/- Copies: a list of values, copied one by one. -/
import Derived.Test.YtkglejfkfeahcaaGreatDoorKClL
import Derived.Test.YtkglejfkfeahcaaGreatDoorKDraw5
import Derived.OwnWalk
namespace Go.Proofs.YtkglejfkfeahcaaGreatDoor.clause
open Go.RowKit Go.Proofs.YtkglejfkfeahcaaGreatDoor Go.Proofs.YtkglejfkfeahcaaGreatDoor.schema Go.Proofs.YtkglejfkfeahcaaGreatDoor.value Go.Proofs.YtkglejfkfeahcaaGreatDoor.text Go.Proofs.YtkglejfkfeahcaaGreatDoor.draw

/-- Two lists of one content. -/
def SameL (l' l : List VD) : Prop := l'.length = l.length ∧ ∀ i (h' : i < l'.length) (h : i < l.length), SameV l'[i] l[i]
theorem SameL.snoc {l' l : List VD} {k : Nat} {d : VD} (h : SameL l' (l.take k)) (hk : k < l.length) (hd : SameV d l[k]) : SameL (l' ++ [d]) (l.take (k + 1)) := by
  have hl := h.1
  rw [List.length_take, Nat.min_eq_left (by omega)] at hl
  refine ⟨by simp [hl]; omega, fun i h1 h2 => ?_⟩
  rw [List.length_append, List.length_singleton] at h1
  rcases Nat.lt_or_ge i k with hi | hi
  · rw [List.getElem_append_left (by omega), List.getElem_take]
    have := h.2 i (by omega) (by simp; omega)
    rw [List.getElem_take] at this
    exact this
  · obtain rfl : i = k := by omega
    rw [List.getElem_append_right (by omega), List.getElem_take]
    simp only [hl, Nat.sub_self, List.getElem_cons_zero]
    exact hd

/-- What the copying loop holds: so many copies in a row of the call's own, each with its list in other new memory. -/
structure RelV (w wr : World) (l : List VD) (k : Nat) (va : Option Addr) (vc : Nat) (acc : List VD) : Prop where
  low : Below w.heap.size w wr
  own : wr.ownsRow w.heap.size 52 4 (.slice va k vc) k (acc.map VD.row).flatten
  lats : ∀ u ∈ acc, LAt (newG w.heap.size 0 (Value.slice va k vc).ownBlock wr) u
  same : SameL acc (l.take k)

end Go.Proofs.YtkglejfkfeahcaaGreatDoor.clause

