/- value.Check's and the reference's shape. -/
import Derived.Test.YthnjgbjckggjhaaGreatDoorKJ1
import Derived.Test.YthnjgbjckggjhaaGreatDoorKJ3
import Derived.Test.YthnjgbjckggjhaaGreatDoorChecked
import Derived.Lib.Hide
import Derived.Outline
namespace Go.Proofs.YthnjgbjckggjhaaGreatDoor.value
open Go.RowKit Go.Proofs.YthnjgbjckggjhaaGreatDoor.text

/-- A value as it is handed over, and the texts of its list in memory. -/
structure VIn (m : Mem) (v : VV) (t : ByteArray) (la : Option Addr) (lc : Nat) (ls : List ByteArray) : Prop where
  text : t.data.toList = v.t
  rows : RowsAt m 1 (.slice la ls.length lc) (ls.map fun s => [Value.string s])
  list : ls.map (·.data.toList) = v.l
theorem VIn.mono {m m' : Mem} (hs : Sub m m') {v : VV} {t : ByteArray} {la : Option Addr} {lc : Nat} {ls : List ByteArray} (h : VIn m v t la lc ls) : VIn m' v t la lc ls := ⟨h.text, h.rows.mono hs, h.list⟩

/-- The shape, over what is handed over. -/
def shapeB (k n : Int) (t : ByteArray) (ln : Nat) : Bool :=
  if k = 1 ∨ k = 2 then t.data.toList.isEmpty && decide (ln = 0) else if k = 3 ∨ k = 4 then decide (n = 0) && decide (ln = 0) else decide (n = 0) && t.data.toList.isEmpty
theorem shapeB_eq {m : Mem} {v : VV} {t : ByteArray} {la : Option Addr} {lc : Nat} {ls : List ByteArray} (h : VIn m v t la lc ls) : shapeB v.k v.n t ls.length = shapeS v := by
  have e : decide (ls.length = 0) = v.l.isEmpty := by
    rw [← h.list]
    cases ls <;> rfl
  unfold shapeB shapeS
  rw [h.text, e]

theorem ret_b {a b : Bool} (h : a = b) : Ending.returned (.bool a) = .returned (.bool b) := by rw [h]
theorem empty_ways (t : ByteArray) : (t.size = 0 ∧ t.toList = [] ∧ t.toList.isEmpty = true ∧ Hid (t.data.toList.isEmpty = true)) ∨ (t.size ≠ 0 ∧ ¬ t.toList = [] ∧ t.toList.isEmpty = false ∧ Hid (t.data.toList.isEmpty = false)) := by
  rw [ByteArray.toList_eq]
  by_cases h : t.size = 0
  · have e : t.data.toList = [] := List.eq_nil_of_length_eq_zero (by simpa using h)
    exact Or.inl ⟨h, e, by rw [e]; rfl, by rw [e]; rfl⟩
  · have e : t.data.toList ≠ [] := by
      intro e
      have := congrArg List.length e
      simp at this
      exact h (by rw [this]; rfl)
    have e2 : t.data.toList.isEmpty = false := by
      cases hl : t.data.toList with
      | nil => exact absurd hl e
      | cons a r => rfl
    exact Or.inr ⟨h, e, e2, e2⟩

set_option maxHeartbeats 1000000 in
theorem shape_any (k n : Int) (t : ByteArray) (la : Option Addr) (ln lc : Nat) (w : World) :
    Calls Tryz.prog 53 #[.agg #[.int .i64 k, .int .i64 n, .string t, .slice la ln lc]] w fun e w' => e = .returned (.bool (shapeB k n t ln)) ∧ Below w.heap.size w w' := by
  have hk : k = 1 ∨ k = 2 ∨ k = 3 ∨ k = 4 ∨ (k ≠ 1 ∧ k ≠ 2 ∧ k ≠ 3 ∧ k ≠ 4) := by omega
  have hl : ln = 0 ∨ (((ln : Int) == 0) = false ∧ Hid (ln ≠ 0)) := by
    rcases Nat.eq_zero_or_pos ln with h | h
    · exact Or.inl h
    · exact Or.inr ⟨by simp; omega, by show ln ≠ 0; omega⟩
  have hn : n = 0 ∨ ((n == 0) = false ∧ Hid (n ≠ 0)) := by
    by_cases h : n = 0
    · exact Or.inl h
    · exact Or.inr ⟨by simp [h], h⟩
  rcases empty_ways t with ⟨h1, h2, h3, hT⟩ | ⟨h1, h2, h3, hT⟩
  all_goals rcases hk with rfl | rfl | rfl | rfl | ⟨k1, k2, k3, k4⟩
  all_goals rcases hl with rfl | ⟨hl, hL⟩
  all_goals rcases hn with rfl | ⟨hn, hN⟩
  all_goals
    go_enter Tryz.func53, Tryz.ntmps53
    go_wp2
    go_ret
    refine ⟨ret_b ?_, (Below.refl _ _).alloc (Nat.le_refl _) _⟩
    have hT' := hT.out
    try have hL' := hL.out
    try have hN' := hN.out
    simp [shapeB, *]

end Go.Proofs.YthnjgbjckggjhaaGreatDoor.value

