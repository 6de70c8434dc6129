/- Which values are valid, or the first error: the program's Check and the reference's. -/
import Derived.Test.YthnjgbjckggjhaaGreatDoorKValD
import Derived.Test.YthnjgbjckggjhaaGreatDoorKValA
import Derived.Deep.QuietTactic
import Derived.BigQuiet
import Derived.IntWalk
import Derived.WalkSmall
namespace Go.Proofs.YthnjgbjckggjhaaGreatDoor.value
open Go.RowKit Go.Proofs.YthnjgbjckggjhaaGreatDoor.text

theorem bel_drew {B : Nat} {a w : World} (h : Below B a w) (n : Nat) : Below B a (w.drewN n) := h.trans ⟨rfl, rfl, rfl, Nat.le_refl _, fun _ _ => rfl⟩
theorem ret_i {a b : Int} (h : a = b) : Ending.returned (.int .i64 b) = .returned (.int .i64 a) := by rw [h]
theorem c_kind {v : VV} (h : v.k < 1 ∨ 5 < v.k) : checkS v = 7 := by unfold checkS; rw [if_pos h]
theorem c_shape {v : VV} (h : ¬ (v.k < 1 ∨ 5 < v.k)) (h2 : shapeS v = false) : checkS v = 15 := by unfold checkS; rw [if_neg h, if_pos h2]
theorem c_1 {v : VV} (h2 : shapeS v = true) (hk : v.k = 1) : checkS v = if v.n ≠ 0 ∧ v.n ≠ 1 then 3 else 0 := by unfold checkS; simp [h2, hk]
theorem c_2 {v : VV} (h2 : shapeS v = true) (hk : v.k = 2) : checkS v = if v.n < -1099511627776 ∨ 1099511627776 < v.n then 3 else 0 := by unfold checkS; simp [h2, hk]
theorem c_3 {v : VV} (h2 : shapeS v = true) (hk : v.k = 3) : checkS v = if validS v.t then 0 else 2 := by unfold checkS; simp [h2, hk]
theorem c_4 {v : VV} (h2 : shapeS v = true) (hk : v.k = 4) : checkS v = if (verS v.t).isSome then 0 else 1 := by unfold checkS; simp [h2, hk]
theorem c_5 {v : VV} (h2 : shapeS v = true) (hk : v.k = 5) : checkS v = listS v.l := by unfold checkS; simp [h2, hk]

theorem l_long {l : List (List UInt8)} (h : 20 < l.length) : listS l = 5 := by unfold listS; rw [if_pos h]
theorem l_bad {l : List (List UInt8)} (h : ¬ 20 < l.length) (h2 : l.all validS = false) : listS l = 2 := by unfold listS; rw [if_neg h, if_pos h2]
theorem l_order {l : List (List UInt8)} (h : ¬ 20 < l.length) (h2 : l.all validS = true) (h3 : ascL l = false) : listS l = 9 := by unfold listS; rw [if_neg h, if_neg (by simp [h2]), if_pos h3]
theorem l_ok {l : List (List UInt8)} (h : ¬ 20 < l.length) (h2 : l.all validS = true) (h3 : ascL l = true) : listS l = 0 := by unfold listS; rw [if_neg h, if_neg (by simp [h2]), if_neg (by simp [h3])]

/-- The texts of a list, as they are compared. -/
def lsL (ls : List ByteArray) : List (List UInt8) := ls.map (·.data.toList)
theorem all_step {ls : List ByteArray} {k : Nat} (h : k < ls.length) (hv : validS ls[k].data.toList = true) (T : ((lsL ls).drop k).all validS = (lsL ls).all validS) : ((lsL ls).drop (k + 1)).all validS = (lsL ls).all validS := by
  have hl : k < (lsL ls).length := by simpa [lsL] using h
  have e : (lsL ls)[k] = ls[k].data.toList := by simp [lsL]
  rw [← T, List.drop_eq_getElem_cons hl, List.all_cons, e, hv]
  rfl
theorem all_stop {ls : List ByteArray} {k : Nat} (h : k < ls.length) (hv : validS ls[k].data.toList = false) (T : ((lsL ls).drop k).all validS = (lsL ls).all validS) : (lsL ls).all validS = false := by
  have hl : k < (lsL ls).length := by simpa [lsL] using h
  have e : (lsL ls)[k] = ls[k].data.toList := by simp [lsL]
  rw [← T, List.drop_eq_getElem_cons hl, List.all_cons, e, hv]
  rfl
theorem all_done {ls : List ByteArray} {k : Nat} (h : ¬ k < ls.length) (T : ((lsL ls).drop k).all validS = (lsL ls).all validS) : (lsL ls).all validS = true := by
  rw [← T, List.drop_eq_nil_of_le (by simp [lsL]; omega)]
  rfl
theorem asc_at {ls : List ByteArray} {k : Nat} (h : k + 1 < ls.length) : ascL ((lsL ls).drop k) = (Op.bytesLess ls[k].data.toList ls[k + 1].data.toList && ascL ((lsL ls).drop (k + 1))) := by
  have hl : k < (lsL ls).length := by simp [lsL]; omega
  have hl2 : k + 1 < (lsL ls).length := by simpa [lsL] using h
  have e : (lsL ls)[k] = ls[k].data.toList := by simp [lsL]
  have e2 : (lsL ls)[k + 1] = ls[k + 1].data.toList := by simp [lsL]
  rw [List.drop_eq_getElem_cons hl, List.drop_eq_getElem_cons hl2, ascL, e, e2]
theorem asc_done {ls : List ByteArray} {k : Nat} (h : ¬ k + 1 < ls.length) : ascL ((lsL ls).drop k) = true := by
  have hl : ((lsL ls).drop k).length ≤ 1 := by simp [lsL]; omega
  match h9 : (lsL ls).drop k, hl with
  | [], _ => rfl
  | [_], _ => rfl
  | _ :: _ :: _, h => simp at h
theorem str_cell {m : Mem} {l : List ByteArray} {blk off : Nat} (hr : ∀ i r, (l.map fun s => [Value.string s])[i]? = some r → ∀ j x, r[j]? = some x → m ⟨blk, off + i * 1 + j, none⟩ = some x) {k : Nat} (hk : k < l.length) :
    m ⟨blk, off + k, none⟩ = some (.string l[k]) := by
  have := hr k [Value.string l[k]] (by simp [hk]) 0 (.string l[k]) rfl
  simpa using this
/-- A list of texts in memory: none, or where they lie. -/
def LIn (w : World) (la : Option Addr) (ls : List ByteArray) : Prop := ls = [] ∨ ∃ blk off, la = some ⟨blk, off, none⟩ ∧ ∀ k (h : k < ls.length), w.cell? ⟨blk, off + k, none⟩ = some (.string ls[k])
theorem lin_of {w : World} {la : Option Addr} {lc : Nat} {ls : List ByteArray} (h : RowsAt w.cell? 1 (.slice la ls.length lc) (ls.map fun s => [Value.string s])) : LIn w la ls := by
  obtain ⟨a, c, h1, h2, h3, h4⟩ := h
  injection h1 with h1 _ _
  subst h1
  rcases h4 with h4 | ⟨blk, off, h5, h6⟩
  · exact Or.inl (by simpa using h4)
  · exact Or.inr ⟨blk, off, h5, fun k hk => str_cell h6 hk⟩
theorem LIn.below {w w' : World} {la : Option Addr} {ls : List ByteArray} (h : LIn w la ls) (hb : Below w.heap.size w w') : LIn w' la ls := by
  rcases h with h | ⟨blk, off, h1, h2⟩
  · exact Or.inl h
  · exact Or.inr ⟨blk, off, h1, fun k hk => sub_of_below hb _ _ (h2 k hk)⟩

/-- What is handed over, once: the texts of the list too. -/
structure VOk (w : World) (v : VV) (t : ByteArray) (la : Option Addr) (ls : List ByteArray) : Prop where
  text : t.data.toList = v.t
  rows : LIn w la ls
  list : lsL ls = v.l
theorem VIn.ok {w : World} {v : VV} {t : ByteArray} {la : Option Addr} {lc : Nat} {ls : List ByteArray} (h : VIn w.cell? v t la lc ls) : VOk w v t la ls := ⟨h.text, lin_of h.rows, h.list⟩
theorem VOk.below {w w' : World} {v : VV} {t : ByteArray} {la : Option Addr} {ls : List ByteArray} (h : VOk w v t la ls) (hb : Below w.heap.size w w') : VOk w' v t la ls := ⟨h.text, h.rows.below hb, h.list⟩
theorem VOk.shape {w : World} {v : VV} {t : ByteArray} {la : Option Addr} {ls : List ByteArray} (h : VOk w v t la ls) : shapeB v.k v.n t ls.length = shapeS v := by
  have e : decide (ls.length = 0) = v.l.isEmpty := by
    rw [← h.list]
    cases ls <;> rfl
  unfold shapeB shapeS
  rw [h.text, e]
/-- The box of a value. -/
theorem box4 {w : World} {n : Nat} {x0 x1 x2 x3 : Value} {t : TypeId} (h : Own w n #[x0, x1, x2, x3] t) :
    w.cell? ⟨n, 0, none⟩ = some x0 ∧ w.cell? ⟨n, 1, none⟩ = some x1 ∧ w.cell? ⟨n, 2, none⟩ = some x2 ∧ w.cell? ⟨n, 3, none⟩ = some x3 := ⟨h.cell 0, h.cell 1, h.cell 2, h.cell 3⟩

end Go.Proofs.YthnjgbjckggjhaaGreatDoor.value

