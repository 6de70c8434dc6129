/- The parts of a version, as the reference finds them. -/
import Derived.Test.YthnjgbjckggjhaaGreatDoorKValB
namespace Go.Proofs.YthnjgbjckggjhaaGreatDoor.value
open Go.RowKit Go.Proofs.YthnjgbjckggjhaaGreatDoor.text

/-- What is left to find at the second and at the third part. -/
def verK1 (x : Int) (l : List UInt8) : Option (Int × Int × Int) :=
  match cutD l with
  | none => none
  | some (b, c) => match cutD c with
    | some _ => none
    | none => match partN b, partN c with
      | some y, some z => some (x, y, z)
      | _, _ => none
def verK2 (x y : Int) (l : List UInt8) : Option (Int × Int × Int) :=
  match cutD l with
  | some _ => none
  | none => match partN l with
    | some z => some (x, y, z)
    | none => none
theorem k0_none {l : List UInt8} (h : cutD l = none) : verS l = none := by unfold verS; rw [h]
theorem k0_bad {l a r : List UInt8} (h : cutD l = some (a, r)) (hp : partN a = none) : verS l = none := by
  unfold verS
  rw [h]
  simp only
  cases cutD r with
  | none => rfl
  | some y =>
    obtain ⟨b, c⟩ := y
    simp only
    cases cutD c with
    | some z => rfl
    | none => simp only; rw [hp]
theorem k0_ok {l a r : List UInt8} {x : Int} (h : cutD l = some (a, r)) (hp : partN a = some x) : verS l = verK1 x r := by
  unfold verS verK1
  rw [h]
  simp only
  cases cutD r with
  | none => rfl
  | some y =>
    obtain ⟨b, c⟩ := y
    simp only
    cases cutD c with
    | some z => rfl
    | none =>
      simp only
      rw [hp]
      cases partN b <;> cases partN c <;> rfl
theorem k1_none {x : Int} {l : List UInt8} (h : cutD l = none) : verK1 x l = none := by unfold verK1; rw [h]
theorem k1_bad {x : Int} {l a r : List UInt8} (h : cutD l = some (a, r)) (hp : partN a = none) : verK1 x l = none := by
  unfold verK1
  rw [h]
  simp only
  cases cutD r with
  | some z => rfl
  | none => simp only; rw [hp]
theorem k1_ok {x y : Int} {l a r : List UInt8} (h : cutD l = some (a, r)) (hp : partN a = some y) : verK1 x l = verK2 x y r := by
  unfold verK1 verK2
  rw [h]
  simp only
  cases cutD r with
  | some z => rfl
  | none =>
    simp only
    rw [hp]
    cases partN r <;> rfl
theorem k2_some {x y : Int} {l a r : List UInt8} (h : cutD l = some (a, r)) : verK2 x y l = none := by unfold verK2; rw [h]
theorem k2_bad {x y : Int} {l : List UInt8} (h : cutD l = none) (hp : partN l = none) : verK2 x y l = none := by unfold verK2; rw [h, hp]
theorem k2_ok {x y z : Int} {l : List UInt8} (h : cutD l = none) (hp : partN l = some z) : verK2 x y l = some (x, y, z) := by unfold verK2; rw [h, hp]

/-- From p on, no period has been met before j. -/
def NoDot (s : ByteArray) (p j : Nat) : Prop := cutD (s.data.toList.drop p) = (cutD (s.data.toList.drop j)).map fun x => (((s.data.toList.drop p).take (j - p)) ++ x.1, x.2)
theorem noDot_start (s : ByteArray) (p : Nat) : NoDot s p p := by
  unfold NoDot
  rw [Nat.sub_self, List.take_zero]
  cases cutD (s.data.toList.drop p) <;> rfl
theorem noDot_step {s : ByteArray} {p j : Nat} (h : NoDot s p j) (hp : p ≤ j) (hj : j < s.size) (hc : s[j].toNat ≠ 46) : NoDot s p (j + 1) := by
  unfold NoDot at *
  rw [h, drop_byte s j hj, cutD, if_neg hc, Option.map_map]
  congr 1
  funext x
  have e : (s.data.toList.drop p).take (j + 1 - p) = (s.data.toList.drop p).take (j - p) ++ [s[j]] := by
    have h1 : j + 1 - p = (j - p) + 1 := by omega
    rw [h1, List.take_succ_eq_append_getElem (by simp; omega)]
    congr 2
    rw [List.getElem_drop]
    have h2 : p + (j - p) = j := by omega
    simp only [h2]
    rfl
  rw [e]
  simp
theorem piece_list (s : ByteArray) (p j : Nat) : (s.extract p j).data.toList = (s.data.toList.drop p).take (j - p) := by
  simp only [ByteArray.data_extract, Array.toList_extract, List.extract_eq_take_drop]
theorem noDot_hit {s : ByteArray} {p j : Nat} (h : NoDot s p j) (hj : j < s.size) (hc : s[j].toNat = 46) : cutD (s.data.toList.drop p) = some ((s.extract p j).data.toList, s.data.toList.drop (j + 1)) := by
  unfold NoDot at h
  rw [h, drop_byte s j hj, cutD, if_pos hc, piece_list]
  simp
theorem noDot_end {s : ByteArray} {p j : Nat} (h : NoDot s p j) (hj : s.size ≤ j) : cutD (s.data.toList.drop p) = none ∧ (s.extract p j).data.toList = s.data.toList.drop p := by
  unfold NoDot at h
  have hd : s.data.toList.drop j = [] := List.drop_eq_nil_of_le (by simp; omega)
  rw [hd] at h
  refine ⟨h, ?_⟩
  rw [piece_list]
  exact List.take_of_length_le (by simp; omega)
theorem piece_size (s : ByteArray) (p j : Nat) : (s.extract p j).size ≤ s.size := by rw [ByteArray.size_extract]; omega

/-- What the outer loop knows at the head of round k: the boxes, and what is left to find. -/
def RefRel (s : ByteArray) (w wr : World) (k p : Nat) (x y z : Int) : Prop :=
  Own wr w.heap.size #[.int .i64 0, .int .i64 0, .int .i64 0] 102 ∧ Own wr (w.heap.size + 1) #[.int .i64 x, .int .i64 y, .int .i64 z] 102 ∧ Below w.heap.size w wr ∧
  (k = 0 → p = 0) ∧ (k = 1 → verS s.data.toList = verK1 x (s.data.toList.drop p)) ∧ (k = 2 → verS s.data.toList = verK2 x y (s.data.toList.drop p)) ∧ (k = 3 → verS s.data.toList = some (x, y, z))

end Go.Proofs.YthnjgbjckggjhaaGreatDoor.value

