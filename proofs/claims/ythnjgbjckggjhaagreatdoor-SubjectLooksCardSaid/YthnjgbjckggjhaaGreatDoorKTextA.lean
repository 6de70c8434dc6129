/- Which texts are keys: the reference's Word, Reserved and Key, and the program's Key. -/
import Derived.Test.YthnjgbjckggjhaaGreatDoorChecked
import Derived.Test.YthnjgbjckggjhaaGreatDoorKJ2
import Derived.WalkKit
import Derived.WalkSpells
import Derived.WalkLawsBesides
import Derived.Deep.QuietTactic
import Derived.BigQuiet
import Derived.Lib.Hide
import Derived.LoopTactic
import Derived.Outline
namespace Go.Proofs.YthnjgbjckggjhaaGreatDoor.text
open Go.RowKit

/-- May a byte stand in a word: as the first one, later. -/
def okB (first : Bool) (c : Int) : Bool := decide (97 ≤ c ∧ c ≤ 122) || (!first && (decide (48 ≤ c ∧ c ≤ 57) || c == 45 || c == 95))
def wordL : Bool → List UInt8 → Bool
  | _, [] => true
  | f, c :: r => okB f c.toNat && wordL false r
def wordS (l : List UInt8) : Bool := wordL true l && decide (0 < l.length)

/-- The classes of bytes in a word, each with its answer. -/
theorem classes (k : Nat) (c : Int) :
    (97 ≤ c ∧ c ≤ 122 ∧ Hid (okB (k == 0) c = true)) ∨ (k = 0 ∧ c < 97 ∧ Hid (okB (k == 0) c = false)) ∨ (0 < k ∧ 48 ≤ c ∧ c ≤ 57 ∧ Hid (okB (k == 0) c = true)) ∨ (0 < k ∧ 45 ≤ c ∧ c ≤ 45 ∧ Hid (okB (k == 0) c = true)) ∨
    (0 < k ∧ 95 ≤ c ∧ c ≤ 95 ∧ Hid (okB (k == 0) c = true)) ∨ (0 < k ∧ c < 45 ∧ Hid (okB (k == 0) c = false)) ∨ (0 < k ∧ 45 < c ∧ c < 48 ∧ Hid (okB (k == 0) c = false)) ∨ (0 < k ∧ 57 < c ∧ c < 95 ∧ Hid (okB (k == 0) c = false)) ∨
    (0 < k ∧ 95 < c ∧ c < 97 ∧ Hid (okB (k == 0) c = false)) ∨ (122 < c ∧ Hid (okB (k == 0) c = false)) := by
  have key : okB (k == 0) c = true ↔ (97 ≤ c ∧ c ≤ 122) ∨ (k ≠ 0 ∧ ((48 ≤ c ∧ c ≤ 57) ∨ c = 45 ∨ c = 95)) := by
    unfold okB
    by_cases hk : k = 0 <;> simp [hk, or_assoc]
  have yes : ((97 ≤ c ∧ c ≤ 122) ∨ (k ≠ 0 ∧ ((48 ≤ c ∧ c ≤ 57) ∨ c = 45 ∨ c = 95))) → Hid (okB (k == 0) c = true) := fun h => key.2 h
  have no : ¬ ((97 ≤ c ∧ c ≤ 122) ∨ (k ≠ 0 ∧ ((48 ≤ c ∧ c ≤ 57) ∨ c = 45 ∨ c = 95))) → Hid (okB (k == 0) c = false) := fun h => by
    cases ho : okB (k == 0) c with
    | false => rfl
    | true => exact absurd (key.1 ho) h
  have hc : c < 45 ∨ c = 45 ∨ (45 < c ∧ c < 48) ∨ (48 ≤ c ∧ c ≤ 57) ∨ (57 < c ∧ c < 95) ∨ c = 95 ∨ (95 < c ∧ c < 97) ∨ (97 ≤ c ∧ c ≤ 122) ∨ 122 < c := by omega
  clear key
  rcases hc with h | h | h | h | h | h | h | h | h
  · rcases Nat.eq_zero_or_pos k with hk | hk
    · exact Or.inr (Or.inl ⟨hk, by omega, no (by omega)⟩)
    · exact Or.inr (Or.inr (Or.inr (Or.inr (Or.inr (Or.inl ⟨hk, h, no (by omega)⟩)))))
  · rcases Nat.eq_zero_or_pos k with hk | hk
    · exact Or.inr (Or.inl ⟨hk, by omega, no (by omega)⟩)
    · exact Or.inr (Or.inr (Or.inr (Or.inl ⟨hk, by omega, by omega, yes (by omega)⟩)))
  · rcases Nat.eq_zero_or_pos k with hk | hk
    · exact Or.inr (Or.inl ⟨hk, by omega, no (by omega)⟩)
    · exact Or.inr (Or.inr (Or.inr (Or.inr (Or.inr (Or.inr (Or.inl ⟨hk, h.1, h.2, no (by omega)⟩))))))
  · rcases Nat.eq_zero_or_pos k with hk | hk
    · exact Or.inr (Or.inl ⟨hk, by omega, no (by omega)⟩)
    · exact Or.inr (Or.inr (Or.inl ⟨hk, h.1, h.2, yes (by omega)⟩))
  · rcases Nat.eq_zero_or_pos k with hk | hk
    · exact Or.inr (Or.inl ⟨hk, by omega, no (by omega)⟩)
    · exact Or.inr (Or.inr (Or.inr (Or.inr (Or.inr (Or.inr (Or.inr (Or.inl ⟨hk, h.1, h.2, no (by omega)⟩)))))))
  · rcases Nat.eq_zero_or_pos k with hk | hk
    · exact Or.inr (Or.inl ⟨hk, by omega, no (by omega)⟩)
    · exact Or.inr (Or.inr (Or.inr (Or.inr (Or.inl ⟨hk, by omega, by omega, yes (by omega)⟩))))
  · rcases Nat.eq_zero_or_pos k with hk | hk
    · exact Or.inr (Or.inl ⟨hk, by omega, no (by omega)⟩)
    · exact Or.inr (Or.inr (Or.inr (Or.inr (Or.inr (Or.inr (Or.inr (Or.inr (Or.inl ⟨hk, h.1, h.2, no (by omega)⟩))))))))
  · exact Or.inl ⟨h.1, h.2, yes (by omega)⟩
  · exact Or.inr (Or.inr (Or.inr (Or.inr (Or.inr (Or.inr (Or.inr (Or.inr (Or.inr ⟨h, no (by omega)⟩))))))))

theorem word_bad {s : ByteArray} {k : Nat} (h : k < s.size) (ho : okB (k == 0) s[k].toNat = false) (T : wordL (k == 0) (s.data.toList.drop k) = wordL true s.data.toList) : wordS s.data.toList = false := by
  unfold wordS
  rw [← T, drop_byte s k h, wordL, ho]
  rfl
theorem word_good {s : ByteArray} {k : Nat} (h : k < s.size) (ho : okB (k == 0) s[k].toNat = true) (T : wordL (k == 0) (s.data.toList.drop k) = wordL true s.data.toList) : wordL (k + 1 == 0) (s.data.toList.drop (k + 1)) = wordL true s.data.toList := by
  rw [← T, drop_byte s k h, wordL, ho]
  rfl
theorem word_end {s : ByteArray} {k : Nat} (h : ¬ k < s.size) (hk : k ≤ s.size) (T : wordL (k == 0) (s.data.toList.drop k) = wordL true s.data.toList) : wordS s.data.toList = decide (0 < s.size) := by
  unfold wordS
  rw [← T, List.drop_eq_nil_of_le (by simp; omega), wordL]
  simp

end Go.Proofs.YthnjgbjckggjhaaGreatDoor.text

