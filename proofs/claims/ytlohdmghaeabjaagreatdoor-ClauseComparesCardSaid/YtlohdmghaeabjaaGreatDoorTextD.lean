/- The quoted form of a text: the program's, by a builder. -/
import Derived.Test.YtlohdmghaeabjaaGreatDoorTextC
import Derived.Test.YtlohdmghaeabjaaGreatDoorTextW
namespace Go.Proofs.YtlohdmghaeabjaaGreatDoor.text
open Go.RowKit

def esc (c : UInt8) : List UInt8 := if c.toNat = 34 ∨ c.toNat = 92 then [92, c] else [c]
def escL (l : List UInt8) : List UInt8 := l.flatMap esc
def quoteS (l : List UInt8) : List UInt8 := 34 :: (escL l ++ [34])
/-- What both Quote give. -/
def quoteV (l : List UInt8) : Value := if validS l then .tuple #[.string ⟨(quoteS l).toArray⟩, .int .i64 0] else .tuple #[.string ⟨#[]⟩, .int .i64 2]

theorem esc_len (c : UInt8) : (esc c).length ≤ 2 := by unfold esc; split <;> simp
theorem escL_len : ∀ l : List UInt8, (escL l).length ≤ 2 * l.length
  | [] => by simp [escL]
  | c :: r => by have := escL_len r; have := esc_len c; simp only [escL, List.flatMap_cons, List.length_append, List.length_cons] at *; omega
theorem take_byte (s : ByteArray) (k : Nat) (h : k < s.size) : s.data.toList.take (k + 1) = s.data.toList.take k ++ [s[k]] := by
  rw [List.take_succ_eq_append_getElem (by simpa using h)]; rfl
theorem escL_take (s : ByteArray) (k : Nat) (h : k < s.size) : escL (s.data.toList.take (k + 1)) = escL (s.data.toList.take k) ++ esc s[k] := by
  rw [take_byte s k h]; simp [escL]
theorem valid_size {l : List UInt8} (h : validS l = true) : l.length ≤ 200 := by
  unfold validS at h
  simp at h
  exact h.1.1

theorem esc_two {c : UInt8} (h : c.toNat = 34 ∨ c.toNat = 92) : esc c = [92, c] := by unfold esc; rw [if_pos h]
theorem esc_one {c : UInt8} (h : c.toNat ≠ 34) (h2 : c.toNat ≠ 92) : esc c = [c] := by unfold esc; rw [if_neg (by omega)]
theorem quote_len (s : ByteArray) (k : Nat) (h : k ≤ s.size) (hs : s.size ≤ 200) : (34 :: escL (s.data.toList.take k)).length ≤ 401 := by
  have h1 := escL_len (s.data.toList.take k)
  have h2 : (s.data.toList.take k).length ≤ k := by simp [List.length_take]; omega
  simp only [List.length_cons]
  omega
theorem quote_bad {l : List UInt8} (h : validS l = false) : Ending.returned (.tuple #[.string ⟨#[]⟩, .int .i64 2]) = .returned (quoteV l) := by rw [quoteV, h]; rfl
theorem quote_good {l L : List UInt8} (h : validS l = true) (e : 34 :: escL l = L) : Ending.returned (.tuple #[.string ⟨(L ++ [34]).toArray⟩, .int .i64 0]) = .returned (quoteV l) := by rw [quoteV, h, ← e]; rfl

end Go.Proofs.YtlohdmghaeabjaaGreatDoor.text

