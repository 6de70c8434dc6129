/- The reference's Number: the decimal form of any number. -/
import Derived.Test.YtlohdmghaeabjaaGreatDoorTextZ
import Derived.Laws.Runes
import Derived.Lib.ItoaNum
namespace Go.Proofs.YtlohdmghaeabjaaGreatDoor.text
open Go.RowKit

theorem encode_small {r : Int} (h0 : 0 ≤ r) (h : r < 128) : Utf8.encode r = ⟨#[UInt8.ofNat r.toNat]⟩ := by
  unfold Utf8.encode
  have hv : Utf8.valid r = true := by
    rw [validRune_eq]; unfold validRune; simp; omega
  simp only [hv, if_true]
  rw [if_pos (by omega)]

/-- The digits of a number, none for 0. -/
def digPre (u : Nat) : List UInt8 := if u = 0 then [] else Lib.decDigits u
theorem digPre_step {u : Nat} (h : u ≠ 0) : digPre u = digPre (u / 10) ++ [UInt8.ofNat (48 + u % 10)] := by
  unfold digPre
  rw [if_neg h]
  by_cases h10 : u < 10
  · rw [Lib.decDigits, dif_pos h10, if_pos (by omega), Nat.mod_eq_of_lt h10]; rfl
  · rw [Lib.decDigits, dif_neg h10, if_neg (by omega)]

theorem Lib.pow_le_of_nDigits (u : Nat) (h : u ≠ 0) : 10 ^ (Lib.nDigits u - 1) ≤ u := by
  induction u using Nat.strongRecOn with
  | _ u ih =>
    by_cases h10 : u < 10
    · rw [Lib.nDigits_small h10]; simp; omega
    · rw [Lib.nDigits_big h10]
      have h1 := ih (u / 10) (by omega) (by omega)
      have h2 := Lib.nDigits_pos (u / 10)
      have h3 : Lib.nDigits (u / 10) + 1 - 1 = (Lib.nDigits (u / 10) - 1) + 1 := by omega
      rw [h3, Nat.pow_succ]
      omega
/-- What holds at the head of the loop: the digits that are left, and those that are there. -/
def NumRel (n : Int) (m : Int) (s : ByteArray) : Prop := digPre m.natAbs ++ s.data.toList = digPre n.natAbs
theorem num_start (n : Int) : NumRel n n ⟨#[]⟩ := by unfold NumRel; simp
theorem num_step {n m d : Int} {s : ByteArray} (hm : m ≠ 0) (hd : d = ((m.natAbs % 10 : Nat) : Int)) (h : NumRel n m s) : NumRel n (Int.tdiv m 10) (Utf8.encode (48 + d) ++ s) := by
  unfold NumRel at *
  have e1 : (Int.tdiv m 10).natAbs = m.natAbs / 10 := by
    rw [Int.natAbs_tdiv]; rfl
  rw [e1, ← h, digPre_step (u := m.natAbs) (by omega), encode_small (by omega) (by omega)]
  have e2 : (48 + d).toNat = 48 + m.natAbs % 10 := by omega
  rw [e2]
  simp
theorem num_end {n : Int} {s : ByteArray} (hn : n ≠ 0) (h : NumRel n 0 s) : s.data.toList = Lib.decDigits n.natAbs := by
  unfold NumRel at h
  have e0 : digPre (Int.natAbs 0) = [] := rfl
  rw [e0, List.nil_append] at h
  rw [h]
  unfold digPre
  rw [if_neg (by omega)]
theorem num_neg {n : Int} {s : ByteArray} (hn : n < 0) (h : NumRel n 0 s) : (⟨#[45]⟩ ++ s : ByteArray) = ⟨(Lib.itoa n).toArray⟩ := by
  have := num_end (by omega) h
  apply ByteArray.ext
  apply Array.toList_inj.1
  unfold Lib.itoa
  rw [if_pos hn]
  simp [this]
theorem num_pos {n : Int} {s : ByteArray} (hn : 0 < n) (h : NumRel n 0 s) : s = ⟨(Lib.itoa n).toArray⟩ := by
  have := num_end (by omega) h
  apply ByteArray.ext
  apply Array.toList_inj.1
  unfold Lib.itoa
  rw [if_neg (by omega), this]
  have e : n.natAbs = n.toNat := by omega
  rw [e]

theorem itoa_zero : Lib.itoa 0 = [48] := by unfold Lib.itoa; rw [if_neg (by omega), Lib.decDigits, dif_pos (by decide)]; rfl
theorem digPre_len {u : Nat} (h : u ≤ 9223372036854775808) : (digPre u).length ≤ 19 := by
  unfold digPre
  split
  · simp
  · rename_i h0
    rw [Lib.decDigits_length]
    rcases Nat.lt_or_ge 19 (Lib.nDigits u) with hl | hl
    · exfalso
      have := Lib.pow_le_of_nDigits u h0
      have h2 : 10 ^ 19 ≤ 10 ^ (Lib.nDigits u - 1) := Nat.pow_le_pow_right (by omega) (by omega)
      have h3 : (10 : Nat) ^ 19 = 10000000000000000000 := by decide
      omega
    · exact hl
theorem num_size {n m : Int} {s : ByteArray} (h : NumRel n m s) (hn : n.natAbs ≤ 9223372036854775808) : s.size ≤ 19 := by
  have h1 := congrArg List.length h
  have h2 := digPre_len hn
  simp at h1
  omega
theorem encode_size {r : Int} (h0 : 0 ≤ r) (h : r < 128) : (Utf8.encode r).size ≤ 1 := by rw [encode_small h0 h]; exact Nat.le_refl 1
theorem ret_str {a b : ByteArray} (h : a = b) : Ending.returned (.string a) = .returned (.string b) := by rw [h]
theorem tdiv_abs (m : Int) : (Int.tdiv m 10).natAbs = m.natAbs / 10 := by rw [Int.natAbs_tdiv]; rfl
theorem tmod_neg {m : Int} (h : m < 0) : -(Int.tmod m 10) = ((m.natAbs % 10 : Nat) : Int) := by
  have : Int.tmod m 10 = -(((-m) % 10 : Int)) := by
    have h1 : Int.tmod m 10 = -Int.tmod (-m) 10 := by rw [Int.neg_tmod]; simp
    rw [h1, Int.tmod_eq_emod_of_nonneg (by omega)]
  omega

end Go.Proofs.YtlohdmghaeabjaaGreatDoor.text

