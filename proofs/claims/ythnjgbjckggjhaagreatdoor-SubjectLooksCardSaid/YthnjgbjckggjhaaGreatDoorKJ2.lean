/- Small words that all walks over texts share. The reference's Number: the decimal form of any number. The reference's ParseNumber: which number a text is, or the error. Versions, values and their order, said plainly: what both texts compute. No program in sight. -/
import Derived.Test.YthnjgbjckggjhaaGreatDoorChecked
import Derived.Test.YthnjgbjckggjhaaGreatDoorKJ1
import Derived.WalkKit
import Derived.WalkSpells
import Derived.WalkLawsBesides
import Derived.Deep.QuietTactic
import Derived.BigQuiet
import Derived.Lib.Hide
import Derived.LoopTactic
import Derived.Outline
import Derived.Laws.Runes
import Derived.Lib.ItoaNum
import Derived.Lib.Split
import Derived.Lib.IndexMore
namespace Go.Proofs.YthnjgbjckggjhaaGreatDoor.text
open Go.RowKit

theorem ret_int {k : IntKind} {a b : Int} (h : a = b) : Ending.returned (.int k a) = .returned (.int k b) := by rw [h]
theorem ret_bool {a b : Bool} (h : a = b) : Ending.returned (.bool a) = .returned (.bool b) := by rw [h]

theorem drop_byte (s : ByteArray) (k : Nat) (h : k < s.size) : s.data.toList.drop k = s[k] :: s.data.toList.drop (k + 1) := by
  rw [List.drop_eq_getElem_cons (by simpa using h)]; rfl

end Go.Proofs.YthnjgbjckggjhaaGreatDoor.text

namespace Go.Proofs.YthnjgbjckggjhaaGreatDoor.text
open Go.RowKit

theorem encode_small {r : Int} (h0 : 0 ≤ r) (h : r < 128) : Utf8.encode r = ⟨#[UInt8.ofNat r.toNat]⟩ := by
  unfold Utf8.encode
  have hv : Utf8.valid r = true := by
    rw [validRune_eq]; unfold validRune; simp; omega
  simp only [hv, if_true]
  rw [if_pos (by omega)]

/-- The digits of a number, none for 0. -/
def digPre (u : Nat) : List UInt8 := if u = 0 then [] else Lib.decDigits u
theorem digPre_step {u : Nat} (h : u ≠ 0) : digPre u = digPre (u / 10) ++ [UInt8.ofNat (48 + u % 10)] := by
  unfold digPre
  rw [if_neg h]
  by_cases h10 : u < 10
  · rw [Lib.decDigits, dif_pos h10, if_pos (by omega), Nat.mod_eq_of_lt h10]; rfl
  · rw [Lib.decDigits, dif_neg h10, if_neg (by omega)]

theorem Lib.pow_le_of_nDigits (u : Nat) (h : u ≠ 0) : 10 ^ (Lib.nDigits u - 1) ≤ u := by
  induction u using Nat.strongRecOn with
  | _ u ih =>
    by_cases h10 : u < 10
    · rw [Lib.nDigits_small h10]; simp; omega
    · rw [Lib.nDigits_big h10]
      have h1 := ih (u / 10) (by omega) (by omega)
      have h2 := Lib.nDigits_pos (u / 10)
      have h3 : Lib.nDigits (u / 10) + 1 - 1 = (Lib.nDigits (u / 10) - 1) + 1 := by omega
      rw [h3, Nat.pow_succ]
      omega
/-- What holds at the head of the loop: the digits that are left, and those that are there. -/
def NumRel (n : Int) (m : Int) (s : ByteArray) : Prop := digPre m.natAbs ++ s.data.toList = digPre n.natAbs
theorem num_start (n : Int) : NumRel n n ⟨#[]⟩ := by unfold NumRel; simp
theorem num_step {n m d : Int} {s : ByteArray} (hm : m ≠ 0) (hd : d = ((m.natAbs % 10 : Nat) : Int)) (h : NumRel n m s) : NumRel n (Int.tdiv m 10) (Utf8.encode (48 + d) ++ s) := by
  unfold NumRel at *
  have e1 : (Int.tdiv m 10).natAbs = m.natAbs / 10 := by
    rw [Int.natAbs_tdiv]; rfl
  rw [e1, ← h, digPre_step (u := m.natAbs) (by omega), encode_small (by omega) (by omega)]
  have e2 : (48 + d).toNat = 48 + m.natAbs % 10 := by omega
  rw [e2]
  simp
theorem num_end {n : Int} {s : ByteArray} (hn : n ≠ 0) (h : NumRel n 0 s) : s.data.toList = Lib.decDigits n.natAbs := by
  unfold NumRel at h
  have e0 : digPre (Int.natAbs 0) = [] := rfl
  rw [e0, List.nil_append] at h
  rw [h]
  unfold digPre
  rw [if_neg (by omega)]
theorem num_neg {n : Int} {s : ByteArray} (hn : n < 0) (h : NumRel n 0 s) : (⟨#[45]⟩ ++ s : ByteArray) = ⟨(Lib.itoa n).toArray⟩ := by
  have := num_end (by omega) h
  apply ByteArray.ext
  apply Array.toList_inj.1
  unfold Lib.itoa
  rw [if_pos hn]
  simp [this]
theorem num_pos {n : Int} {s : ByteArray} (hn : 0 < n) (h : NumRel n 0 s) : s = ⟨(Lib.itoa n).toArray⟩ := by
  have := num_end (by omega) h
  apply ByteArray.ext
  apply Array.toList_inj.1
  unfold Lib.itoa
  rw [if_neg (by omega), this]
  have e : n.natAbs = n.toNat := by omega
  rw [e]

theorem itoa_zero : Lib.itoa 0 = [48] := by unfold Lib.itoa; rw [if_neg (by omega), Lib.decDigits, dif_pos (by decide)]; rfl
theorem digPre_len {u : Nat} (h : u ≤ 9223372036854775808) : (digPre u).length ≤ 19 := by
  unfold digPre
  split
  · simp
  · rename_i h0
    rw [Lib.decDigits_length]
    rcases Nat.lt_or_ge 19 (Lib.nDigits u) with hl | hl
    · exfalso
      have := Lib.pow_le_of_nDigits u h0
      have h2 : 10 ^ 19 ≤ 10 ^ (Lib.nDigits u - 1) := Nat.pow_le_pow_right (by omega) (by omega)
      have h3 : (10 : Nat) ^ 19 = 10000000000000000000 := by decide
      omega
    · exact hl
theorem num_size {n m : Int} {s : ByteArray} (h : NumRel n m s) (hn : n.natAbs ≤ 9223372036854775808) : s.size ≤ 19 := by
  have h1 := congrArg List.length h
  have h2 := digPre_len hn
  simp at h1
  omega
theorem encode_size {r : Int} (h0 : 0 ≤ r) (h : r < 128) : (Utf8.encode r).size ≤ 1 := by rw [encode_small h0 h]; exact Nat.le_refl 1
theorem ret_str {a b : ByteArray} (h : a = b) : Ending.returned (.string a) = .returned (.string b) := by rw [h]
theorem tdiv_abs (m : Int) : (Int.tdiv m 10).natAbs = m.natAbs / 10 := by rw [Int.natAbs_tdiv]; rfl
theorem tmod_neg {m : Int} (h : m < 0) : -(Int.tmod m 10) = ((m.natAbs % 10 : Nat) : Int) := by
  have : Int.tmod m 10 = -(((-m) % 10 : Int)) := by
    have h1 : Int.tmod m 10 = -Int.tmod (-m) 10 := by rw [Int.neg_tmod]; simp
    rw [h1, Int.tmod_eq_emod_of_nonneg (by omega)]
  omega

end Go.Proofs.YthnjgbjckggjhaaGreatDoor.text

namespace Go.Proofs.YthnjgbjckggjhaaGreatDoor.text
open Go.RowKit

def digB (c : UInt8) : Bool := decide (48 ≤ c.toNat) && decide (c.toNat ≤ 57)
/-- What stands behind the sign. -/
def digsOf : List UInt8 → List UInt8
  | [] => []
  | c :: r => if c.toNat = 45 then r else c :: r
def valFrom (a : Nat) (l : List UInt8) : Nat := l.foldl (fun a c => 10 * a + (c.toNat - 48)) a
def parseS (l : List UInt8) : Int × Int :=
  if digsOf l = [] ∨ (digsOf l).all digB = false ∨ ((digsOf l).head? = some 48 ∧ l ≠ [48]) then (0, 1)
  else if 13 < (digsOf l).length ∨ 1099511627776 < valFrom 0 (digsOf l) then (0, 3)
  else (if (digsOf l).length < l.length then -(valFrom 0 (digsOf l) : Int) else (valFrom 0 (digsOf l) : Int), 0)
def parseV (l : List UInt8) : Value := .tuple #[.int .i64 (parseS l).1, .int .i64 (parseS l).2]

theorem valFrom_snoc (a : Nat) (l : List UInt8) (c : UInt8) : valFrom a (l ++ [c]) = 10 * valFrom a l + (c.toNat - 48) := by
  unfold valFrom; rw [List.foldl_append]; rfl
theorem valFrom_lt : ∀ (l : List UInt8) (a : Nat), l.all digB = true → valFrom a l < (a + 1) * 10 ^ l.length
  | [], a, _ => by simp [valFrom]
  | c :: r, a, h => by
    rw [List.all_cons, Bool.and_eq_true] at h
    have h1 := valFrom_lt r (10 * a + (c.toNat - 48)) h.2
    have hc : c.toNat - 48 ≤ 9 := by have := h.1; unfold digB at this; simp at this; omega
    have e : valFrom a (c :: r) = valFrom (10 * a + (c.toNat - 48)) r := rfl
    rw [e, List.length_cons, Nat.pow_succ]
    have h2 : (10 * a + (c.toNat - 48) + 1) * 10 ^ r.length ≤ (10 * (a + 1)) * 10 ^ r.length := Nat.mul_le_mul_right _ (by omega)
    have h3 : (10 * (a + 1)) * 10 ^ r.length = (a + 1) * (10 ^ r.length * 10) := by rw [Nat.mul_comm 10 (a + 1), Nat.mul_assoc, Nat.mul_comm 10]
    omega
theorem valFrom_ge : ∀ (l : List UInt8) (a : Nat), a * 10 ^ l.length ≤ valFrom a l
  | [], a => by simp [valFrom]
  | c :: r, a => by
    have h1 := valFrom_ge r (10 * a + (c.toNat - 48))
    have e : valFrom a (c :: r) = valFrom (10 * a + (c.toNat - 48)) r := rfl
    rw [e, List.length_cons, Nat.pow_succ]
    have h2 : (10 * a) * 10 ^ r.length ≤ (10 * a + (c.toNat - 48)) * 10 ^ r.length := Nat.mul_le_mul_right _ (by omega)
    have h3 : a * (10 ^ r.length * 10) = (10 * a) * 10 ^ r.length := by rw [Nat.mul_comm 10 a, Nat.mul_assoc, Nat.mul_comm 10]
    omega

theorem take_byte' (s : ByteArray) (k : Nat) (h : k < s.size) : s.data.toList.take (k + 1) = s.data.toList.take k ++ [s[k]] := by
  rw [List.take_succ_eq_append_getElem (by simpa using h)]; rfl
theorem all_take {l : List UInt8} {p : UInt8 → Bool} (h : l.all p = true) (k : Nat) : (l.take k).all p = true := by
  rw [List.all_eq_true] at *
  exact fun x hx => h x (List.mem_of_mem_take hx)
theorem all_at {s : ByteArray} {p : UInt8 → Bool} (h : s.data.toList.all p = true) {k : Nat} (hk : k < s.size) : p s[k] = true := by
  rw [List.all_eq_true] at h
  exact h _ (Array.getElem_mem_toList (xs := s.data) hk)

/-- The digits of a text t that is what stands behind the sign of s. -/
def Digs (s t : ByteArray) : Prop := t.data.toList = digsOf s.data.toList
theorem digs_none {s : ByteArray} (h : s.size = 0) : Digs s s := by
  have e : s.data.toList = [] := List.eq_nil_of_length_eq_zero (by simpa using h)
  unfold Digs; rw [e]; rfl
theorem cons_byte {s : ByteArray} (h : 0 < s.size) : s.data.toList = s[0] :: s.data.toList.drop 1 := by
  have := drop_byte s 0 h
  simpa using this
theorem digs_minus {s : ByteArray} (h : 0 < s.size) (hc : s[0].toNat = 45) : Digs s (s.extract 1 s.size) := by
  unfold Digs
  rw [cons_byte h, digsOf, if_pos hc]
  simp only [ByteArray.data_extract, Array.toList_extract, List.drop_one, List.extract_eq_take_drop]
  exact List.take_of_length_le (by simp)
theorem digs_plain {s : ByteArray} (h : 0 < s.size) (hc : s[0].toNat ≠ 45) : Digs s s := by
  unfold Digs
  conv => rhs; rw [cons_byte h, digsOf, if_neg hc, ← cons_byte h]

theorem ret_two {a b : Int} {l : List UInt8} (h : parseS l = (a, b)) : Ending.returned (.tuple #[.int .i64 a, .int .i64 b]) = .returned (parseV l) := by
  unfold parseV; rw [h]
theorem head_byte {s : ByteArray} (h : 0 < s.size) : s.data.toList.head? = some s[0] := by rw [cons_byte h]; rfl

theorem parse_empty {s t : ByteArray} (D : Digs s t) (h : t.size = 0) : parseS s.data.toList = (0, 1) := by
  unfold parseS
  have e : t.data.toList = [] := List.eq_nil_of_length_eq_zero (by simpa using h)
  rw [if_pos (Or.inl (by rw [← D, e]))]
theorem parse_bad {s t : ByteArray} (D : Digs s t) {k : Nat} (h : k < t.size) (hb : digB t[k] = false) : parseS s.data.toList = (0, 1) := by
  unfold parseS
  rw [if_pos (Or.inr (Or.inl _))]
  rw [← D]
  cases ha : t.data.toList.all digB with
  | false => rfl
  | true => rw [all_at ha h] at hb; cases hb
theorem parse_zero {s t : ByteArray} (D : Digs s t) (h : 0 < t.size) (h0 : t[0].toNat = 48) (hs : ¬ s.data.toList = [48]) : parseS s.data.toList = (0, 1) := by
  unfold parseS
  have h2 : (digsOf s.data.toList).head? = some 48 := by
    rw [← D, head_byte h]
    exact congrArg some (UInt8.toNat_inj.1 h0)
  rw [if_pos (Or.inr (Or.inr ⟨h2, hs⟩))]
theorem parse_pass {s t : ByteArray} (D : Digs s t) (h : 0 < t.size) (ha : t.data.toList.all digB = true) (h0 : t[0].toNat = 48 → s.data.toList = [48]) :
    ¬ (digsOf s.data.toList = [] ∨ (digsOf s.data.toList).all digB = false ∨ ((digsOf s.data.toList).head? = some 48 ∧ s.data.toList ≠ [48])) := by
  rw [← D, ha, head_byte h]
  rintro (h1 | h1 | ⟨h1, h2⟩)
  · rw [cons_byte h] at h1; cases h1
  · cases h1
  · injection h1 with h1
    exact h2 (h0 (by rw [h1]; decide))
theorem parse_long {s t : ByteArray} (D : Digs s t) (h : 0 < t.size) (ha : t.data.toList.all digB = true) (h0 : t[0].toNat = 48 → s.data.toList = [48]) (hl : 13 < t.size) : parseS s.data.toList = (0, 3) := by
  unfold parseS
  rw [if_neg (parse_pass D h ha h0), if_pos (Or.inl (by rw [← D]; simpa using hl))]
theorem parse_great {s t : ByteArray} (D : Digs s t) (h : 0 < t.size) (ha : t.data.toList.all digB = true) (h0 : t[0].toNat = 48 → s.data.toList = [48]) (hv : 1099511627776 < valFrom 0 t.data.toList) : parseS s.data.toList = (0, 3) := by
  unfold parseS
  rw [if_neg (parse_pass D h ha h0), if_pos (Or.inr (by rw [← D]; exact hv))]
theorem parse_ok {s t : ByteArray} (D : Digs s t) (h : 0 < t.size) (ha : t.data.toList.all digB = true) (h0 : t[0].toNat = 48 → s.data.toList = [48]) (hl : t.size ≤ 13) (hv : valFrom 0 t.data.toList ≤ 1099511627776) :
    parseS s.data.toList = (if t.size < s.size then -(valFrom 0 t.data.toList : Int) else (valFrom 0 t.data.toList : Int), 0) := by
  unfold parseS
  rw [if_neg (parse_pass D h ha h0), ← D, if_neg (by simp; omega)]
  simp

theorem dig_go {s : ByteArray} {p : UInt8 → Bool} {k : Nat} (h : k < s.size) (ho : p s[k] = true) (T : (s.data.toList.drop k).all p = s.data.toList.all p) : (s.data.toList.drop (k + 1)).all p = s.data.toList.all p := by
  rw [← T, drop_byte s k h, List.all_cons, ho]; rfl
theorem dig_end {s : ByteArray} {p : UInt8 → Bool} {k : Nat} (h : ¬ k < s.size) (T : (s.data.toList.drop k).all p = s.data.toList.all p) : s.data.toList.all p = true := by
  rw [← T, List.drop_eq_nil_of_le (by simp; omega)]; rfl
theorem digB_yes {c : UInt8} (h0 : 48 ≤ c.toNat) (h1 : c.toNat ≤ 57) : digB c = true := by unfold digB; simp [h0, h1]
theorem digB_low {c : UInt8} (h : c.toNat < 48) : digB c = false := by unfold digB; simp; omega
theorem digB_high {c : UInt8} (h : 57 < c.toNat) : digB c = false := by unfold digB; simp; omega
theorem digB_bd {c : UInt8} (h : digB c = true) : 48 ≤ c.toNat ∧ c.toNat ≤ 57 := by unfold digB at h; simpa using h
theorem val_take {s : ByteArray} {k : Nat} (h : k < s.size) : valFrom 0 (s.data.toList.take (k + 1)) = 10 * valFrom 0 (s.data.toList.take k) + (s[k].toNat - 48) := by
  rw [take_byte' s k h, valFrom_snoc]
theorem val_bound {s : ByteArray} (ha : s.data.toList.all digB = true) {k : Nat} (hk : k ≤ 13) : valFrom 0 (s.data.toList.take k) ≤ 10000000000000 := by
  have h1 := valFrom_lt (s.data.toList.take k) 0 (all_take ha k)
  have h2 : (s.data.toList.take k).length ≤ k := by simp [List.length_take]; omega
  have h3 : 10 ^ (s.data.toList.take k).length ≤ 10 ^ 13 := Nat.pow_le_pow_right (by omega) (by omega)
  have h4 : (10 : Nat) ^ 13 = 10000000000000 := by decide
  omega

theorem val_int {a b : Int} (h : a = b) : Value.int .i64 a = .int .i64 b := by rw [h]

end Go.Proofs.YthnjgbjckggjhaaGreatDoor.text

namespace Go.Proofs.YthnjgbjckggjhaaGreatDoor.value
open Go.Proofs.YthnjgbjckggjhaaGreatDoor.text

/-- At the first period: what stands ahead of it and what behind it. -/
def cutD : List UInt8 → Option (List UInt8 × List UInt8)
  | [] => none
  | c :: r => if c.toNat = 46 then some ([], r) else (cutD r).map fun x => (c :: x.1, x.2)
theorem cutD_eq : ∀ {l a b : List UInt8}, cutD l = some (a, b) → l = a ++ 46 :: b
  | [], a, b, h => by cases h
  | c :: r, a, b, h => by
    rw [cutD] at h
    split at h
    · rename_i hc
      simp only [Option.some.injEq, Prod.mk.injEq] at h
      obtain ⟨rfl, rfl⟩ := h
      rw [show c = 46 from UInt8.toNat_inj.1 hc]
      rfl
    · obtain ⟨⟨a', b'⟩, h1, h2⟩ := Option.map_eq_some_iff.1 h
      simp only [Prod.mk.injEq] at h2
      obtain ⟨rfl, rfl⟩ := h2
      rw [cutD_eq h1]
      rfl
theorem index_dot : ∀ l : List UInt8, (cutD l = none → Lib.index l [46] = -1) ∧ ∀ a b, cutD l = some (a, b) → Lib.index l [46] = (a.length : Int)
  | [] => ⟨fun _ => rfl, fun _ _ h => by cases h⟩
  | c :: r => by
    obtain ⟨i1, i2⟩ := index_dot r
    have hp : List.isPrefixOf [46] (c :: r) = decide (c.toNat = 46) := by
      simp only [List.isPrefixOf, Bool.and_true]
      rw [Bool.eq_iff_iff]
      simp only [beq_iff_eq, decide_eq_true_eq]
      constructor
      · intro e; rw [← e]; rfl
      · intro e; exact (UInt8.toNat_inj.1 (e.trans rfl)).symm
    rw [cutD, Lib.index, hp]
    by_cases hc : c.toNat = 46
    · rw [if_pos hc, if_pos (decide_eq_true hc)]
      refine ⟨(fun h => by cases h), fun a b h => ?_⟩
      simp only [Option.some.injEq, Prod.mk.injEq] at h
      rw [← h.1]
      rfl
    · rw [if_neg hc, if_neg (by simp [hc])]
      refine ⟨fun h => ?_, fun a b h => ?_⟩
      · have : cutD r = none := by simpa using h
        rw [i1 this]
        rfl
      · obtain ⟨⟨a', b'⟩, h1, h2⟩ := Option.map_eq_some_iff.1 h
        simp only [Prod.mk.injEq] at h2
        obtain ⟨rfl, rfl⟩ := h2
        rw [i2 _ _ h1, if_neg (by simp), List.length_cons]
        omega
theorem count_none {l : List UInt8} (h : cutD l = none) : Lib.count l [46] = 0 := Lib.count_miss ((index_dot l).1 h)
theorem count_some {l a b : List UInt8} (h : cutD l = some (a, b)) : Lib.count l [46] = 1 + Lib.count b [46] := by
  have hi := (index_dot l).2 a b h
  rw [Lib.count_hit (by simp) hi]
  congr 2
  rw [cutD_eq h]
  simp
theorem split_none {l : List UInt8} (h : cutD l = none) : Lib.split l [46] = [l] := by rw [Lib.split, count_none h]; rfl
theorem split_some {l a b : List UInt8} (h : cutD l = some (a, b)) : Lib.split l [46] = a :: Lib.split b [46] := by
  have hi := (index_dot l).2 a b h
  rw [Lib.split, count_some h, Nat.add_comm, Lib.splitK, if_neg (by rw [hi]; simp), hi]
  have e := cutD_eq h
  have e1 : l.take ((a.length : Int).toNat + 0) = a := by rw [e]; simp
  have e2 : l.drop ((a.length : Int).toNat + [46].length) = b := by rw [e]; simp
  have e3 := congrArg (Lib.splitK [46] 0 (Lib.count b [46])) e2
  rw [e1]
  exact congrArg (a :: ·) e3

/-- One part of a version. -/
def partN (l : List UInt8) : Option Int := if (parseS l).2 = 0 ∧ 0 ≤ (parseS l).1 ∧ (parseS l).1 ≤ 999999 then some (parseS l).1 else none
/-- The three parts of a version. -/
def verS (l : List UInt8) : Option (Int × Int × Int) :=
  match cutD l with
  | none => none
  | some (a, r) => match cutD r with
    | none => none
    | some (b, c) => match cutD c with
      | some _ => none
      | none => match partN a, partN b, partN c with
        | some x, some y, some z => some (x, y, z)
        | _, _, _ => none

theorem partN_bd {l : List UInt8} {x : Int} (h : partN l = some x) : 0 ≤ x ∧ x ≤ 999999 := by
  unfold partN at h
  split at h
  · rename_i hc
    injection h with h
    omega
  · cases h
theorem split_ways (l : List UInt8) : (verS l = none ∧ (Lib.split l [46]).length ≠ 3) ∨ ∃ a b c, Lib.split l [46] = [a, b, c] ∧ verS l = (match partN a, partN b, partN c with
        | some x, some y, some z => some (x, y, z)
        | _, _, _ => none) := by
  unfold verS
  cases h1 : cutD l with
  | none => exact Or.inl ⟨rfl, by rw [split_none h1]; simp⟩
  | some x =>
    obtain ⟨a, r⟩ := x
    simp only
    rw [split_some h1]
    cases h2 : cutD r with
    | none => exact Or.inl ⟨rfl, by rw [split_none h2]; simp⟩
    | some y =>
      obtain ⟨b, c⟩ := y
      simp only
      rw [split_some h2]
      cases h3 : cutD c with
      | none => exact Or.inr ⟨a, b, c, by rw [split_none h3], rfl⟩
      | some z =>
        obtain ⟨d, e⟩ := z
        refine Or.inl ⟨rfl, ?_⟩
        rw [split_some h3]
        have : (Lib.split e [46]).length ≠ 0 := by
          cases h4 : cutD e with
          | none => rw [split_none h4]; simp
          | some w => obtain ⟨f, g⟩ := w; rw [split_some h4]; simp
        simp only [List.length_cons]
        omega

end Go.Proofs.YthnjgbjckggjhaaGreatDoor.value
