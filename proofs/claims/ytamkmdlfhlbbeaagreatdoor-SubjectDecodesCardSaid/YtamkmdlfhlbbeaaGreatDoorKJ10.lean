/- Chapter 4, plain: numbers and texts as bytes, and how they are read again. Bits of numbers, as the walks meet them. Bits of numbers, as the writing walks meet them. Chapter 5, plain: subjects as bytes, and how they are read. Chapter 5, plain: a valid subject's bytes are read as it was; an unknown kind is an error in either reading. -/
import Derived.Test.YtamkmdlfhlbbeaaGreatDoorKJ1
import Derived.Laws.BitsLemmas
import Derived.Laws.Bits64
import Derived.IntWalk
import Derived.Test.YtamkmdlfhlbbeaaGreatDoorKSuQ
import Derived.Test.YtamkmdlfhlbbeaaGreatDoorKSuK
namespace Go.Proofs.YtamkmdlfhlbbeaaGreatDoor.wire
open Go.RowKit

/-- A number in groups of seven bits. -/
def grp (u : Nat) : List UInt8 := if u < 128 then [UInt8.ofNat u] else UInt8.ofNat (u % 128 + 128) :: grp (u / 128)
termination_by u
decreasing_by omega
theorem grp_lt {u : Nat} (h : u < 128) : grp u = [UInt8.ofNat u] := by rw [grp, if_pos h]
theorem grp_ge {u : Nat} (h : ¬ u < 128) : grp u = UInt8.ofNat (u % 128 + 128) :: grp (u / 128) := by rw [grp, if_neg h]
theorem grp_len : ∀ (k u : Nat), u < 128 ^ (k + 1) → (grp u).length ≤ k + 1
  | k, u, h => by
    by_cases hu : u < 128
    · rw [grp_lt hu]; simp
    · match k, h with
      | 0, h => exact absurd (by simpa using h) hu
      | k + 1, h =>
        have e : 128 ^ (k + 1 + 1) = 128 ^ (k + 1) * 128 := Nat.pow_succ ..
        have h1 : u / 128 < 128 ^ (k + 1) := Nat.div_lt_of_lt_mul (by omega)
        have := grp_len k (u / 128) h1
        rw [grp_ge hu, List.length_cons]
        omega
theorem grp_few {u : Nat} (h : u < 18446744073709551616) : (grp u).length ≤ 10 := grp_len 9 u (by omega)
theorem grp_pos (u : Nat) : 0 < (grp u).length := by
  by_cases hu : u < 128
  · rw [grp_lt hu]; simp
  · rw [grp_ge hu]; simp
/-- A signed number without a sign. -/
def zz (n : Int) : Nat := if n < 0 then (-2 * n - 1).toNat else (2 * n).toNat
def unzz (u : Nat) : Int := if u % 2 = 1 then -((u / 2 : Nat) : Int) - 1 else ((u / 2 : Nat) : Int)
theorem unzz_zz (n : Int) : unzz (zz n) = n := by
  unfold unzz zz
  split <;> split <;> omega
theorem zz_lt {n : Int} (h : -9223372036854775808 ≤ n) (h' : n < 9223372036854775808) : zz n < 18446744073709551616 := by
  unfold zz
  split <;> omega
def putN (n : Int) : List UInt8 := grp (zz n)
def putT (s : List UInt8) : List UInt8 := putN s.length ++ s
theorem putN_few {n : Int} (h : -9223372036854775808 ≤ n) (h' : n < 9223372036854775808) : (putN n).length ≤ 10 := grp_few (zz_lt h h')
theorem putT_few {s : List UInt8} (h : s.length < 9223372036854775808) : (putT s).length ≤ 10 + s.length := by
  unfold putT
  rw [List.length_append]
  have := putN_few (n := (s.length : Int)) (by omega) (by omega)
  omega

/-- What is left to read, or none behind an error. -/
abbrev St := Option (List UInt8)
def rdGo (i u : Nat) : List UInt8 → Option (Nat × List UInt8)
  | [] => none
  | c :: r =>
    if i = 9 ∧ 1 < c.toNat then none
    else if 128 ≤ c.toNat then rdGo (i + 1) (u + c.toNat % 128 * 128 ^ i) r
    else if c.toNat = 0 ∧ 0 < i then none
    else some (u + c.toNat * 128 ^ i, r)
def rdN : St → Int × St
  | none => (0, none)
  | some l => match rdGo 0 0 l with
    | none => (0, none)
    | some (u, r) => (unzz u, some r)
def rdLen (most : Int) (s : St) : Nat × St :=
  match rdN s with
  | (_, none) => (0, none)
  | (n, some r) => if n < 0 ∨ most < n then (0, none) else (n.toNat, some r)
def rdT (most : Int) (s : St) : List UInt8 × St :=
  match rdLen most s with
  | (_, none) => ([], none)
  | (n, some r) => if r.length < n then ([], none) else (r.take n, some (r.drop n))
/-- So many of a kind, one behind another. -/
def rep {α : Type} (f : St → α × St) : Nat → St → List α × St
  | 0, s => ([], s)
  | n + 1, s => ((f s).1 :: (rep f n (f s).2).1, (rep f n (f s).2).2)
theorem rep_len {α : Type} (f : St → α × St) : ∀ (n : Nat) (s : St), (rep f n s).1.length = n
  | 0, _ => rfl
  | n + 1, s => by rw [rep, List.length_cons, rep_len f n]
/-- The loop: what is made already and what is to come. -/
structure RepAt {α : Type} (f : St → α × St) (n : Nat) (s0 : St) (k : Nat) (acc : List α) (s : St) : Prop where
  len : acc.length = k
  list : acc ++ (rep f (n - k) s).1 = (rep f n s0).1
  rest : (rep f (n - k) s).2 = (rep f n s0).2
theorem RepAt.start {α : Type} (f : St → α × St) (n : Nat) (s0 : St) : RepAt f n s0 0 [] s0 := ⟨rfl, rfl, rfl⟩
theorem RepAt.next {α : Type} {f : St → α × St} {n : Nat} {s0 : St} {k : Nat} {acc : List α} {s : St} (h : RepAt f n s0 k acc s) (hk : k < n) : RepAt f n s0 (k + 1) (acc ++ [(f s).1]) (f s).2 := by
  obtain ⟨m, hm⟩ : ∃ m, n - k = m + 1 := ⟨n - k - 1, by omega⟩
  have e : n - (k + 1) = m := by omega
  obtain ⟨h1, h2, h3⟩ := h
  rw [hm, rep] at h2 h3
  refine ⟨by simp [h1], ?_, ?_⟩
  · rw [e, ← h2]; simp
  · rw [e, ← h3]
theorem RepAt.done {α : Type} {f : St → α × St} {n : Nat} {s0 : St} {acc : List α} {s : St} (h : RepAt f n s0 n acc s) : rep f n s0 = (acc, s) := by
  obtain ⟨h1, h2, h3⟩ := h
  rw [Nat.sub_self, rep] at h2 h3
  rw [Prod.ext_iff]
  exact ⟨by rw [← h2]; simp, h3.symm⟩

theorem byte_of {u : Nat} (h : u < 256) : (UInt8.ofNat u).toNat = u := by simp; omega
theorem rdGo_grp : ∀ (i u a : Nat) (r : List UInt8), u * 128 ^ i < 18446744073709551616 → (i = 0 ∨ 0 < u) → rdGo i a (grp u ++ r) = some (a + u * 128 ^ i, r)
  | i, u, a, r, hb, h0 => by
    by_cases hu : u < 128
    · have h9 : ¬ (i = 9 ∧ 1 < u) := by
        rintro ⟨rfl, h⟩
        have e : (128 : Nat) ^ 9 = 9223372036854775808 := by decide
        rw [e] at hb
        omega
      have hz : ¬ (u = 0 ∧ 0 < i) := by omega
      rw [grp_lt hu, List.singleton_append, rdGo, byte_of (by omega), if_neg h9, if_neg (by omega), if_neg hz]
    · have hP : 128 ^ (i + 1) = 128 ^ i * 128 := Nat.pow_succ ..
      have hq : u = u / 128 * 128 + u % 128 := by omega
      have hi : i ≤ 8 := by
        rcases Nat.lt_or_ge i 9 with h | h
        · omega
        · have e : (128 : Nat) ^ 9 = 9223372036854775808 := by decide
          have h1 : 128 ^ 9 ≤ 128 ^ i := Nat.pow_le_pow_right (by decide) h
          have h2 : 128 * 128 ^ 9 ≤ u * 128 ^ i := Nat.mul_le_mul (by omega) h1
          omega
      have hm : u * 128 ^ i = u / 128 * 128 ^ (i + 1) + u % 128 * 128 ^ i := by
        conv => lhs; rw [hq, Nat.add_mul, Nat.mul_assoc, Nat.mul_comm 128]
        rw [hP]
      have h9 : ¬ (i = 9 ∧ 1 < u % 128 + 128) := by omega
      rw [grp_ge hu, List.cons_append, rdGo, byte_of (by omega), if_neg h9, if_pos (by omega), rdGo_grp (i + 1) (u / 128) _ r (by omega) (by omega), show (u % 128 + 128) % 128 = u % 128 by omega, hm]
      congr 2
      omega
termination_by _ u => u
decreasing_by omega
theorem rdN_put {n : Int} (h : -9223372036854775808 ≤ n) (h' : n < 9223372036854775808) (r : List UInt8) : rdN (some (putN n ++ r)) = (n, some r) := by
  have hg := rdGo_grp 0 (zz n) 0 r (by have := zz_lt h h'; omega) (Or.inl rfl)
  unfold rdN putN
  simp only [hg]
  rw [show 0 + zz n * 128 ^ 0 = zz n by omega, unzz_zz]
theorem rdLen_put {n : Nat} {most : Int} (h : (n : Int) ≤ most) (hm : most < 9223372036854775808) (r : List UInt8) : rdLen most (some (putN n ++ r)) = (n, some r) := by
  unfold rdLen
  rw [rdN_put (by omega) (by omega)]
  simp only
  rw [if_neg (by omega)]
  simp
theorem rdT_put {s : List UInt8} {most : Int} (h : (s.length : Int) ≤ most) (hm : most < 9223372036854775808) (r : List UInt8) : rdT most (some (putT s ++ r)) = (s, some r) := by
  unfold rdT putT
  rw [List.append_assoc, rdLen_put h hm]
  simp only
  rw [if_neg (by simp)]
  simp
theorem rep_put {α β : Type} {f : St → β × St} {enc : α → List UInt8} {nm : α → β} : ∀ (l : List α) (r : List UInt8), (∀ x ∈ l, ∀ r, f (some (enc x ++ r)) = (nm x, some r)) → rep f l.length (some ((l.map enc).flatten ++ r)) = (l.map nm, some r)
  | [], _, _ => rfl
  | x :: l, r, h => by
    rw [List.length_cons, rep, List.map_cons, List.flatten_cons, List.append_assoc, h x (by simp), rep_put l r (fun y hy => h y (by simp [hy]))]
    rfl

end Go.Proofs.YtamkmdlfhlbbeaaGreatDoor.wire

namespace Go.Proofs.YtamkmdlfhlbbeaaGreatDoor.wire
open Go.RowKit

theorem wraps_u64 (n : Int) (h₀ : 0 ≤ n) (h₁ : n < 2 ^ 64) : IntKind.u64.wrap n = n := by rw [IntKind.wrap_u64]; omega
theorem and127 (x : UInt8) : bits BinOp.and IntKind.u8 (x.toNat : Int) 127 = ((x.toNat % 128 : Nat) : Int) := by
  have hx := x.toNat_lt
  have h := bits_mask .u8 8 (by decide) wraps_u8 7 (by decide) (x.toNat : Int) (by omega) (by omega)
  have e : ((2 : Int) ^ 7 - 1) = 127 := by decide
  have e2 : ((2 : Int) ^ 7) = 128 := by decide
  rw [e, e2] at h
  rw [h]
  omega
theorem pow7 (i : Nat) : 2 ^ (7 * i) = 128 ^ i := by rw [Nat.pow_mul]
theorem or_join {u v i : Nat} (hu : u < 128 ^ i) (hb : v * 128 ^ i < 18446744073709551616) (hi : i ≤ 9) :
    bits BinOp.or IntKind.u64 (u : Int) ((v * 128 ^ i : Nat) : Int) = ((u + v * 128 ^ i : Nat) : Int) := by
  have h128 : 128 ^ i ≤ 128 ^ 9 := Nat.pow_le_pow_right (by decide) hi
  have e9 : (128 : Nat) ^ 9 = 9223372036854775808 := by decide
  rw [(bits_nat .u64 64 (by decide) wraps_u64 u (v * 128 ^ i) (by omega) (by omega)).2]
  have e := Nat.two_pow_add_eq_or_of_lt (i := 7 * i) (b := u) (by rw [pow7]; exact hu) v
  rw [pow7, Nat.mul_comm] at e
  rw [Nat.or_comm, ← e, Nat.add_comm]
theorem or_step {u i : Nat} {x : UInt8} (hu : u < 128 ^ i) (hb : x.toNat % 128 * 128 ^ i < 18446744073709551616) (hi : i ≤ 9) :
    bits BinOp.or IntKind.u64 (u : Int) (IntKind.u64.wrap (IntKind.u64.wrap (bits BinOp.and IntKind.u8 (x.toNat : Int) 127) * 2 ^ (7 * i))) = ((u + x.toNat % 128 * 128 ^ i : Nat) : Int) := by
  have h7 : ((2 : Int) ^ (7 * i)) = ((128 ^ i : Nat) : Int) := by rw [← pow7]; simp
  rw [and127, wraps_u64 ((x.toNat % 128 : Nat) : Int) (by omega) (by omega), h7, ← Int.natCast_mul, wraps_u64 _ (by omega) (by omega)]
  exact or_join hu hb hi
theorem step_few {x : Nat} {i : Nat} (hi : i ≤ 8) : x % 128 * 128 ^ i < 9223372036854775808 := by
  have h128 : 128 ^ i ≤ 128 ^ 8 := Nat.pow_le_pow_right (by decide) hi
  have e9 : (128 : Nat) ^ 8 = 72057594037927936 := by decide
  have := Nat.mul_le_mul (show x % 128 ≤ 127 by omega) h128
  omega
theorem step_sum {u x i : Nat} (hu : u < 128 ^ i) : u + x % 128 * 128 ^ i < 128 ^ (i + 1) := by
  have h := Nat.mul_le_mul_right (128 ^ i) (show x % 128 + 1 ≤ 128 by omega)
  rw [Nat.add_mul, Nat.one_mul] at h
  rw [Nat.pow_succ, Nat.mul_comm _ 128]
  omega

theorem or_last {u i : Nat} {x : UInt8} (hu : u < 128 ^ i) (h1 : x.toNat < 128) (hb : x.toNat * 128 ^ i < 18446744073709551616) (hi : i ≤ 9) :
    bits BinOp.or IntKind.u64 (u : Int) (IntKind.u64.wrap (IntKind.u64.wrap (bits BinOp.and IntKind.u8 (x.toNat : Int) 127) * 2 ^ (7 * i))) = ((u + x.toNat * 128 ^ i : Nat) : Int) := by
  have h := or_step (x := x) hu (by rw [Nat.mod_eq_of_lt h1]; exact hb) hi
  rw [h, Nat.mod_eq_of_lt h1]
theorem last_few {u x i : Nat} (hu : u < 128 ^ i) (h1 : x < 128) (hi : i ≤ 9) (h9 : ¬ (i = 9 ∧ 1 < x)) : x * 128 ^ i < 18446744073709551616 ∧ u + x * 128 ^ i < 18446744073709551616 := by
  have e9 : (128 : Nat) ^ 9 = 9223372036854775808 := by decide
  rcases Nat.lt_or_ge i 9 with h | h
  · have := step_few (x := x) (i := i) (by omega)
    rw [Nat.mod_eq_of_lt h1] at this
    have h128 : 128 ^ i ≤ 128 ^ 9 := Nat.pow_le_pow_right (by decide) hi
    omega
  · obtain rfl : i = 9 := by omega
    rw [e9] at hu ⊢
    omega
theorem and_one {z : Nat} (hz : z < 18446744073709551616) : bits BinOp.and IntKind.u64 (z : Int) 1 = ((z % 2 : Nat) : Int) := by
  have h := bits_mask .u64 64 (by decide) wraps_u64 1 (by decide) (z : Int) (by omega) (by omega)
  have e : ((2 : Int) ^ 1 - 1) = 1 := by decide
  have e2 : ((2 : Int) ^ 1) = 2 := by decide
  rw [e, e2] at h
  rw [h]
  omega
theorem xor_zero {a : Nat} (ha : a < 9223372036854775808) : bits BinOp.xor IntKind.i64 (a : Int) 0 = (a : Int) := by
  have h1 : (BitVec.ofInt 64 (a : Int)).toNat = a := by
    rw [BitVec.ofInt_natCast, BitVec.toNat_ofNat]; exact Nat.mod_eq_of_lt (by omega)
  show IntKind.i64.wrap ((BitVec.ofInt 64 (a : Int) ^^^ BitVec.ofInt 64 0).toNat : Int) = _
  rw [show BitVec.ofInt 64 0 = 0#64 by rfl, BitVec.xor_zero, h1, IntKind.wrap_i64]
  omega
theorem xor_ones {a : Nat} (ha : a < 9223372036854775808) : bits BinOp.xor IntKind.i64 (a : Int) (-1) = -(a : Int) - 1 := by
  have h1 : (BitVec.ofInt 64 (a : Int)).toNat = a := by
    rw [BitVec.ofInt_natCast, BitVec.toNat_ofNat]; exact Nat.mod_eq_of_lt (by omega)
  show IntKind.i64.wrap ((BitVec.ofInt 64 (a : Int) ^^^ BitVec.ofInt 64 (-1)).toNat : Int) = _
  rw [show BitVec.ofInt 64 (-1) = BitVec.allOnes 64 by rfl, BitVec.xor_allOnes, BitVec.toNat_not, h1, IntKind.wrap_i64]
  omega
theorem unzz_bits {z : Nat} (hz : z < 18446744073709551616) : bits BinOp.xor IntKind.i64 (IntKind.i64.wrap ((z : Int) / 2)) (IntKind.i64.wrap (-IntKind.i64.wrap (bits BinOp.and IntKind.u64 (z : Int) 1))) = unzz z := by
  have e1 : IntKind.i64.wrap ((z : Int) / 2) = ((z / 2 : Nat) : Int) := by rw [IntKind.wrap_i64]; omega
  rw [e1, and_one hz]
  unfold unzz
  rcases Nat.mod_two_eq_zero_or_one z with h | h
  · rw [h, if_neg (by decide)]
    exact xor_zero (by omega)
  · rw [h, if_pos rfl]
    exact xor_ones (by omega)

theorem unzz_bits' {z : Nat} (hz : z < 18446744073709551616) : bits BinOp.xor IntKind.i64 (wrap64 ((z : Int) / 2)) (wrap64 (-wrap64 (bits BinOp.and IntKind.u64 (z : Int) 1))) = unzz z := by
  have h := unzz_bits hz
  simp only [IntKind.wrap_i64] at h
  unfold wrap64
  exact h

theorem unzz_even {z : Nat} (hz : z < 18446744073709551616) (h : z % 2 = 0) : wrap64 ((z : Int) / 2) = unzz z := by
  unfold wrap64 unzz
  rw [if_neg (by omega)]
  omega

theorem unzz_odd {z : Nat} (hz : z < 18446744073709551616) (h : z % 2 = 1) : wrap64 (bits BinOp.xor IntKind.u64 IntKind.u64.max ((z : Int) / 2)) = unzz z := by
  have h1 : (BitVec.ofInt 64 ((z / 2 : Nat) : Int)).toNat = z / 2 := by
    rw [BitVec.ofInt_natCast, BitVec.toNat_ofNat]; exact Nat.mod_eq_of_lt (by omega)
  have h2 : bits BinOp.xor IntKind.u64 IntKind.u64.max ((z : Int) / 2) = ((18446744073709551615 - z / 2 : Nat) : Int) := by
    rw [show ((z : Int) / 2) = ((z / 2 : Nat) : Int) by omega]
    show IntKind.u64.wrap ((BitVec.ofInt 64 IntKind.u64.max ^^^ BitVec.ofInt 64 ((z / 2 : Nat) : Int)).toNat : Int) = _
    rw [show BitVec.ofInt 64 IntKind.u64.max = BitVec.allOnes 64 by rfl, BitVec.allOnes_xor, BitVec.toNat_not, h1, IntKind.wrap_u64]
    omega
  rw [h2]
  unfold wrap64 unzz
  rw [if_pos h]
  omega

end Go.Proofs.YtamkmdlfhlbbeaaGreatDoor.wire

namespace Go.Proofs.YtamkmdlfhlbbeaaGreatDoor.wire
open Go.RowKit

theorem xorU_zero {a : Nat} (ha : a < 18446744073709551616) : bits BinOp.xor IntKind.u64 (a : Int) 0 = (a : Int) := by
  have h1 : (BitVec.ofInt 64 (a : Int)).toNat = a := by
    rw [BitVec.ofInt_natCast, BitVec.toNat_ofNat]; exact Nat.mod_eq_of_lt (by omega)
  show IntKind.u64.wrap ((BitVec.ofInt 64 (a : Int) ^^^ BitVec.ofInt 64 0).toNat : Int) = _
  rw [show BitVec.ofInt 64 0 = 0#64 by rfl, BitVec.xor_zero, h1, IntKind.wrap_u64]
  omega
theorem xorU_ones {a : Nat} (ha : a < 18446744073709551616) : bits BinOp.xor IntKind.u64 (a : Int) 18446744073709551615 = ((18446744073709551615 - a : Nat) : Int) := by
  have h1 : (BitVec.ofInt 64 (a : Int)).toNat = a := by
    rw [BitVec.ofInt_natCast, BitVec.toNat_ofNat]; exact Nat.mod_eq_of_lt (by omega)
  show IntKind.u64.wrap ((BitVec.ofInt 64 (a : Int) ^^^ BitVec.ofInt 64 18446744073709551615).toNat : Int) = _
  rw [show BitVec.ofInt 64 18446744073709551615 = BitVec.allOnes 64 by rfl, BitVec.xor_allOnes, BitVec.toNat_not, h1, IntKind.wrap_u64]
  omega
theorem xorU_max {a : Nat} (ha : a < 18446744073709551616) : bits BinOp.xor IntKind.u64 IntKind.u64.max (a : Int) = ((18446744073709551615 - a : Nat) : Int) := by
  have h1 : (BitVec.ofInt 64 (a : Int)).toNat = a := by
    rw [BitVec.ofInt_natCast, BitVec.toNat_ofNat]; exact Nat.mod_eq_of_lt (by omega)
  show IntKind.u64.wrap ((BitVec.ofInt 64 IntKind.u64.max ^^^ BitVec.ofInt 64 (a : Int)).toNat : Int) = _
  rw [show BitVec.ofInt 64 IntKind.u64.max = BitVec.allOnes 64 by rfl, BitVec.allOnes_xor, BitVec.toNat_not, h1, IntKind.wrap_u64]
  omega
/-- A number without a sign, as the program reckons it. -/
theorem zz_bits {n : Int} (h1 : -9223372036854775808 ≤ n) (h2 : n ≤ 9223372036854775807) : bits BinOp.xor IntKind.u64 (IntKind.u64.wrap (IntKind.u64.wrap n * 2)) (IntKind.u64.wrap (n / 9223372036854775808)) = (zz n : Int) := by
  unfold zz
  by_cases hn : n < 0
  · rw [if_pos hn]
    have e1 : IntKind.u64.wrap (IntKind.u64.wrap n * 2) = ((2 * n + 18446744073709551616).toNat : Int) := by rw [IntKind.wrap_u64, IntKind.wrap_u64]; omega
    have e2 : IntKind.u64.wrap (n / 9223372036854775808) = 18446744073709551615 := by rw [IntKind.wrap_u64]; omega
    rw [e1, e2, xorU_ones (by omega)]
    omega
  · rw [if_neg hn]
    have e1 : IntKind.u64.wrap (IntKind.u64.wrap n * 2) = ((2 * n).toNat : Int) := by rw [IntKind.wrap_u64, IntKind.wrap_u64]; omega
    have e2 : IntKind.u64.wrap (n / 9223372036854775808) = 0 := by rw [IntKind.wrap_u64]; omega
    rw [e1, e2, xorU_zero (by omega)]
/-- .. and as the reference does. -/
theorem zz_pos {n : Int} (h1 : 0 ≤ n) (h2 : n ≤ 9223372036854775807) : IntKind.u64.wrap (IntKind.u64.wrap n * 2) = (zz n : Int) := by
  unfold zz
  rw [if_neg (by omega), IntKind.wrap_u64, IntKind.wrap_u64]
  omega
theorem zz_neg {n : Int} (h1 : -9223372036854775808 ≤ n) (h2 : n < 0) : bits BinOp.xor IntKind.u64 IntKind.u64.max (IntKind.u64.wrap (IntKind.u64.wrap n * 2)) = (zz n : Int) := by
  have e1 : IntKind.u64.wrap (IntKind.u64.wrap n * 2) = ((2 * n + 18446744073709551616).toNat : Int) := by rw [IntKind.wrap_u64, IntKind.wrap_u64]; omega
  rw [e1, xorU_max (by omega)]
  unfold zz
  rw [if_pos h2]
  omega
theorem or128 : ∀ a : Fin 256, (a.val ||| 128) = a.val % 128 + 128 := by decide +kernel
theorem byte_more (u : Nat) : bits BinOp.or IntKind.u8 (IntKind.u8.wrap (u : Int)) 128 = ((UInt8.ofNat (u % 128 + 128)).toNat : Int) := by
  have e : IntKind.u8.wrap (u : Int) = ((u % 256 : Nat) : Int) := by rw [IntKind.wrap_u8]; omega
  rw [e, byte_of (by omega)]
  have h := (bits_nat .u8 8 (by decide) wraps_u8 (u % 256) 128 (by omega) (by decide)).2
  rw [or128 ⟨u % 256, by omega⟩] at h
  simp only at h
  rw [show u % 256 % 128 = u % 128 by omega] at h
  exact h
theorem byte_moreR (u : Nat) (hu : u < 18446744073709551616) : bits BinOp.or IntKind.u8 (IntKind.u8.wrap (bits BinOp.and IntKind.u64 (u : Int) 127)) 128 = ((UInt8.ofNat (u % 128 + 128)).toNat : Int) := by
  have h := bits_mask .u64 64 (by decide) wraps_u64 7 (by decide) (u : Int) (by omega) (by omega)
  have e : ((2 : Int) ^ 7 - 1) = 127 := by decide
  have e2 : ((2 : Int) ^ 7) = 128 := by decide
  rw [e, e2] at h
  rw [h, show ((u : Int) % 128) = ((u % 128 : Nat) : Int) by omega, byte_more, Nat.mod_mod]
theorem byte_more' (u : Nat) : bits BinOp.or IntKind.u8 ((u : Int) % 256) 128 = ((UInt8.ofNat (u % 128 + 128)).toNat : Int) := by
  rw [← byte_more u, IntKind.wrap_u8]
theorem byte_moreR' (u : Nat) (hu : u < 18446744073709551616) : bits BinOp.or IntKind.u8 (bits BinOp.and IntKind.u64 (u : Int) 127 % 256) 128 = ((UInt8.ofNat (u % 128 + 128)).toNat : Int) := by
  rw [← byte_moreR u hu, IntKind.wrap_u8]
theorem byte_last {u : Nat} (hu : u < 128) : IntKind.u8.wrap (u : Int) = ((UInt8.ofNat u).toNat : Int) := by
  rw [byte_of (by omega), IntKind.wrap_u8]
  omega

end Go.Proofs.YtamkmdlfhlbbeaaGreatDoor.wire

namespace Go.Proofs.YtamkmdlfhlbbeaaGreatDoor.wire
open Go.RowKit Go.Proofs.YtamkmdlfhlbbeaaGreatDoor Go.Proofs.YtamkmdlfhlbbeaaGreatDoor.schema Go.Proofs.YtamkmdlfhlbbeaaGreatDoor.value Go.Proofs.YtamkmdlfhlbbeaaGreatDoor.text Go.Proofs.YtamkmdlfhlbbeaaGreatDoor.clause Go.Proofs.YtamkmdlfhlbbeaaGreatDoor.subj

/-- A value is read: an unknown kind is an error, or a text. -/
def rdV (strict : Bool) (s : St) : VD × St :=
  if (rdN s).1 = 1 ∨ (rdN s).1 = 2 then (⟨(rdN s).1, (rdN (rdN s).2).1, ⟨#[]⟩, none, 0, 0, []⟩, (rdN (rdN s).2).2)
  else if (rdN s).1 = 5 then (⟨5, 0, ⟨#[]⟩, none, 0, 0, (rep (rdT 200) (rdLen 20 (rdN s).2).1 (rdLen 20 (rdN s).2).2).1.map fun t => ⟨t.toArray⟩⟩, (rep (rdT 200) (rdLen 20 (rdN s).2).1 (rdLen 20 (rdN s).2).2).2)
  else if (rdN s).1 = 3 ∨ (rdN s).1 = 4 ∨ strict = false then (⟨(rdN s).1, 0, ⟨(rdT 200 (rdN s).2).1.toArray⟩, none, 0, 0, []⟩, (rdT 200 (rdN s).2).2)
  else (⟨(rdN s).1, 0, ⟨#[]⟩, none, 0, 0, []⟩, none)
def rdA (strict : Bool) (s : St) : AD × St := (⟨⟨(rdT 32 s).1.toArray⟩, (rdV strict (rdT 32 s).2).1⟩, (rdV strict (rdT 32 s).2).2)
def rdAs (strict : Bool) (s : St) : List AD × St := rep (rdA strict) (rdLen 20 s).1 (rdLen 20 s).2
def rdC (strict : Bool) (s : St) : CT × St :=
  (⟨⟨(rdT 32 s).1.toArray⟩, ⟨(rdT 200 (rdT 32 s).2).1.toArray⟩, none, 0, 0, (rdAs strict (rdT 200 (rdT 32 s).2).2).1⟩, (rdAs strict (rdT 200 (rdT 32 s).2).2).2)
def rdS (strict : Bool) (b : List UInt8) : List CT × St := rep (rdC strict) (rdLen 4 (some b)).1 (rdLen 4 (some b)).2
def decS (strict : Bool) (b : List UInt8) : List CT × Int := if (rdS strict b).2 = some [] ∧ subS (rdS strict b).1 = 0 then ((rdS strict b).1, 0) else ([], 1)

/-- A value, an attribute, a context and a subject as bytes. -/
def encV (d : VD) : List UInt8 :=
  putN d.kind ++ (if d.kind = 1 ∨ d.kind = 2 then putN d.num else if d.kind = 3 ∨ d.kind = 4 then putT d.text.data.toList else putN d.ls.length ++ (d.ls.map fun t => putT t.data.toList).flatten)
def encA (a : AD) : List UInt8 := putT a.name.data.toList ++ encV a.val
def encC (c : CT) : List UInt8 := putT c.kind.data.toList ++ (putT c.key.data.toList ++ (putN c.attrs.length ++ (c.attrs.map encA).flatten))
def encS (l : List CT) : List UInt8 := putN l.length ++ (l.map encC).flatten


end Go.Proofs.YtamkmdlfhlbbeaaGreatDoor.wire

namespace Go.Proofs.YtamkmdlfhlbbeaaGreatDoor.wire
open Go.RowKit Go.Proofs.YtamkmdlfhlbbeaaGreatDoor Go.Proofs.YtamkmdlfhlbbeaaGreatDoor.schema Go.Proofs.YtamkmdlfhlbbeaaGreatDoor.value Go.Proofs.YtamkmdlfhlbbeaaGreatDoor.text Go.Proofs.YtamkmdlfhlbbeaaGreatDoor.clause Go.Proofs.YtamkmdlfhlbbeaaGreatDoor.subj

theorem digs_len (l : List UInt8) : l.length ≤ (digsOf l).length + 1 := by
  cases l with
  | nil => simp
  | cons c r =>
    show (c :: r).length ≤ (if c.toNat = 45 then r else c :: r).length + 1
    split
    · simp
    · simp
theorem parse_small {l : List UInt8} (h : (parseS l).2 = 0) : l.length ≤ 14 := by
  have hd := digs_len l
  unfold parseS at h
  split at h
  · simp at h
  · split at h
    · simp at h
    · omega
theorem part_small {l : List UInt8} {x : Int} (h : partN l = some x) : l.length ≤ 14 := by
  unfold partN at h
  split at h
  · rename_i hc; exact parse_small hc.1
  · cases h
theorem ver_small {l : List UInt8} (h : (verS l).isSome = true) : l.length ≤ 44 := by
  unfold verS at h
  split at h
  · cases h
  · rename_i a r h1
    split at h
    · cases h
    · rename_i b c h2
      split at h
      · cases h
      · split at h
        · rename_i x y z p1 p2 p3
          have e1 := part_small p1
          have e2 := part_small p2
          have e3 := part_small p3
          rw [cutD_eq h1, cutD_eq h2]
          simp only [List.length_append, List.length_cons]
          omega
        · cases h
theorem check_ways {d : VD} (h : checkS (vv d) = 0) :
    ((d.kind = 1 ∨ d.kind = 2) ∧ d.text.size = 0 ∧ d.ls = [] ∧ -1099511627776 ≤ d.num ∧ d.num ≤ 1099511627776) ∨
    ((d.kind = 3 ∨ d.kind = 4) ∧ d.num = 0 ∧ d.ls = [] ∧ d.text.size ≤ 200) ∨
    (d.kind = 5 ∧ d.num = 0 ∧ d.text.size = 0 ∧ d.ls.length ≤ 20 ∧ ∀ t ∈ d.ls, t.size ≤ 200) := by
  obtain ⟨k, n, t, p, ln, cp, ls⟩ := d
  have hl : (lsL ls).isEmpty = true → ls = [] := fun e => by cases ls with
    | nil => rfl
    | cons x r => simp [lsL] at e
  have ht : t.data.toList.isEmpty = true → t.size = 0 := fun e => by
    have := List.isEmpty_iff.1 e
    have h2 := congrArg List.length this
    simpa using h2
  unfold checkS vv at h
  simp only at h ⊢
  split at h
  · cases h
  · rename_i hk
    split at h
    · cases h
    · rename_i hs
      have hs' : shapeS ⟨k, n, t.data.toList, lsL ls⟩ = true := by simpa using hs
      unfold shapeS at hs'
      simp only at hs'
      by_cases h12 : k = 1 ∨ k = 2
      · rw [if_pos h12, Bool.and_eq_true] at hs'
        refine Or.inl ⟨h12, ht hs'.1, hl hs'.2, ?_⟩
        rcases h12 with rfl | rfl
        · rw [if_pos rfl] at h
          split at h
          · cases h
          · omega
        · rw [if_neg (by decide), if_pos rfl] at h
          split at h
          · cases h
          · omega
      · rw [if_neg h12] at hs'
        by_cases h34 : k = 3 ∨ k = 4
        · rw [if_pos h34, Bool.and_eq_true, decide_eq_true_eq] at hs'
          refine Or.inr (Or.inl ⟨h34, hs'.1, hl hs'.2, ?_⟩)
          rcases h34 with rfl | rfl
          · rw [if_neg (by decide), if_neg (by decide), if_pos rfl] at h
            split at h
            · rename_i hv; simpa using valid_size hv
            · cases h
          · rw [if_neg (by decide), if_neg (by decide), if_neg (by decide), if_pos rfl] at h
            split at h
            · rename_i hv
              have := ver_small hv
              simp at this
              omega
            · cases h
        · rw [if_neg h34, Bool.and_eq_true, decide_eq_true_eq] at hs'
          rw [if_neg (by omega), if_neg (by omega), if_neg (by omega), if_neg (by omega)] at h
          refine Or.inr (Or.inr ⟨by omega, hs'.1, ht hs'.2, ?_⟩)
          unfold listS at h
          split at h
          · cases h
          · rename_i h20
            split at h
            · cases h
            · rename_i hv
              have hv' : (lsL ls).all validS = true := by simpa using hv
              refine ⟨by simpa [lsL] using h20, fun x hx => ?_⟩
              have := List.all_eq_true.1 hv' x.data.toList (by unfold lsL; exact List.mem_map.2 ⟨x, hx, rfl⟩)
              simpa using valid_size this

theorem bytes_back (s : ByteArray) : (⟨s.data.toList.toArray⟩ : ByteArray) = s := by cases s; simp
theorem bytes_none {s : ByteArray} (h : s.size = 0) : s = ⟨#[]⟩ := by
  apply ByteArray.ext
  exact Array.eq_empty_of_size_eq_zero h
/-- What is read has no place of its own. -/
def nmV (d : VD) : VD := ⟨d.kind, d.num, d.text, none, 0, 0, d.ls⟩
def nmA (a : AD) : AD := ⟨a.name, nmV a.val⟩
def nmC (c : CT) : CT := ⟨c.kind, c.key, none, 0, 0, c.attrs.map nmA⟩
theorem rdV_put {d : VD} (h : checkS (vv d) = 0) (b : Bool) (r : List UInt8) : rdV b (some (encV d ++ r)) = (nmV d, some r) := by
  obtain ⟨k, n, t, p, ln, cp, ls⟩ := d
  rcases check_ways h with ⟨h1, h2, h3, h4, h5⟩ | ⟨h1, h2, h3, h4⟩ | ⟨h1, h2, h3, h4, h5⟩
  · simp only at h1 h2 h3 h4 h5
    have e : encV ⟨k, n, t, p, ln, cp, ls⟩ ++ r = putN k ++ (putN n ++ r) := by unfold encV; simp only; rw [if_pos h1, List.append_assoc]
    rw [e]
    unfold rdV
    rw [rdN_put (by omega) (by omega)]
    simp only
    rw [if_pos h1, rdN_put (by omega) (by omega), nmV, bytes_none h2, h3]
  · simp only at h1 h2 h3 h4
    have e : encV ⟨k, n, t, p, ln, cp, ls⟩ ++ r = putN k ++ (putT t.data.toList ++ r) := by unfold encV; simp only; rw [if_neg (by omega), if_pos h1, List.append_assoc]
    rw [e]
    unfold rdV
    rw [rdN_put (by omega) (by omega)]
    simp only
    rw [if_neg (by omega), if_neg (by omega), if_pos (by omega), rdT_put (by simp; omega) (by omega), nmV, h2, h3, bytes_back]
  · simp only at h1 h2 h3 h4 h5
    subst h1
    have e : encV ⟨5, n, t, p, ln, cp, ls⟩ ++ r = putN 5 ++ (putN (ls.length : Nat) ++ ((ls.map fun t => putT t.data.toList).flatten ++ r)) := by unfold encV; simp only; rw [if_neg (by decide), if_neg (by decide), List.append_assoc, List.append_assoc]
    rw [e]
    unfold rdV
    rw [rdN_put (by omega) (by omega)]
    simp only
    rw [if_neg (by decide), if_pos trivial, rdLen_put (by omega) (by omega)]
    simp only
    rw [rep_put (nm := fun t : ByteArray => t.data.toList) ls r (fun x hx r => rdT_put (by have := h5 x hx; simp; omega) (by omega) r), nmV, h2, bytes_none h3]
    simp only [List.map_map]
    rw [show ((fun t : List UInt8 => (⟨t.toArray⟩ : ByteArray)) ∘ fun t : ByteArray => t.data.toList) = id from funext fun s => bytes_back s, List.map_id]
theorem rdA_put {a : AD} (hn : a.name.size ≤ 32) (h : checkS (vv a.val) = 0) (b : Bool) (r : List UInt8) : rdA b (some (encA a ++ r)) = (nmA a, some r) := by
  unfold rdA encA
  rw [List.append_assoc, rdT_put (by simp; omega) (by omega)]
  simp only
  rw [rdV_put h, bytes_back]
  rfl
theorem attrGo_all : ∀ (l : List AD) (p : Option (List UInt8)), attrGo p l = 0 → ∀ a ∈ l, keyS a.name.data.toList = true ∧ checkS (vv a.val) = 0
  | [], _, _, _, h => by cases h
  | c :: r, p, h, d, hd => by
    rw [attrGo] at h
    split at h
    · cases h
    · rename_i h1
      split at h
      · cases h
      · split at h
        · rename_i hx; exact absurd h hx
        · rename_i h4
          rcases List.mem_cons.1 hd with rfl | hd
          · refine ⟨?_, by simpa using h4⟩
            cases hk : keyS d.name.data.toList with
            | true => rfl
            | false => exact absurd (Or.inl hk) h1
          · exact attrGo_all r _ h d hd
theorem attr_all {l : List AD} (h : attrS l = 0) : l.length ≤ 20 ∧ ∀ a ∈ l, a.name.size ≤ 32 ∧ checkS (vv a.val) = 0 := by
  unfold attrS at h
  split at h
  · cases h
  · exact ⟨by omega, fun a ha => ⟨by have := key_small (attrGo_all l none h a ha).1; simpa using this, (attrGo_all l none h a ha).2⟩⟩
theorem rdAs_put {l : List AD} (h : attrS l = 0) (b : Bool) (r : List UInt8) : rdAs b (some (putN l.length ++ ((l.map encA).flatten ++ r))) = (l.map nmA, some r) := by
  obtain ⟨h1, h2⟩ := attr_all h
  unfold rdAs
  rw [rdLen_put (by omega) (by omega)]
  exact rep_put l r fun x hx r => rdA_put (h2 x hx).1 (h2 x hx).2 b r
theorem rdC_put {c : CT} (hk : c.kind.size ≤ 32) (hy : c.key.size ≤ 200) (h : attrS c.attrs = 0) (b : Bool) (r : List UInt8) : rdC b (some (encC c ++ r)) = (nmC c, some r) := by
  unfold rdC encC
  rw [List.append_assoc, rdT_put (by simp; omega) (by omega)]
  simp only
  rw [List.append_assoc, rdT_put (by simp; omega) (by omega)]
  simp only
  rw [List.append_assoc, rdAs_put h, bytes_back, bytes_back]
  rfl
theorem rdS_put {l : List CT} (h : subS l = 0) (b : Bool) : rdS b (encS l) = (l.map nmC, some []) := by
  obtain ⟨h1, h2⟩ := sub_all h
  unfold rdS encS
  rw [rdLen_put (by omega) (by omega)]
  have := rep_put (f := rdC b) (enc := encC) (nm := nmC) l [] fun x hx r => rdC_put (by have := key_small (h2 x hx).1; simpa using this) (by have := valid_size (h2 x hx).2.2.1; simpa using this) (h2 x hx).2.2.2 b r
  rw [List.append_nil] at this
  exact this

theorem alike_tail {α : Type} {R : α → α → Prop} {a b : α} {l' l : List α} (h : subj.Alike R (a :: l') (b :: l)) : R a b ∧ subj.Alike R l' l :=
  ⟨h.2 0 (by simp) (by simp), by have := h.1; simpa using this, fun i h1 h2 => h.2 (i + 1) (by simpa using h1) (by simpa using h2)⟩
theorem attrGo_alike : ∀ (l' l : List AD) (p : Option (List UInt8)), subj.Alike SameA l' l → attrGo p l' = attrGo p l
  | [], [], _, _ => rfl
  | [], _ :: _, _, h => by have := h.1; simp at this
  | _ :: _, [], _, h => by have := h.1; simp at this
  | a :: l', b :: l, p, h => by
    obtain ⟨⟨h1, h2⟩, h3⟩ := alike_tail h
    rw [attrGo, attrGo, h1, h2.vv, attrGo_alike l' l _ h3]
theorem attr_alike {l' l : List AD} (h : subj.Alike SameA l' l) : attrS l' = attrS l := by unfold attrS; rw [attrGo_alike l' l none h, h.1]
theorem subGo_alike : ∀ (l' l : List CT) (p : Option (List UInt8)), subj.Alike SameC l' l → subGo p l' = subGo p l
  | [], [], _, _ => rfl
  | [], _ :: _, _, h => by have := h.1; simp at this
  | _ :: _, [], _, h => by have := h.1; simp at this
  | a :: l', b :: l, p, h => by
    obtain ⟨⟨h1, h2, h3⟩, h4⟩ := alike_tail h
    rw [subGo, subGo, h1, h2, attr_alike h3, subGo_alike l' l _ h4]
theorem sub_alike {l' l : List CT} (h : subj.Alike SameC l' l) : subS l' = subS l := by unfold subS; rw [subGo_alike l' l none h, h.1]
theorem nm_alikeA (l : List AD) : subj.Alike SameA (l.map nmA) l := ⟨by simp, fun i h1 h2 => by rw [List.getElem_map]; exact ⟨rfl, rfl, rfl, rfl, rfl⟩⟩
theorem nm_alike (l : List CT) : subj.Alike SameC (l.map nmC) l := ⟨by simp, fun i h1 h2 => by rw [List.getElem_map]; exact ⟨rfl, rfl, nm_alikeA _⟩⟩
theorem decS_put {l : List CT} (h : subS l = 0) (b : Bool) : decS b (encS l) = (l.map nmC, 0) := by
  unfold decS
  rw [rdS_put h]
  simp only
  rw [if_pos ⟨trivial, (sub_alike (nm_alike l)).trans h⟩]

/-- The strict reading and the lax one: the same, or an error behind which the lax one has met something bad. -/
def Fit {α : Type} (bad : α → Prop) (x y : α × St) : Prop := x = y ∨ (x.2 = none ∧ (bad y.1 ∨ y.2 = none))
theorem rep_none {α : Type} {f : St → α × St} (h : (f none).2 = none) : ∀ n, (rep f n none).2 = none
  | 0 => rfl
  | n + 1 => by rw [rep]; simp only; rw [h]; exact rep_none h n
theorem rep_fit {α : Type} {bad : α → Prop} {f g : St → α × St} (h : ∀ s, Fit bad (f s) (g s)) (hf : (f none).2 = none) (hg : (g none).2 = none) : ∀ (n : Nat) (s : St), Fit (fun l => ∃ x ∈ l, bad x) (rep f n s) (rep g n s)
  | 0, s => Or.inl rfl
  | n + 1, s => by
    rw [rep, rep]
    rcases h s with e | ⟨e1, e2⟩
    · rw [e]
      rcases rep_fit h hf hg n (g s).2 with e3 | ⟨e3, e4⟩
      · exact Or.inl (by rw [e3])
      · refine Or.inr ⟨e3, ?_⟩
        rcases e4 with ⟨x, hx, hb⟩ | e4
        · exact Or.inl ⟨x, by simp [hx], hb⟩
        · exact Or.inr e4
    · refine Or.inr ⟨by simp only; rw [e1]; exact rep_none hf n, ?_⟩
      rcases e2 with e2 | e2
      · exact Or.inl ⟨_, by simp, e2⟩
      · exact Or.inr (by simp only; rw [e2]; exact rep_none hg n)
theorem rdN_none : rdN none = (0, none) := rfl
theorem rdLen_none (m : Int) : rdLen m none = (0, none) := rfl
theorem rdT_none (m : Int) : rdT m none = ([], none) := rfl
theorem rdV_none (b : Bool) : (rdV b none).2 = none := by
  unfold rdV
  rw [rdN_none]
  simp only
  rw [if_neg (by decide), if_neg (by decide)]
  split <;> rfl
theorem rdA_none (b : Bool) : (rdA b none).2 = none := rdV_none b
theorem rdAs_none (b : Bool) : (rdAs b none).2 = none := rfl
theorem rdC_none (b : Bool) : (rdC b none).2 = none := rfl
theorem rdV_fit (s : St) : Fit (fun d => checkS (vv d) ≠ 0) (rdV true s) (rdV false s) := by
  unfold rdV
  by_cases h1 : (rdN s).1 = 1 ∨ (rdN s).1 = 2
  · rw [if_pos h1, if_pos h1]; exact Or.inl rfl
  · rw [if_neg h1, if_neg h1]
    by_cases h2 : (rdN s).1 = 5
    · rw [if_pos h2, if_pos h2]; exact Or.inl rfl
    · rw [if_neg h2, if_neg h2]
      by_cases h3 : (rdN s).1 = 3 ∨ (rdN s).1 = 4
      · rw [if_pos (by omega), if_pos (by omega)]; exact Or.inl rfl
      · rw [if_neg (by simp; omega), if_pos (by simp)]
        refine Or.inr ⟨rfl, Or.inl ?_⟩
        unfold checkS vv
        simp only
        rw [if_pos (by omega)]
        decide
theorem rdA_fit (s : St) : Fit (fun a => checkS (vv a.val) ≠ 0) (rdA true s) (rdA false s) := by
  unfold rdA
  rcases rdV_fit (rdT 32 s).2 with h | ⟨h1, h2⟩
  · exact Or.inl (by rw [h])
  · exact Or.inr ⟨h1, h2⟩
theorem rdAs_fit (s : St) : Fit (fun l => attrS l ≠ 0) (rdAs true s) (rdAs false s) := by
  unfold rdAs
  rcases rep_fit rdA_fit (rdA_none _) (rdA_none _) (rdLen 20 s).1 (rdLen 20 s).2 with h | ⟨h1, h2⟩
  · exact Or.inl h
  · refine Or.inr ⟨h1, ?_⟩
    rcases h2 with ⟨x, hx, hb⟩ | h2
    · exact Or.inl fun e => hb ((attr_all e).2 x hx).2
    · exact Or.inr h2
theorem rdC_fit (s : St) : Fit (fun c => attrS c.attrs ≠ 0) (rdC true s) (rdC false s) := by
  unfold rdC
  rcases rdAs_fit (rdT 200 (rdT 32 s).2).2 with h | ⟨h1, h2⟩
  · exact Or.inl (by rw [h])
  · exact Or.inr ⟨h1, h2⟩
theorem dec_same (b : List UInt8) : decS true b = decS false b := by
  unfold decS
  rcases rep_fit rdC_fit (rdC_none _) (rdC_none _) (rdLen 4 (some b)).1 (rdLen 4 (some b)).2 with h | ⟨h1, h2⟩
  · have e : rdS true b = rdS false b := h
    rw [e]
  · have e1 : (rdS true b).2 = none := h1
    rw [if_neg (by rw [e1]; simp), if_neg]
    rintro ⟨g1, g2⟩
    rcases h2 with ⟨x, hx, hb⟩ | h2
    · exact hb ((sub_all g2).2 x hx).2.2.2
    · have e2 : (rdS false b).2 = none := h2
      rw [e2] at g1
      cases g1

theorem flat_few {α : Type} {f : α → List UInt8} {K : Nat} : ∀ (l : List α), (∀ x ∈ l, (f x).length ≤ K) → (l.map f).flatten.length ≤ l.length * K
  | [], _ => by simp
  | x :: l, h => by
    have h1 := h x (by simp)
    have h2 := flat_few l fun y hy => h y (by simp [hy])
    rw [List.map_cons, List.flatten_cons, List.length_append, List.length_cons, Nat.add_mul]
    omega
theorem encV_few {d : VD} (h : checkS (vv d) = 0) : (encV d).length ≤ 4220 := by
  obtain ⟨k, n, t, p, ln, cp, ls⟩ := d
  have hc := check_ways h
  simp only at hc
  have h0 := putN_few (n := k) (by omega) (by omega)
  unfold encV
  simp only
  rw [List.length_append]
  rcases hc with ⟨h1, h2, h3, h4, h5⟩ | ⟨h1, h2, h3, h4⟩ | ⟨h1, h2, h3, h4, h5⟩
  · have := putN_few (n := n) (by omega) (by omega)
    rw [if_pos h1]
    omega
  · have := putT_few (s := t.data.toList) (by simp; omega)
    simp at this
    rw [if_neg (by omega), if_pos h1]
    omega
  · have := putN_few (n := (ls.length : Int)) (by omega) (by omega)
    have h6 := flat_few (f := fun t : ByteArray => putT t.data.toList) (K := 210) ls fun x hx => by
      have h7 := h5 x hx
      have := putT_few (s := x.data.toList) (by simp; omega)
      simp at this
      omega
    rw [if_neg (by omega), if_neg (by omega), List.length_append]
    omega
theorem encA_few {a : AD} (hn : a.name.size ≤ 32) (h : checkS (vv a.val) = 0) : (encA a).length ≤ 4262 := by
  have h1 := encV_few h
  have := putT_few (s := a.name.data.toList) (by simp; omega)
  simp at this
  unfold encA
  rw [List.length_append]
  omega
theorem encC_few {c : CT} (hk : c.kind.size ≤ 32) (hy : c.key.size ≤ 200) (h : attrS c.attrs = 0) : (encC c).length ≤ 85502 := by
  obtain ⟨h1, h2⟩ := attr_all h
  have e1 := putT_few (s := c.kind.data.toList) (by simp; omega)
  have e2 := putT_few (s := c.key.data.toList) (by simp; omega)
  have e3 := putN_few (n := (c.attrs.length : Int)) (by omega) (by omega)
  have e4 := flat_few (f := encA) (K := 4262) c.attrs fun x hx => encA_few (h2 x hx).1 (h2 x hx).2
  simp at e1 e2
  unfold encC
  rw [List.length_append, List.length_append, List.length_append]
  omega
theorem encS_few {l : List CT} (h : subS l = 0) : (encS l).length ≤ 342018 := by
  obtain ⟨h1, h2⟩ := sub_all h
  have e3 := putN_few (n := (l.length : Int)) (by omega) (by omega)
  have e4 := flat_few (f := encC) (K := 85502) l fun x hx => encC_few (by have := key_small (h2 x hx).1; simpa using this) (by have := valid_size (h2 x hx).2.2.1; simpa using this) (h2 x hx).2.2.2
  unfold encS
  rw [List.length_append]
  omega

end Go.Proofs.YtamkmdlfhlbbeaaGreatDoor.wire
