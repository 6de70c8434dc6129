/- Decimal numbers and versions of three numbers, said plainly. No program in sight. -/
import Derived.Test.YtlohdmghaeabjaaGreatDoorValC
import Derived.Lib.ItoaNum
namespace Go.Proofs.YtlohdmghaeabjaaGreatDoor.text

theorem digit_ofNat {d : Nat} (h : d < 10) : digB (UInt8.ofNat (48 + d)) = true := by
  unfold digB
  have : (UInt8.ofNat (48 + d)).toNat = 48 + d := by simp; omega
  rw [this]
  simp; omega
theorem dec_digits (u : Nat) : (Lib.decDigits u).all digB = true := by
  induction u using Nat.strongRecOn with
  | _ u ih =>
    by_cases h : u < 10
    · rw [Lib.decDigits, dif_pos h]
      rw [List.all_cons, digit_ofNat h]
      rfl
    · rw [Lib.decDigits, dif_neg h, List.all_append, ih (u / 10) (by omega)]
      rw [List.all_cons, digit_ofNat (show u % 10 < 10 by omega)]
      rfl
theorem dec_val (u : Nat) : valFrom 0 (Lib.decDigits u) = u := by
  induction u using Nat.strongRecOn with
  | _ u ih =>
    by_cases h : u < 10
    · rw [Lib.decDigits, dif_pos h]
      have : (UInt8.ofNat (48 + u)).toNat = 48 + u := by simp; omega
      show 10 * 0 + ((UInt8.ofNat (48 + u)).toNat - 48) = u
      rw [this]; omega
    · rw [Lib.decDigits, dif_neg h, valFrom_snoc, ih (u / 10) (by omega)]
      have : (UInt8.ofNat (48 + u % 10)).toNat = 48 + u % 10 := by simp; omega
      rw [this]; omega
theorem dec_head (u : Nat) (h : u ≠ 0) : (Lib.decDigits u).head? ≠ some 48 := by
  induction u using Nat.strongRecOn with
  | _ u ih =>
    by_cases h10 : u < 10
    · rw [Lib.decDigits, dif_pos h10]
      intro e
      have e1 : UInt8.ofNat (48 + u) = 48 := by simpa using e
      have e2 := congrArg UInt8.toNat e1
      have : (UInt8.ofNat (48 + u)).toNat = 48 + u := by simp; omega
      rw [this] at e2
      have : (48 : UInt8).toNat = 48 := rfl
      omega
    · rw [Lib.decDigits, dif_neg h10]
      have hne : Lib.decDigits (u / 10) ≠ [] := by
        intro e
        have := Lib.decDigits_length (u / 10)
        rw [e] at this
        have := Lib.nDigits_pos (u / 10)
        simp at *
        omega
      have := ih (u / 10) (by omega) (by omega)
      cases hd : Lib.decDigits (u / 10) with
      | nil => exact absurd hd hne
      | cons a r => rw [hd] at this; simpa using this
theorem dec_ne (u : Nat) : Lib.decDigits u ≠ [] := by
  intro e
  have h1 := Lib.decDigits_length u
  rw [e] at h1
  have := Lib.nDigits_pos u
  simp at h1
  omega
theorem digs_itoa (n : Int) : digsOf (Lib.itoa n) = Lib.decDigits n.natAbs := by
  unfold Lib.itoa
  split
  · rfl
  · have e : n.toNat = n.natAbs := by omega
    rw [e]
    have hd := dec_digits n.natAbs
    cases h : Lib.decDigits n.natAbs with
    | nil => rfl
    | cons c r =>
      rw [h, List.all_cons, Bool.and_eq_true] at hd
      have := digB_bd hd.1
      rw [digsOf, if_neg (by omega)]
theorem parse_itoa (n : Int) : parseS (Lib.itoa n) = if n < -1099511627776 ∨ 1099511627776 < n then (0, 3) else (n, 0) := by
  unfold parseS
  rw [digs_itoa, dec_digits, dec_val]
  have h1 : ¬ (Lib.decDigits n.natAbs = [] ∨ true = false ∨ ((Lib.decDigits n.natAbs).head? = some 48 ∧ Lib.itoa n ≠ [48])) := by
    rintro (h | h | ⟨h, h2⟩)
    · exact dec_ne _ h
    · cases h
    · by_cases h0 : n.natAbs = 0
      · have : n = 0 := by omega
        subst this
        exact h2 itoa_zero
      · exact dec_head _ h0 h
  rw [if_neg h1]
  have hlen : 13 < (Lib.decDigits n.natAbs).length → 1099511627776 < n.natAbs := by
    intro h
    rw [Lib.decDigits_length] at h
    have hne : n.natAbs ≠ 0 := by
      intro e
      rw [e, Lib.nDigits_small (by decide)] at h
      omega
    have h2 := Lib.pow_le_of_nDigits n.natAbs hne
    have h3 : 10 ^ 13 ≤ 10 ^ (Lib.nDigits n.natAbs - 1) := Nat.pow_le_pow_right (by decide) (by omega)
    have h4 : (10 : Nat) ^ 13 = 10000000000000 := by decide
    omega
  have hl : (Lib.decDigits n.natAbs).length < (Lib.itoa n).length ↔ n < 0 := by
    unfold Lib.itoa
    split
    · rename_i h
      simp [h]
    · rename_i h
      have e : n.toNat = n.natAbs := by omega
      rw [e]
      simp [h]
  by_cases hb : n < -1099511627776 ∨ 1099511627776 < n
  · rw [if_pos hb, if_pos (Or.inr (by omega))]
  · rw [if_neg hb, if_neg (by intro e; rcases e with e | e; (have := hlen e; omega); omega)]
    by_cases h0 : n < 0
    · rw [if_pos (hl.2 h0)]
      congr 1
      omega
    · rw [if_neg (fun e => h0 (hl.1 e))]
      congr 1
      omega

end Go.Proofs.YtlohdmghaeabjaaGreatDoor.text
namespace Go.Proofs.YtlohdmghaeabjaaGreatDoor.value
open Go.Proofs.YtlohdmghaeabjaaGreatDoor.text

theorem cutD_digs : ∀ l : List UInt8, l.all digB = true → cutD l = none
  | [], _ => rfl
  | c :: r, h => by
    rw [List.all_cons, Bool.and_eq_true] at h
    have hc := digB_bd h.1
    rw [cutD, if_neg (by omega), cutD_digs r h.2]
    rfl
theorem cutD_app : ∀ (l r : List UInt8), l.all digB = true → cutD (l ++ 46 :: r) = some (l, r)
  | [], r, _ => by
    show cutD (46 :: r) = _
    rw [cutD, if_pos (by decide)]
  | c :: l, r, h => by
    rw [List.all_cons, Bool.and_eq_true] at h
    have hc := digB_bd h.1
    show cutD (c :: (l ++ 46 :: r)) = _
    rw [cutD, if_neg (by omega), cutD_app l r h.2]
    rfl
theorem itoa_digs {n : Int} (h : 0 ≤ n) : (Lib.itoa n).all digB = true := by
  rw [Lib.itoa, if_neg (by omega)]
  exact dec_digits _
theorem partN_itoa {n : Int} (h : 0 ≤ n) (h2 : n ≤ 999999) : partN (Lib.itoa n) = some n := by
  have e : parseS (Lib.itoa n) = (n, 0) := by rw [parse_itoa, if_neg (by omega)]
  rw [partN, e, if_pos ⟨rfl, h, h2⟩]
/-- A version of three numbers. -/
def ver3 (a b c : Int) : List UInt8 := Lib.itoa a ++ 46 :: (Lib.itoa b ++ 46 :: Lib.itoa c)
theorem verS_ver3 {a b c : Int} (ha : 0 ≤ a ∧ a ≤ 999999) (hb : 0 ≤ b ∧ b ≤ 999999) (hc : 0 ≤ c ∧ c ≤ 999999) : verS (ver3 a b c) = some (a, b, c) := by
  unfold verS ver3
  rw [cutD_app _ _ (itoa_digs ha.1)]
  simp only
  rw [cutD_app _ _ (itoa_digs hb.1)]
  simp only
  rw [cutD_digs _ (itoa_digs hc.1), partN_itoa ha.1 ha.2, partN_itoa hb.1 hb.2, partN_itoa hc.1 hc.2]
theorem check_ver3 {a b c : Int} (ha : 0 ≤ a ∧ a ≤ 999999) (hb : 0 ≤ b ∧ b ≤ 999999) (hc : 0 ≤ c ∧ c ≤ 999999) : checkS ⟨4, 0, ver3 a b c, []⟩ = 0 := by
  unfold checkS shapeS
  simp [verS_ver3 ha hb hc]
theorem compare_ver3 {a b c x y z : Int} (ha : 0 ≤ a ∧ a ≤ 999999) (hb : 0 ≤ b ∧ b ≤ 999999) (hc : 0 ≤ c ∧ c ≤ 999999) (hx : 0 ≤ x ∧ x ≤ 999999) (hy : 0 ≤ y ∧ y ≤ 999999) (hz : 0 ≤ z ∧ z ≤ 999999) :
    compareS ⟨4, 0, ver3 a b c, []⟩ ⟨4, 0, ver3 x y z, []⟩ = (cmpV (some (a, b, c)) (some (x, y, z)), 0) := by
  unfold compareS
  rw [check_ver3 ha hb hc, check_ver3 hx hy hz, verS_ver3 ha hb hc, verS_ver3 hx hy hz]
  simp
theorem nDig_le : ∀ (k u : Nat), 1 ≤ k → u < 10 ^ k → Lib.nDigits u ≤ k
  | 0, _, h, _ => by omega
  | 1, u, _, h => by rw [Lib.nDigits_small (by simpa using h)]; omega
  | k + 2, u, _, h => by
    by_cases h10 : u < 10
    · rw [Lib.nDigits_small h10]; omega
    · rw [Lib.nDigits_big h10]
      have := nDig_le (k + 1) (u / 10) (by omega) (Nat.div_lt_of_lt_mul (by rw [Nat.pow_succ, Nat.mul_comm] at h; exact h))
      omega
theorem itoa_short {n : Int} (h : 0 ≤ n) (h2 : n ≤ 999999) : (Lib.itoa n).length ≤ 6 := by
  rw [Lib.itoa, if_neg (by omega), Lib.decDigits_length]
  have : n.toNat < 10 ^ 6 := by omega
  exact nDig_le 6 _ (by omega) this

end Go.Proofs.YtlohdmghaeabjaaGreatDoor.value

