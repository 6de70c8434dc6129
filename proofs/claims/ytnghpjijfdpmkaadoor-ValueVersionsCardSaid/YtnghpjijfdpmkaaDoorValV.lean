/- Versions of three numbers, said plainly. No program in sight. -/
import Derived.Test.YtnghpjijfdpmkaaDoorValQ
namespace Go.Proofs.YtnghpjijfdpmkaaDoor.value
open Go.Proofs.YtnghpjijfdpmkaaDoor.text

theorem cutD_digs : ∀ l : List UInt8, l.all digB = true → cutD l = none
  | [], _ => rfl
  | c :: r, h => by
    rw [List.all_cons, Bool.and_eq_true] at h
    have hc := digB_bd h.1
    rw [cutD, if_neg (by omega), cutD_digs r h.2]
    rfl
theorem cutD_app : ∀ (l r : List UInt8), l.all digB = true → cutD (l ++ 46 :: r) = some (l, r)
  | [], r, _ => by
    show cutD (46 :: r) = _
    rw [cutD, if_pos (by decide)]
  | c :: l, r, h => by
    rw [List.all_cons, Bool.and_eq_true] at h
    have hc := digB_bd h.1
    show cutD (c :: (l ++ 46 :: r)) = _
    rw [cutD, if_neg (by omega), cutD_app l r h.2]
    rfl
theorem itoa_digs {n : Int} (h : 0 ≤ n) : (Lib.itoa n).all digB = true := by
  rw [Lib.itoa, if_neg (by omega)]
  exact dec_digits _
theorem partN_itoa {n : Int} (h : 0 ≤ n) (h2 : n ≤ 999999) : partN (Lib.itoa n) = some n := by
  have e : parseS (Lib.itoa n) = (n, 0) := by rw [parse_itoa, if_neg (by omega)]
  rw [partN, e, if_pos ⟨rfl, h, h2⟩]
/-- A version of three numbers. -/
def ver3 (a b c : Int) : List UInt8 := Lib.itoa a ++ 46 :: (Lib.itoa b ++ 46 :: Lib.itoa c)
theorem verS_ver3 {a b c : Int} (ha : 0 ≤ a ∧ a ≤ 999999) (hb : 0 ≤ b ∧ b ≤ 999999) (hc : 0 ≤ c ∧ c ≤ 999999) : verS (ver3 a b c) = some (a, b, c) := by
  unfold verS ver3
  rw [cutD_app _ _ (itoa_digs ha.1)]
  simp only
  rw [cutD_app _ _ (itoa_digs hb.1)]
  simp only
  rw [cutD_digs _ (itoa_digs hc.1), partN_itoa ha.1 ha.2, partN_itoa hb.1 hb.2, partN_itoa hc.1 hc.2]
theorem check_ver3 {a b c : Int} (ha : 0 ≤ a ∧ a ≤ 999999) (hb : 0 ≤ b ∧ b ≤ 999999) (hc : 0 ≤ c ∧ c ≤ 999999) : checkS ⟨4, 0, ver3 a b c, []⟩ = 0 := by
  unfold checkS shapeS
  simp [verS_ver3 ha hb hc]
theorem compare_ver3 {a b c x y z : Int} (ha : 0 ≤ a ∧ a ≤ 999999) (hb : 0 ≤ b ∧ b ≤ 999999) (hc : 0 ≤ c ∧ c ≤ 999999) (hx : 0 ≤ x ∧ x ≤ 999999) (hy : 0 ≤ y ∧ y ≤ 999999) (hz : 0 ≤ z ∧ z ≤ 999999) :
    compareS ⟨4, 0, ver3 a b c, []⟩ ⟨4, 0, ver3 x y z, []⟩ = (cmpV (some (a, b, c)) (some (x, y, z)), 0) := by
  unfold compareS
  rw [check_ver3 ha hb hc, check_ver3 hx hy hz, verS_ver3 ha hb hc, verS_ver3 hx hy hz]
  simp
theorem nDig_le : ∀ (k u : Nat), 1 ≤ k → u < 10 ^ k → Lib.nDigits u ≤ k
  | 0, _, h, _ => by omega
  | 1, u, _, h => by rw [Lib.nDigits_small (by simpa using h)]; omega
  | k + 2, u, _, h => by
    by_cases h10 : u < 10
    · rw [Lib.nDigits_small h10]; omega
    · rw [Lib.nDigits_big h10]
      have := nDig_le (k + 1) (u / 10) (by omega) (Nat.div_lt_of_lt_mul (by rw [Nat.pow_succ, Nat.mul_comm] at h; exact h))
      omega
theorem itoa_short {n : Int} (h : 0 ≤ n) (h2 : n ≤ 999999) : (Lib.itoa n).length ≤ 6 := by
  rw [Lib.itoa, if_neg (by omega), Lib.decDigits_length]
  have : n.toNat < 10 ^ 6 := by omega
  exact nDig_le 6 _ (by omega) this

end Go.Proofs.YtnghpjijfdpmkaaDoor.value

