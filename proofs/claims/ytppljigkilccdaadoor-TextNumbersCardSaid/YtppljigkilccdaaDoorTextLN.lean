/- The law TextNumbers: the decimal form of any number is the reference's, and is read as the number, or is out of range. -/
import Derived.Test.YtppljigkilccdaaDoorTextAw
namespace Go.Proofs.YtppljigkilccdaaDoor.law
open Go.RowKit Go.Proofs.YtppljigkilccdaaDoor.text

theorem digit_ofNat {d : Nat} (h : d < 10) : digB (UInt8.ofNat (48 + d)) = true := by
  unfold digB
  have : (UInt8.ofNat (48 + d)).toNat = 48 + d := by simp; omega
  rw [this]
  simp; omega
theorem dec_digits (u : Nat) : (Lib.decDigits u).all digB = true := by
  induction u using Nat.strongRecOn with
  | _ u ih =>
    by_cases h : u < 10
    · rw [Lib.decDigits, dif_pos h]
      rw [List.all_cons, digit_ofNat h]
      rfl
    · rw [Lib.decDigits, dif_neg h, List.all_append, ih (u / 10) (by omega)]
      rw [List.all_cons, digit_ofNat (show u % 10 < 10 by omega)]
      rfl
theorem dec_val (u : Nat) : valFrom 0 (Lib.decDigits u) = u := by
  induction u using Nat.strongRecOn with
  | _ u ih =>
    by_cases h : u < 10
    · rw [Lib.decDigits, dif_pos h]
      have : (UInt8.ofNat (48 + u)).toNat = 48 + u := by simp; omega
      show 10 * 0 + ((UInt8.ofNat (48 + u)).toNat - 48) = u
      rw [this]; omega
    · rw [Lib.decDigits, dif_neg h, valFrom_snoc, ih (u / 10) (by omega)]
      have : (UInt8.ofNat (48 + u % 10)).toNat = 48 + u % 10 := by simp; omega
      rw [this]; omega
theorem dec_head (u : Nat) (h : u ≠ 0) : (Lib.decDigits u).head? ≠ some 48 := by
  induction u using Nat.strongRecOn with
  | _ u ih =>
    by_cases h10 : u < 10
    · rw [Lib.decDigits, dif_pos h10]
      intro e
      have e1 : UInt8.ofNat (48 + u) = 48 := by simpa using e
      have e2 := congrArg UInt8.toNat e1
      have : (UInt8.ofNat (48 + u)).toNat = 48 + u := by simp; omega
      rw [this] at e2
      have : (48 : UInt8).toNat = 48 := rfl
      omega
    · rw [Lib.decDigits, dif_neg h10]
      have hne : Lib.decDigits (u / 10) ≠ [] := by
        intro e
        have := Lib.decDigits_length (u / 10)
        rw [e] at this
        have := Lib.nDigits_pos (u / 10)
        simp at *
        omega
      have := ih (u / 10) (by omega) (by omega)
      cases hd : Lib.decDigits (u / 10) with
      | nil => exact absurd hd hne
      | cons a r => rw [hd] at this; simpa using this
theorem dec_ne (u : Nat) : Lib.decDigits u ≠ [] := by
  intro e
  have h1 := Lib.decDigits_length u
  rw [e] at h1
  have := Lib.nDigits_pos u
  simp at h1
  omega
theorem digs_itoa (n : Int) : digsOf (Lib.itoa n) = Lib.decDigits n.natAbs := by
  unfold Lib.itoa
  split
  · rfl
  · have e : n.toNat = n.natAbs := by omega
    rw [e]
    have hd := dec_digits n.natAbs
    cases h : Lib.decDigits n.natAbs with
    | nil => rfl
    | cons c r =>
      rw [h, List.all_cons, Bool.and_eq_true] at hd
      have := digB_bd hd.1
      rw [digsOf, if_neg (by omega)]
theorem parse_itoa (n : Int) : parseS (Lib.itoa n) = if n < -1099511627776 ∨ 1099511627776 < n then (0, 3) else (n, 0) := by
  unfold parseS
  rw [digs_itoa, dec_digits, dec_val]
  have h1 : ¬ (Lib.decDigits n.natAbs = [] ∨ true = false ∨ ((Lib.decDigits n.natAbs).head? = some 48 ∧ Lib.itoa n ≠ [48])) := by
    rintro (h | h | ⟨h, h2⟩)
    · exact dec_ne _ h
    · cases h
    · by_cases h0 : n.natAbs = 0
      · have : n = 0 := by omega
        subst this
        exact h2 itoa_zero
      · exact dec_head _ h0 h
  rw [if_neg h1]
  have hlen : 13 < (Lib.decDigits n.natAbs).length → 1099511627776 < n.natAbs := by
    intro h
    rw [Lib.decDigits_length] at h
    have hne : n.natAbs ≠ 0 := by
      intro e
      rw [e, Lib.nDigits_small (by decide)] at h
      omega
    have h2 := Lib.pow_le_of_nDigits n.natAbs hne
    have h3 : 10 ^ 13 ≤ 10 ^ (Lib.nDigits n.natAbs - 1) := Nat.pow_le_pow_right (by decide) (by omega)
    have h4 : (10 : Nat) ^ 13 = 10000000000000 := by decide
    omega
  have hl : (Lib.decDigits n.natAbs).length < (Lib.itoa n).length ↔ n < 0 := by
    unfold Lib.itoa
    split
    · rename_i h
      simp [h]
    · rename_i h
      have e : n.toNat = n.natAbs := by omega
      rw [e]
      simp [h]
  by_cases hb : n < -1099511627776 ∨ 1099511627776 < n
  · rw [if_pos hb, if_pos (Or.inr (by omega))]
  · rw [if_neg hb, if_neg (by intro e; rcases e with e | e; (have := hlen e; omega); omega)]
    by_cases h0 : n < 0
    · rw [if_pos (hl.2 h0)]
      congr 1
      omega
    · rw [if_neg (fun e => h0 (hl.1 e))]
      congr 1
      omega
theorem itoa_len (n : Int) (h0 : -9223372036854775808 ≤ n) (h1 : n ≤ 9223372036854775807) : (⟨(Lib.itoa n).toArray⟩ : ByteArray).size ≤ 140737488355328 := by
  show (Lib.itoa n).toArray.size ≤ _
  rw [List.size_toArray]
  have hd : ∀ u : Nat, u ≤ 9223372036854775808 → (Lib.decDigits u).length ≤ 19 := by
    intro u hu
    by_cases h : u = 0
    · subst h
      rw [Lib.decDigits_length, Lib.nDigits_small (by decide)]
      decide
    · have := digPre_len hu
      rw [digPre, if_neg h] at this
      exact this
  unfold Lib.itoa
  split
  · have := hd n.natAbs (by omega)
    rw [List.length_cons]; omega
  · have := hd n.toNat (by omega)
    omega

set_option maxRecDepth 100000 in
set_option maxHeartbeats 1000000 in
theorem numbers_walk (n : Int) (w : World) (h0 : -9223372036854775808 ≤ n) (h1 : n ≤ 9223372036854775807) (hT : Tabs w) :
    Calls Tryd.prog 5 #[.int .i64 n] w fun e w' => e = .returned (.bool true) ∧ Below w.heap.size w w' := by
  replace hT := Lib.hid hT
  go_enter Tryd.func5, Tryd.ntmps5
  go_wp2_with fail
  refine (awake_any _ hT.out).mono ?_
  rintro e w1 ⟨rfl, hb1⟩
  have hT1 := Lib.hid (hT.out.below hb1)
  replace hb1 := Lib.hid hb1
  go_wp2_with fail
  refine (number_any n _ h0 h1 hT1.out).mono ?_
  rintro e w2 ⟨rfl, hb2⟩
  have hT2 := Lib.hid (hT1.out.below hb2)
  replace hb2 := Lib.hid (hb1.out.trans (hb2.mono hb1.out.size))
  go_wp2_with fail
  refine (parse_any _ _ (itoa_len n h0 h1) hT2.out).mono ?_
  rintro e w3 ⟨rfl, hb3⟩
  rw [show parseV (⟨(Lib.itoa n).toArray⟩ : ByteArray).data.toList = .tuple #[.int .i64 (parseS (Lib.itoa n)).1, .int .i64 (parseS (Lib.itoa n)).2] from rfl, parse_itoa]
  replace hb3 := Lib.hid (hb2.out.trans (hb3.mono hb2.out.size))
  by_cases hr : n < -1099511627776 ∨ 1099511627776 < n
  · rw [if_pos hr]
    go_wp2_with fail
    refine (number_ref n _ h0 h1).mono ?_
    rintro e w' ⟨rfl, rfl⟩
    rcases hr with hr | hr
    all_goals
      go_wp2
      go_ret
      exact ⟨rfl, hb3.out⟩
  · rw [if_neg hr]
    go_wp2_with fail
    refine (number_ref n _ h0 h1).mono ?_
    rintro e w' ⟨rfl, rfl⟩
    go_wp2
    go_ret
    exact ⟨rfl, hb3.out⟩

end Go.Proofs.YtppljigkilccdaaDoor.law
