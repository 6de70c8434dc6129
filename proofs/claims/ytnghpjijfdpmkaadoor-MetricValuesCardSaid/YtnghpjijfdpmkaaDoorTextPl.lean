/- Plain laws of quoted texts and of decimal numbers. No program in sight. -/
import Derived.Test.YtnghpjijfdpmkaaDoorTextF
import Derived.Test.YtnghpjijfdpmkaaDoorTextU
import Derived.Lib.ItoaNum
namespace Go.Proofs.YtnghpjijfdpmkaaDoor.text

theorem unq_escL : ∀ l : List UInt8, unqF false (escL l) = some l
  | [] => rfl
  | c :: r => by
    have ih := unq_escL r
    have e : escL (c :: r) = esc c ++ escL r := by simp [escL]
    rw [e]
    by_cases h : c.toNat = 34 ∨ c.toNat = 92
    · rw [esc_two h]
      show unqF false (92 :: c :: escL r) = _
      have h92 : (92 : UInt8).toNat = 92 := rfl
      rw [unqF, if_neg (by omega), if_pos h92, unqF, if_pos h, ih]
      rfl
    · rw [esc_one (by omega) (by omega)]
      show unqF false (c :: escL r) = _
      rw [unqF, if_neg (by omega), if_neg (by omega), ih]
      rfl
theorem unquoteS_quote (l : List UInt8) : unquoteS (quoteS l) = some l := by
  unfold unquoteS quoteS
  have h1 : ¬ ((34 :: (escL l ++ [34])).length < 2 ∨ (34 :: (escL l ++ [34])).head? ≠ some 34 ∨ (34 :: (escL l ++ [34])).getLast? ≠ some 34) := by
    have : (34 :: (escL l ++ [34])).getLast? = some 34 := by
      rw [← List.cons_append, List.getLast?_append]; rfl
    rw [this]
    simp
  rw [if_neg h1]
  have h2 : List.drop 1 (List.take ((34 :: (escL l ++ [34])).length - 1) (34 :: (escL l ++ [34]))) = escL l := by
    simp
  rw [h2]
  exact unq_escL l
theorem esc_unq : ∀ (l b : List UInt8), (unqF false l = some b → escL b = l) ∧ (unqF true l = some b → escL b = 92 :: l)
  | [], b => by
    constructor
    · intro h
      rw [unqF] at h
      injection h with h
      subst h
      rfl
    · intro h
      rw [unqF] at h
      cases h
  | c :: r, b => by
    have hc : ∀ b', escL (c :: b') = esc c ++ escL b' := fun b' => by simp [escL]
    constructor
    · intro h
      rw [unqF] at h
      split at h
      · cases h
      · rename_i h34
        split at h
        · rename_i h92
          have e : c = 92 := UInt8.toNat_inj.1 h92
          rw [e]
          exact (esc_unq r b).2 h
        · rename_i h92
          obtain ⟨b', h1, rfl⟩ := Option.map_eq_some_iff.1 h
          rw [hc, esc_one h34 h92, (esc_unq r b').1 h1]
          rfl
    · intro h
      rw [unqF] at h
      split at h
      · rename_i hq
        obtain ⟨b', h1, rfl⟩ := Option.map_eq_some_iff.1 h
        rw [hc, esc_two hq, (esc_unq r b').1 h1]
        rfl
      · cases h
theorem quote_unquoteS {l b : List UInt8} (h : unquoteS l = some b) : quoteS b = l := by
  unfold unquoteS at h
  split at h
  · cases h
  · rename_i hn
    have e := (esc_unq _ b).1 h
    have h1 : 2 ≤ l.length := by
      rcases Nat.lt_or_ge l.length 2 with h9 | h9
      · exact absurd (Or.inl h9) hn
      · exact h9
    have h2 : l.head? = some 34 := Classical.byContradiction fun h9 => hn (Or.inr (Or.inl h9))
    have h3 : l.getLast? = some 34 := Classical.byContradiction fun h9 => hn (Or.inr (Or.inr h9))
    unfold quoteS
    rw [e]
    obtain ⟨a, r, rfl⟩ : ∃ a r, l = a :: r := by
      cases l with
      | nil => simp at h1
      | cons a r => exact ⟨a, r, rfl⟩
    simp only [List.head?_cons, Option.some.injEq] at h2
    subst h2
    obtain ⟨x, rfl⟩ : ∃ x, r = x ++ [34] := by
      rw [List.length_cons] at h1
      have hr : r ≠ [] := by intro e; rw [e] at h1; simp at h1
      rw [List.getLast?_cons] at h3
      refine ⟨r.dropLast, ?_⟩
      have h4 : r.getLast? = some (r.getLast hr) := List.getLast?_eq_some_getLast hr
      rw [h4] at h3
      simp at h3
      rw [← h3, List.dropLast_concat_getLast]
    simp
theorem digit_ofNat {d : Nat} (h : d < 10) : digB (UInt8.ofNat (48 + d)) = true := by
  unfold digB
  have : (UInt8.ofNat (48 + d)).toNat = 48 + d := by simp; omega
  rw [this]
  simp; omega
theorem dec_digits (u : Nat) : (Lib.decDigits u).all digB = true := by
  induction u using Nat.strongRecOn with
  | _ u ih =>
    by_cases h : u < 10
    · rw [Lib.decDigits, dif_pos h]
      rw [List.all_cons, digit_ofNat h]
      rfl
    · rw [Lib.decDigits, dif_neg h, List.all_append, ih (u / 10) (by omega)]
      rw [List.all_cons, digit_ofNat (show u % 10 < 10 by omega)]
      rfl
theorem dec_val (u : Nat) : valFrom 0 (Lib.decDigits u) = u := by
  induction u using Nat.strongRecOn with
  | _ u ih =>
    by_cases h : u < 10
    · rw [Lib.decDigits, dif_pos h]
      have : (UInt8.ofNat (48 + u)).toNat = 48 + u := by simp; omega
      show 10 * 0 + ((UInt8.ofNat (48 + u)).toNat - 48) = u
      rw [this]; omega
    · rw [Lib.decDigits, dif_neg h, valFrom_snoc, ih (u / 10) (by omega)]
      have : (UInt8.ofNat (48 + u % 10)).toNat = 48 + u % 10 := by simp; omega
      rw [this]; omega
theorem dec_head (u : Nat) (h : u ≠ 0) : (Lib.decDigits u).head? ≠ some 48 := by
  induction u using Nat.strongRecOn with
  | _ u ih =>
    by_cases h10 : u < 10
    · rw [Lib.decDigits, dif_pos h10]
      intro e
      have e1 : UInt8.ofNat (48 + u) = 48 := by simpa using e
      have e2 := congrArg UInt8.toNat e1
      have : (UInt8.ofNat (48 + u)).toNat = 48 + u := by simp; omega
      rw [this] at e2
      have : (48 : UInt8).toNat = 48 := rfl
      omega
    · rw [Lib.decDigits, dif_neg h10]
      have hne : Lib.decDigits (u / 10) ≠ [] := by
        intro e
        have := Lib.decDigits_length (u / 10)
        rw [e] at this
        have := Lib.nDigits_pos (u / 10)
        simp at *
        omega
      have := ih (u / 10) (by omega) (by omega)
      cases hd : Lib.decDigits (u / 10) with
      | nil => exact absurd hd hne
      | cons a r => rw [hd] at this; simpa using this
theorem dec_ne (u : Nat) : Lib.decDigits u ≠ [] := by
  intro e
  have h1 := Lib.decDigits_length u
  rw [e] at h1
  have := Lib.nDigits_pos u
  simp at h1
  omega
theorem digs_itoa (n : Int) : digsOf (Lib.itoa n) = Lib.decDigits n.natAbs := by
  unfold Lib.itoa
  split
  · rfl
  · have e : n.toNat = n.natAbs := by omega
    rw [e]
    have hd := dec_digits n.natAbs
    cases h : Lib.decDigits n.natAbs with
    | nil => rfl
    | cons c r =>
      rw [h, List.all_cons, Bool.and_eq_true] at hd
      have := digB_bd hd.1
      rw [digsOf, if_neg (by omega)]
theorem parse_itoa (n : Int) : parseS (Lib.itoa n) = if n < -1099511627776 ∨ 1099511627776 < n then (0, 3) else (n, 0) := by
  unfold parseS
  rw [digs_itoa, dec_digits, dec_val]
  have h1 : ¬ (Lib.decDigits n.natAbs = [] ∨ true = false ∨ ((Lib.decDigits n.natAbs).head? = some 48 ∧ Lib.itoa n ≠ [48])) := by
    rintro (h | h | ⟨h, h2⟩)
    · exact dec_ne _ h
    · cases h
    · by_cases h0 : n.natAbs = 0
      · have : n = 0 := by omega
        subst this
        exact h2 itoa_zero
      · exact dec_head _ h0 h
  rw [if_neg h1]
  have hlen : 13 < (Lib.decDigits n.natAbs).length → 1099511627776 < n.natAbs := by
    intro h
    rw [Lib.decDigits_length] at h
    have hne : n.natAbs ≠ 0 := by
      intro e
      rw [e, Lib.nDigits_small (by decide)] at h
      omega
    have h2 := Lib.pow_le_of_nDigits n.natAbs hne
    have h3 : 10 ^ 13 ≤ 10 ^ (Lib.nDigits n.natAbs - 1) := Nat.pow_le_pow_right (by decide) (by omega)
    have h4 : (10 : Nat) ^ 13 = 10000000000000 := by decide
    omega
  have hl : (Lib.decDigits n.natAbs).length < (Lib.itoa n).length ↔ n < 0 := by
    unfold Lib.itoa
    split
    · rename_i h
      simp [h]
    · rename_i h
      have e : n.toNat = n.natAbs := by omega
      rw [e]
      simp [h]
  by_cases hb : n < -1099511627776 ∨ 1099511627776 < n
  · rw [if_pos hb, if_pos (Or.inr (by omega))]
  · rw [if_neg hb, if_neg (by intro e; rcases e with e | e; (have := hlen e; omega); omega)]
    by_cases h0 : n < 0
    · rw [if_pos (hl.2 h0)]
      congr 1
      omega
    · rw [if_neg (fun e => h0 (hl.1 e))]
      congr 1
      omega
theorem itoa_len (n : Int) (h0 : -9223372036854775808 ≤ n) (h1 : n ≤ 9223372036854775807) : (⟨(Lib.itoa n).toArray⟩ : ByteArray).size ≤ 140737488355328 := by
  show (Lib.itoa n).toArray.size ≤ _
  rw [List.size_toArray]
  have hd : ∀ u : Nat, u ≤ 9223372036854775808 → (Lib.decDigits u).length ≤ 19 := by
    intro u hu
    by_cases h : u = 0
    · subst h
      rw [Lib.decDigits_length, Lib.nDigits_small (by decide)]
      decide
    · have := digPre_len hu
      rw [digPre, if_neg h] at this
      exact this
  unfold Lib.itoa
  split
  · have := hd n.natAbs (by omega)
    rw [List.length_cons]; omega
  · have := hd n.toNat (by omega)
    omega


end Go.Proofs.YtnghpjijfdpmkaaDoor.text

