/- The tokens of a quoted text and of a number. No program in sight. -/
import Derived.Test.YtpildefkhlejgaaDoorLexP
import Derived.Test.YtpildefkhlejgaaDoorValV
import Derived.Lib.ItoaLen
namespace Go.Proofs.YtpildefkhlejgaaDoor.lex
open Go.Proofs.YtpildefkhlejgaaDoor.text Go.Proofs.YtpildefkhlejgaaDoor.value

theorem lqS_escL : ∀ (l r : List UInt8), l.all okT = true → lqS false (escL l ++ 34 :: r) = some ((escL l).length + 1)
  | [], r, _ => by show lqS false (34 :: r) = some 1; rw [lqS, if_neg (by decide), if_pos (by decide)]
  | c :: l, r, h => by
    rw [List.all_cons, Bool.and_eq_true] at h
    have hc : 32 ≤ c.toNat := by have := h.1; unfold okT at this; simp at this; exact this.1
    have e : escL (c :: l) = esc c ++ escL l := by simp [escL]
    have ih := lqS_escL l r h.2
    rw [e]
    by_cases hq : c.toNat = 34 ∨ c.toNat = 92
    · rw [esc_two hq]
      show lqS false (92 :: c :: (escL l ++ 34 :: r)) = _
      rw [lqS, if_neg (by decide), if_neg (by decide), if_pos (by decide), lqS, if_neg (by omega), ih]
      simp only [List.length_append, List.length_cons, List.length_nil, Option.map_some]
      congr 1
      omega
    · rw [esc_one (by omega) (by omega)]
      show lqS false (c :: (escL l ++ 34 :: r)) = _
      rw [lqS, if_neg (by omega), if_neg (by omega), if_neg (by omega), ih]
      simp only [List.length_append, List.length_cons, List.length_nil, Option.map_some]
      congr 1
theorem next_quote {t : List UInt8} (h : validS t = true) : nextS (quoteS t) = .ok (⟨3, t, 0⟩, (quoteS t).length) := by
  have ha : t.all okT = true := by
    unfold validS at h
    simp only [Bool.and_eq_true] at h
    exact h.2
  have e : quoteS t = 34 :: (escL t ++ [34]) := rfl
  rw [e, nx_text (by decide), lqS_escL t [] ha]
  have e2 : (34 :: (escL t ++ [34])).take (1 + ((escL t).length + 1)) = quoteS t := by
    rw [← e]
    apply List.take_of_length_le
    rw [quoteS_len]
    omega
  simp only
  rw [e2, unquoteS_quote]
  simp only [h, if_true]
  congr 2
  simp
  omega
theorem toks_quote {t : List UInt8} (h : validS t = true) : toksS (quoteS t) = .ok [⟨3, t, 0, 1⟩, ⟨6, [], 0, 1⟩] := by
  have hl : (quoteS t).length ≤ 30000 := by
    rw [quoteS_len]
    have h1 := escL_len t
    have h2 : t.length ≤ 200 := by unfold validS at h; simp only [Bool.and_eq_true, decide_eq_true_eq] at h; exact h.1.1
    omega
  rw [toksS_ok (by omega)]
  have hx := next_quote h
  have e : quoteS t = 34 :: (escL t ++ [34]) := rfl
  rw [e] at hx ⊢
  rw [tokS_tok (by unfold tokB; decide) hx, List.drop_length, tokS_nil]
  rfl

theorem span_all {p : UInt8 → Bool} : ∀ l : List UInt8, l.all p = true → spanN p l = l.length
  | [], _ => rfl
  | c :: r, h => by
    rw [List.all_cons, Bool.and_eq_true] at h
    rw [spanN, if_pos h.1, span_all r h.2, List.length_cons]
    omega
theorem num_all : ∀ l : List UInt8, l.all digB = true → l.all numB = true
  | [], _ => rfl
  | c :: r, h => by
    rw [List.all_cons, Bool.and_eq_true] at h
    rw [List.all_cons, num_all r h.2]
    unfold numB
    rw [h.1]
    rfl
theorem letB_dig {c : UInt8} (h : digB c = true) : letB c = false := by
  have := digB_bd h
  exact letB_low (by omega)
/-- A number's text: a sign perhaps, then digits. -/
theorem itoa_shape (n : Int) : ∃ c r, Lib.itoa n = c :: r ∧ letB c = false ∧ numStart c r = true ∧ r.all digB = true ∧ tokB c ∧ cutD (c :: r) = none := by
  have hd := dec_digits n.natAbs
  cases hD : Lib.decDigits n.natAbs with
  | nil => exact absurd hD (dec_ne _)
  | cons d r =>
    rw [hD, List.all_cons, Bool.and_eq_true] at hd
    have hb := digB_bd hd.1
    by_cases h0 : n < 0
    · refine ⟨45, d :: r, by rw [Lib.itoa, if_pos h0, hD], by decide, ?_, by rw [List.all_cons, hd.1, hd.2]; rfl, by unfold tokB; decide, ?_⟩
      · show (digB 45 || (decide ((45 : UInt8).toNat = 45) && digB d)) = true
        rw [hd.1]; rfl
      · rw [cutD, if_neg (by decide), cutD_digs (d :: r) (by rw [List.all_cons, hd.1, hd.2]; rfl)]; rfl
    · have e : n.toNat = n.natAbs := by omega
      refine ⟨d, r, by rw [Lib.itoa, if_neg h0, e, hD], letB_dig hd.1, ?_, hd.2, ⟨by omega, by omega, by omega, by omega⟩, cutD_digs _ (by rw [List.all_cons, hd.1, hd.2]; rfl)⟩
      unfold numStart
      rw [hd.1]; rfl
theorem toks_itoa (n : Int) (h0 : -9223372036854775808 ≤ n) (h1 : n ≤ 9223372036854775807) :
    toksS (Lib.itoa n) = if n < -1099511627776 ∨ 1099511627776 < n then .error (3, 1) else .ok [⟨2, [], n, 1⟩, ⟨6, [], 0, 1⟩] := by
  obtain ⟨c, r, e, hl, hn, hr, ht, hcut⟩ := itoa_shape n
  have hsp := span_all r (num_all r hr)
  have hlen : (Lib.itoa n).length ≤ 30000 := by
    have h2 := Lib.nDigits_le20 n.natAbs (by omega)
    have h3 := Lib.decDigits_length n.natAbs
    unfold Lib.itoa
    split
    · rw [List.length_cons]; omega
    · have : n.toNat = n.natAbs := by omega
      rw [this]; omega
  rw [toksS_ok (by omega)]
  have hp := parse_itoa n
  have hv : (verS (Lib.itoa n)).isSome = false := by rw [e, k0_none hcut]; rfl
  have htk : (c :: r).take (1 + spanN numB r) = Lib.itoa n := by
    rw [e, hsp]
    apply List.take_of_length_le
    rw [List.length_cons]
    omega
  rw [e]
  by_cases ho : n < -1099511627776 ∨ 1099511627776 < n
  · rw [if_pos ho]
    rw [if_pos ho] at hp
    rcases num_ways hl hn htk with ⟨h2, _⟩ | ⟨_, h2, _⟩ | ⟨_, _, hx⟩
    · rw [hv] at h2; cases h2
    · rw [hp] at h2; cases h2
    · rw [hp] at hx
      exact tokS_err ht hx
  · rw [if_neg ho]
    rw [if_neg ho] at hp
    rcases num_ways hl hn htk with ⟨h2, _⟩ | ⟨_, _, hx⟩ | ⟨_, h2, _⟩
    · rw [hv] at h2; cases h2
    · rw [hp] at hx
      rw [tokS_tok ht hx, hsp, List.drop_of_length_le (by rw [List.length_cons]; omega), tokS_nil]
      rfl
    · rw [hp] at h2; exact absurd rfl h2

end Go.Proofs.YtpildefkhlejgaaDoor.lex
