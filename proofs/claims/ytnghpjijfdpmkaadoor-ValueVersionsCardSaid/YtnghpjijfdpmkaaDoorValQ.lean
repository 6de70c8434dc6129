/- The reference's Parse gives what the program's gives; a source form is read as the value. No program in sight. -/
import Derived.Test.YtnghpjijfdpmkaaDoorValP
namespace Go.Proofs.YtnghpjijfdpmkaaDoor.value
open Go.Proofs.YtnghpjijfdpmkaaDoor.text

/-! Decimal numbers are the forms of the numbers that they read as. -/
theorem dec_of_digits : ∀ (n : Nat) (D : List UInt8), D.length = n → D ≠ [] → D.all digB = true → (D.head? = some 48 → D = [48]) → Lib.decDigits (valFrom 0 D) = D
  | 0, D, hn, h, _, _ => absurd (List.eq_nil_of_length_eq_zero hn) h
  | n + 1, D, hn, h, ha, h0 => by
    obtain ⟨E, c, rfl⟩ : ∃ E c, D = E ++ [c] := ⟨D.dropLast, D.getLast h, (List.dropLast_concat_getLast h).symm⟩
    rw [List.all_append, Bool.and_eq_true] at ha
    have hc : digB c = true := by simpa using ha.2
    obtain ⟨hc0, hc1⟩ := digB_bd hc
    have hof : UInt8.ofNat (48 + (c.toNat - 48)) = c := by
      apply UInt8.toNat_inj.1
      simp
      omega
    rw [valFrom_snoc]
    by_cases hE : E = []
    · subst hE
      have e : valFrom 0 [] = 0 := rfl
      rw [e, Lib.decDigits, dif_pos (by omega)]
      have e2 : 10 * 0 + (c.toNat - 48) = c.toNat - 48 := by omega
      rw [e2, hof]
      rfl
    · have hE0 : E.head? ≠ some 48 := by
        intro e
        have : (E ++ [c]).head? = some 48 := by
          cases E with
          | nil => exact absurd rfl hE
          | cons a r => simpa using e
        have h1 := h0 this
        have := congrArg List.length h1
        simp at this
        exact hE this
      have ih := dec_of_digits n E (by simpa using hn) hE ha.1 (fun e => absurd e hE0)
      have hpos : 1 ≤ valFrom 0 E := by
        cases E with
        | nil => exact absurd rfl hE
        | cons a r =>
          have ha1 : digB a = true := by have := ha.1; rw [List.all_cons, Bool.and_eq_true] at this; exact this.1
          obtain ⟨b0, b1⟩ := digB_bd ha1
          have hne : a.toNat ≠ 48 := by
            intro e
            exact hE0 (by simp; exact UInt8.toNat_inj.1 e)
          have e : valFrom 0 (a :: r) = valFrom (10 * 0 + (a.toNat - 48)) r := rfl
          rw [e]
          have hg := valFrom_ge r (10 * 0 + (a.toNat - 48))
          have hp : 1 ≤ 10 ^ r.length := Nat.one_le_pow _ _ (by decide)
          have hm : 10 * 0 + (a.toNat - 48) ≤ (10 * 0 + (a.toNat - 48)) * 10 ^ r.length := Nat.le_mul_of_pos_right _ hp
          omega
      rw [Lib.decDigits, dif_neg (by omega)]
      have e1 : (10 * valFrom 0 E + (c.toNat - 48)) / 10 = valFrom 0 E := by omega
      have e2 : (10 * valFrom 0 E + (c.toNat - 48)) % 10 = c.toNat - 48 := by omega
      rw [e1, e2, ih, hof]
/-- What a text that is a number looks like. -/
theorem number_form {s : List UInt8} (h : (parseS s).2 = 0) : -1099511627776 ≤ (parseS s).1 ∧ (parseS s).1 ≤ 1099511627776 ∧ Lib.itoa (parseS s).1 = s ∧ (digsOf s).all digB = true := by
  unfold parseS at h ⊢
  split at h
  · cases h
  · rename_i h1
    rw [if_neg h1]
    split at h
    · cases h
    · rename_i h2
      rw [if_neg h2]
      have hne : digsOf s ≠ [] := fun e => h1 (Or.inl e)
      have hall : (digsOf s).all digB = true := by
        cases e : (digsOf s).all digB with
        | true => rfl
        | false => exact absurd (Or.inr (Or.inl e)) h1
      have hz : (digsOf s).head? = some 48 → s = [48] := fun e => Classical.byContradiction fun e2 => h1 (Or.inr (Or.inr ⟨e, e2⟩))
      have hd48 : digsOf [48] = [48] := rfl
      have hdec := dec_of_digits _ (digsOf s) rfl hne hall (fun e => by rw [hz e]; rfl)
      have hv : valFrom 0 (digsOf s) ≤ 1099511627776 := by
        rcases Nat.lt_or_ge 1099511627776 (valFrom 0 (digsOf s)) with h9 | h9
        · exact absurd (Or.inr h9) h2
        · exact h9
      cases s with
      | nil => exact absurd rfl hne
      | cons c r =>
        by_cases hc : c.toNat = 45
        · have hdr : digsOf (c :: r) = r := by rw [digsOf, if_pos hc]
          rw [hdr] at hdec hv hall hz ⊢
          rw [if_pos (by simp)]
          have hpos : valFrom 0 r ≠ 0 := by
            intro e
            rw [e, Lib.decDigits, dif_pos (by decide)] at hdec
            have h48 : r.head? = some 48 := by rw [← hdec]; rfl
            have := hz h48
            injection this with h3 _
            rw [h3] at hc
            exact absurd hc (by decide)
          have hneg : -(valFrom 0 r : Int) < 0 := by omega
          refine ⟨by simp only []; omega, by simp only []; omega, ?_, hall⟩
          simp only []
          rw [Lib.itoa, if_pos hneg, Int.natAbs_neg, Int.natAbs_natCast, hdec]
          congr 1
          exact (UInt8.toNat_inj.1 (hc.trans rfl)).symm
        · have hdr : digsOf (c :: r) = c :: r := by rw [digsOf, if_neg hc]
          rw [hdr] at hdec hv hall ⊢
          rw [if_neg (by simp)]
          refine ⟨by simp only []; omega, by simp only []; omega, ?_, hall⟩
          simp only []
          rw [Lib.itoa, if_neg (by omega), Int.toNat_natCast, hdec]
theorem number_dot {s : List UInt8} (h : (cutD s).isSome = true) : (parseS s).2 ≠ 0 := by
  intro h0
  obtain ⟨-, -, -, hall⟩ := number_form h0
  cases hc : cutD s with
  | none => rw [hc] at h; cases h
  | some x =>
    obtain ⟨a, b⟩ := x
    have e := cutD_eq hc
    have hm : (46 : UInt8) ∈ digsOf s := by
      rw [e]
      cases a with
      | nil => show (46 : UInt8) ∈ digsOf (46 :: b); rw [digsOf, if_neg (by decide)]; simp
      | cons c r =>
        show (46 : UInt8) ∈ digsOf (c :: (r ++ 46 :: b))
        rw [digsOf]
        split <;> simp
    have := List.all_eq_true.1 hall _ hm
    exact absurd this (by decide)

/-- A list that is well formed, and its form. -/
theorem list_form (l : List (List UInt8)) : formS ⟨5, 0, [], l⟩ = 91 :: tailS [] l := by
  rw [tailS_form]; rfl
theorem check_list (l : List (List UInt8)) : checkS ⟨5, 0, [], l⟩ = listS l := by
  unfold checkS shapeS
  simp
theorem list_ok {l : List (List UInt8)} (h : listS l = 0) : l.length ≤ 20 ∧ ∀ t ∈ l, validS t = true := by
  unfold listS at h
  split at h
  · cases h
  · rename_i h1
    split at h
    · cases h
    · rename_i h2
      refine ⟨by omega, ?_⟩
      have : l.all validS = true := by
        cases e : l.all validS with
        | true => rfl
        | false => exact absurd e h2
      exact fun t ht => List.all_eq_true.1 this t ht

theorem check_zero : checkS ⟨0, 0, [], []⟩ ≠ 0 := by decide
theorem parse_bracket {s : List UInt8} (h1 : s.head? = some 91) (hl : 1 < s.length) :
    (match (match elemS s.length (s.drop 1) [] with | none => none | some l => some (⟨5, 0, [], l⟩ : VV)) with | none => none | some v => if checkS v = 0 then some v else none) =
      (if checkS (match listG 21 (s.drop 1) [] with | none => ⟨0, 0, [], []⟩ | some l => ⟨5, 0, [], l⟩) = 0 ∧ formS (match listG 21 (s.drop 1) [] with | none => ⟨0, 0, [], []⟩ | some l => ⟨5, 0, [], l⟩) = s
        then some (match listG 21 (s.drop 1) [] with | none => ⟨0, 0, [], []⟩ | some l => ⟨5, 0, [], l⟩) else none) := by
  have hs : s = 91 :: s.drop 1 := by
    cases s with
    | nil => cases h1
    | cons c r => simp at h1; rw [h1]; rfl
  by_cases hx : ∃ l, listS l = 0 ∧ s.drop 1 = tailS [] l
  · obtain ⟨l, hl0, ht⟩ := hx
    obtain ⟨hlen, hv⟩ := list_ok hl0
    have hbig : ∀ (acc m : List (List UInt8)), m.length < (tailS acc m).length := by
      intro acc m
      induction m generalizing acc with
      | nil => simp [tailS]
      | cons a r ih =>
        have := ih (acc ++ [a])
        rw [tailS]
        simp only [List.length_append, List.length_cons, quoteS]
        omega
    have hf : l.length < s.length := by
      have := hbig [] l
      rw [hs, ht, List.length_cons]
      omega
    rw [ht, elemS_of l [] s.length hf hv, tail_first, listG_of l [] 21 (by omega) hv]
    simp only [List.nil_append]
    have hform : formS ⟨5, 0, [], l⟩ = s := by rw [list_form, ← ht, ← hs]
    rw [check_list, hl0, hform]
    simp
  · have hL : (match (match elemS s.length (s.drop 1) [] with | none => none | some l => some (⟨5, 0, [], l⟩ : VV)) with | none => none | some v => if checkS v = 0 then some v else none) = none := by
      cases he : elemS s.length (s.drop 1) [] with
      | none => rfl
      | some l =>
        simp only
        obtain ⟨l', h2, h3, -⟩ := elemS_to _ _ _ _ he
        have h4 : l = l' := by rw [h2]; rfl
        subst h4
        rw [check_list, if_neg (fun e => hx ⟨l, e, h3⟩)]
    rw [hL]
    symm
    cases hg : listG 21 (s.drop 1) [] with
    | none => simp only []; rw [if_neg (fun e => check_zero e.1)]
    | some l =>
      simp only []
      rw [if_neg]
      rintro ⟨e1, e2⟩
      rw [check_list] at e1
      rw [list_form] at e2
      refine hx ⟨l, e1, ?_⟩
      rw [← e2]
      rfl

theorem parse_same (s : List UInt8) : parseR s = parseP s := by
  unfold parseR parseP
  by_cases ht : s = [116, 114, 117, 101]
  · subst ht; rfl
  by_cases hf : s = [102, 97, 108, 115, 101]
  · subst hf; rfl
  unfold guessR guessS
  rw [if_neg ht, if_neg hf, if_neg hf, if_neg ht]
  by_cases hq : s.head? = some 34
  · rw [if_pos hq, if_pos hq]
    cases hu : uqS s with
    | none => simp only []; rw [if_neg (fun e => check_zero e.1)]
    | some t =>
      obtain ⟨h1, h2⟩ := uqS_quote hu
      have hc : checkS ⟨3, 0, t, []⟩ = 0 := by unfold checkS shapeS; simp [h2]
      have hform : formS ⟨3, 0, t, []⟩ = s := by unfold formS; simp [h1]
      simp only []
      rw [hc, hform]
      simp
  rw [if_neg hq, if_neg hq]
  by_cases hb : s.head? = some 91
  · by_cases hl : 1 < s.length
    · rw [if_pos ⟨hb, hl⟩, if_pos hb]
      exact parse_bracket hb hl
    · have : s = [91] := by
        cases s with
        | nil => cases hb
        | cons c r =>
          simp at hb hl
          rw [hb, hl]
      subst this
      rfl
  rw [if_neg (fun e => hb e.1), if_neg hb]
  cases hc : cutD s with
  | some x =>
    have hd := number_dot (s := s) (by rw [hc]; rfl)
    rw [if_neg hd]
    simp only [Option.isSome_some, ↓reduceIte]
    have hform : formS ⟨4, 0, s, []⟩ = s := by unfold formS; simp
    rw [hform]
    simp
  | none =>
    have hver : verS s = none := by unfold verS; rw [hc]
    by_cases h0 : (parseS s).2 = 0
    · obtain ⟨h1, h2, h3, -⟩ := number_form h0
      simp only [Option.isSome_none, Bool.false_eq_true, ↓reduceIte, h0]
      have hk : checkS ⟨2, (parseS s).1, [], []⟩ = 0 := by unfold checkS shapeS; simp; omega
      have hform : formS ⟨2, (parseS s).1, [], []⟩ = s := by unfold formS; simp [h3]
      rw [hk, hform]
      simp
    · simp only [Option.isSome_none, Bool.false_eq_true, ↓reduceIte, h0]
      have hk : checkS ⟨4, 0, s, []⟩ ≠ 0 := by unfold checkS shapeS; simp [hver]
      rw [if_neg hk, if_neg (fun e => check_zero e.1)]

end Go.Proofs.YtnghpjijfdpmkaaDoor.value

