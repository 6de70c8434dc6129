/- A source form is read as the value: Parse of Format. No program in sight. -/
import Derived.Test.YtnghpjijfdpmkaaGreatDoorValQ
import Derived.Test.YtnghpjijfdpmkaaGreatDoorValK
namespace Go.Proofs.YtnghpjijfdpmkaaGreatDoor.value
open Go.Proofs.YtnghpjijfdpmkaaGreatDoor.text

theorem parse_of {v : VV} {s : List UInt8} (h : checkS v = 0) (hf : formS v = s) (hg : guessS s = v) : parseP s = some v := by
  unfold parseP
  rw [hg, if_pos ⟨h, hf⟩]
/-- What does not begin like a word, a text or a list. -/
def PlainHd (s : List UInt8) : Prop := ∃ c, s.head? = some c ∧ (digB c = true ∨ c.toNat = 45)
theorem plain_guess {s : List UInt8} (h : PlainHd s) : guessS s = if (cutD s).isSome then ⟨4, 0, s, []⟩ else if (parseS s).2 = 0 then ⟨2, (parseS s).1, [], []⟩ else ⟨0, 0, [], []⟩ := by
  obtain ⟨c, hc, hd⟩ := h
  have hn : c.toNat = 45 ∨ (48 ≤ c.toNat ∧ c.toNat ≤ 57) := by
    rcases hd with hd | hd
    · exact Or.inr (digB_bd hd)
    · exact Or.inl hd
  have hne : ∀ u : UInt8, (u.toNat ≠ 45 ∧ ¬ (48 ≤ u.toNat ∧ u.toNat ≤ 57)) → c ≠ u := by
    rintro u ⟨h1, h2⟩ rfl
    rcases hn with h | h
    · exact h1 h
    · exact h2 h
  unfold guessS
  rw [if_neg (by rintro rfl; injection hc with hc; exact hne 102 (by decide) hc.symm),
    if_neg (by rintro rfl; injection hc with hc; exact hne 116 (by decide) hc.symm),
    if_neg (by rw [hc]; intro e; injection e with e; exact hne 34 (by decide) e),
    if_neg (by rw [hc]; intro e; injection e with e; exact hne 91 (by decide) e)]
theorem digs_head {s : List UInt8} (h : (parseS s).2 = 0) : PlainHd s := by
  have hf := (number_form h).2.2.2
  cases s with
  | nil => exact absurd h (by decide)
  | cons c r =>
    by_cases h45 : c.toNat = 45
    · exact ⟨c, rfl, Or.inr h45⟩
    · rw [digsOf, if_neg h45, List.all_cons, Bool.and_eq_true] at hf
      exact ⟨c, rfl, Or.inl hf.1⟩
theorem cut_none {s : List UInt8} (h : (parseS s).2 = 0) : (cutD s).isSome = false := by
  cases hc : (cutD s).isSome with
  | false => rfl
  | true => exact absurd h (number_dot hc)
theorem ver_cut {s : List UInt8} (h : (verS s).isSome = true) : PlainHd s ∧ (cutD s).isSome = true := by
  unfold verS at h
  cases hc : cutD s with
  | none => rw [hc] at h; cases h
  | some p =>
    obtain ⟨a, r⟩ := p
    rw [hc] at h
    refine ⟨?_, rfl⟩
    cases hr : cutD r with
    | none => simp only [hr] at h; cases h
    | some q =>
      obtain ⟨b, c⟩ := q
      simp only [hr] at h
      cases hc2 : cutD c with
      | some z => simp only [hc2] at h; cases h
      | none =>
        simp only [hc2] at h
        cases ha : partN a with
        | none => simp only [ha] at h; cases h
        | some x =>
          have hp : (parseS a).2 = 0 := by
            unfold partN at ha
            split at ha
            · rename_i hh; exact hh.1
            · cases ha
          obtain ⟨u, hu, hd⟩ := digs_head hp
          have e := cutD_eq hc
          refine ⟨u, ?_, hd⟩
          rw [e]
          cases a with
          | nil => cases hu
          | cons y z => simpa using hu

theorem parse_form {v : VV} (h : checkS v = 0) : parseP (formS v) = some v := by
  have hs := shape_of h
  obtain ⟨k, n, t, l⟩ := v
  have hk := kind_of h
  simp only at hk
  unfold shapeS at hs
  rcases (show k = 1 ∨ k = 2 ∨ k = 3 ∨ k = 4 ∨ k = 5 by omega) with rfl | rfl | rfl | rfl | rfl
  · simp at hs
    obtain ⟨rfl, rfl⟩ := hs
    have h1 := c_1 (v := ⟨1, n, [], []⟩) rfl rfl
    rw [h] at h1
    by_cases hn : n ≠ 0 ∧ n ≠ 1
    · rw [if_pos hn] at h1; cases h1
    · rcases (show n = 0 ∨ n = 1 by omega) with rfl | rfl
      · exact parse_of h rfl rfl
      · exact parse_of h rfl rfl
  · simp at hs
    obtain ⟨rfl, rfl⟩ := hs
    have h1 := c_2 (v := ⟨2, n, [], []⟩) rfl rfl
    rw [h] at h1
    by_cases hn : n < -1099511627776 ∨ 1099511627776 < n
    · rw [if_pos hn] at h1; cases h1
    have hp : parseS (Lib.itoa n) = (n, 0) := by rw [parse_itoa, if_neg hn]
    have hp2 : (parseS (Lib.itoa n)).2 = 0 := by rw [hp]
    refine parse_of h rfl ?_
    show guessS (Lib.itoa n) = _
    rw [plain_guess (digs_head hp2), cut_none hp2, hp]
    rfl
  · simp at hs
    obtain ⟨rfl, rfl⟩ := hs
    have h1 := c_3 (v := ⟨3, 0, t, []⟩) rfl rfl
    rw [h] at h1
    have hv : validS t = true := by
      cases hv : validS t with
      | true => rfl
      | false => rw [show (⟨3, 0, t, []⟩ : VV).t = t from rfl, hv] at h1; cases h1
    refine parse_of h rfl ?_
    show guessS (quoteS t) = _
    unfold guessS
    have h34 : (quoteS t).head? = some 34 := rfl
    rw [if_neg (by intro e; rw [e] at h34; cases h34), if_neg (by intro e; rw [e] at h34; cases h34), if_pos h34, uqS_of hv]
  · simp at hs
    obtain ⟨rfl, rfl⟩ := hs
    have h1 := c_4 (v := ⟨4, 0, t, []⟩) rfl rfl
    rw [h] at h1
    have hv : (verS t).isSome = true := by
      cases hv : (verS t).isSome with
      | true => rfl
      | false => rw [show (⟨4, 0, t, []⟩ : VV).t = t from rfl, hv] at h1; cases h1
    refine parse_of h rfl ?_
    show guessS t = _
    obtain ⟨h2, h3⟩ := ver_cut hv
    rw [plain_guess h2, if_pos h3]
  · simp at hs
    obtain ⟨rfl, rfl⟩ := hs
    rw [check_list] at h
    obtain ⟨hl, hv⟩ := list_ok h
    refine parse_of (by rw [check_list]; exact h) rfl ?_
    rw [list_form]
    unfold guessS
    have h91 : (91 :: tailS [] l).head? = some 91 := rfl
    rw [if_neg (by intro e; rw [e] at h91; cases h91), if_neg (by intro e; rw [e] at h91; cases h91), if_neg (by rw [h91]; decide), if_pos h91]
    show (match listG 21 (tailS [] l) [] with | none => _ | some l => _) = _
    rw [tail_first, listG_of l [] 21 (by omega) hv]
    rfl
/-- No source form is empty, and none is long. -/
theorem form_ne {v : VV} (h : checkS v = 0) : formS v ≠ [] := by
  intro e
  have := parse_form h
  rw [e] at this
  have h2 : parseP [] = none := by decide
  rw [h2] at this
  cases this

end Go.Proofs.YtnghpjijfdpmkaaGreatDoor.value
