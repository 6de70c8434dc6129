/- The token at the beginning of a text, case by case. No walk here. -/
import Derived.Test.YtpildefkhlejgaaDoorLexB
import Derived.Test.YtpildefkhlejgaaDoorValE
namespace Go.Proofs.YtpildefkhlejgaaDoor.lex
open Go.RowKit Go.Proofs.YtpildefkhlejgaaDoor.text Go.Proofs.YtpildefkhlejgaaDoor.value

/-- What a lexer's next gives: the token and where it ends, or the error. -/
def NextIs (l : List UInt8) (off : Int) (k : Int) (t : ByteArray) (x n err : Int) : Prop :=
  match nextS l with
  | .error q => err = q ∧ q ≠ 0
  | .ok (tk, m) => err = 0 ∧ k = tk.k ∧ t.data.toList = tk.t ∧ x = tk.n ∧ n = off + m
theorem NextIs.bad {l : List UInt8} {q : Int} (h : nextS l = .error q) (hq : q ≠ 0) (off k : Int) (t : ByteArray) (x n : Int) : NextIs l off k t x n q := by
  unfold NextIs; rw [h]; exact ⟨rfl, hq⟩
theorem NextIs.good {l : List UInt8} {tk : Tk} {m : Nat} (h : nextS l = .ok (tk, m)) {off k : Int} {t : ByteArray} {x n : Int} (h1 : k = tk.k) (h2 : t.data.toList = tk.t) (h3 : x = tk.n) (h4 : n = off + m) : NextIs l off k t x n 0 := by
  unfold NextIs; rw [h]; exact ⟨rfl, h1, h2, h3, h4⟩

/-- The second byte is a digit. -/
def secB (l : List UInt8) : Bool := match l with | [] => false | d :: _ => digB d
def eqB (l : List UInt8) : Bool := match l with | [] => false | d :: _ => decide (d.toNat = 61)
theorem nx_word {c : UInt8} {r : List UInt8} (h : letB c = true) : nextS (c :: r) = .ok (⟨1, (c :: r).take (1 + spanN wordB r), 0⟩, 1 + spanN wordB r) := by
  rw [nextS_cons, nextC.eq_def, if_pos h]
/-- A number or a version begins. -/
def numStart (c : UInt8) (r : List UInt8) : Bool := digB c || (decide (c.toNat = 45) && secB r)
theorem nx_num {c : UInt8} {r : List UInt8} (h : letB c = false) (hn : numStart c r = true) :
    nextS (c :: r) = if (verS ((c :: r).take (1 + spanN numB r))).isSome then .ok (⟨4, (c :: r).take (1 + spanN numB r), 0⟩, 1 + spanN numB r)
      else if (parseS ((c :: r).take (1 + spanN numB r))).2 = 0 then .ok (⟨2, [], (parseS ((c :: r).take (1 + spanN numB r))).1⟩, 1 + spanN numB r) else .error (parseS ((c :: r).take (1 + spanN numB r))).2 := by
  rw [nextS_cons, nextC.eq_def, if_neg (by simp [h]), if_pos (by exact hn)]
theorem nx_text {c : UInt8} {r : List UInt8} (hc : c.toNat = 34) :
    nextS (c :: r) = match lqS false r with
      | none => .error 1
      | some k => match unquoteS ((c :: r).take (1 + k)) with
        | none => .error 1
        | some b => if validS b then .ok (⟨3, b, 0⟩, 1 + k) else .error 2 := by
  have h1 : letB c = false := letB_low (by omega)
  have h2 : (digB c || (decide (c.toNat = 45) && (match r with | [] => false | d :: _ => digB d))) = false := by rw [digB_low (by omega)]; simp [hc]
  rw [nextS_cons, nextC.eq_def, if_neg (by simp [h1]), if_neg (by rw [Bool.not_eq_true]; exact h2), if_pos hc]
  rfl
theorem nx_sign {c : UInt8} {r : List UInt8} (hs : signB c = true) :
    nextS (c :: r) = if (decide (c.toNat = 60) || decide (c.toNat = 62)) && eqB r then .ok (⟨5, (c :: r).take 2, 0⟩, 2) else .ok (⟨5, (c :: r).take 1, 0⟩, 1) := by
  have hm : c.toNat = 123 ∨ c.toNat = 125 ∨ c.toNat = 40 ∨ c.toNat = 41 ∨ c.toNat = 91 ∨ c.toNat = 93 ∨ c.toNat = 44 ∨ c.toNat = 46 ∨ c.toNat = 60 ∨ c.toNat = 62 := by
    unfold signB at hs; simpa using hs
  have h1 : letB c = false := by
    by_cases h : c.toNat < 97
    · exact letB_low h
    · exact letB_high (by omega)
  have h2 : (digB c || (decide (c.toNat = 45) && (match r with | [] => false | d :: _ => digB d))) = false := by
    have : digB c = false := by
      by_cases h : c.toNat < 48
      · exact digB_low h
      · exact digB_high (by omega)
    rw [this]
    simp
    omega
  rw [nextS_cons, nextC.eq_def, if_neg (by simp [h1]), if_neg (by rw [Bool.not_eq_true]; exact h2), if_neg (by omega), if_pos hs]
  rfl
theorem nx_none {c : UInt8} {r : List UInt8} (h : letB c = false) (hn : numStart c r = false) (hq : c.toNat ≠ 34) (hs : signB c = false) : nextS (c :: r) = .error 1 := by
  rw [nextS_cons, nextC.eq_def, if_neg (by simp [h]), if_neg (by rw [Bool.not_eq_true]; exact hn), if_neg hq, if_neg (by simp [hs])]

theorem index_sign (c : UInt8) : (signB c = true ∧ decide (0 ≤ Lib.indexByte [123, 125, 40, 41, 91, 93, 44, 46, 60, 62] c) = true) ∨ (signB c = false ∧ decide (0 ≤ Lib.indexByte [123, 125, 40, 41, 91, 93, 44, 46, 60, 62] c) = false) := by
  by_cases hm : c.toNat = 123 ∨ c.toNat = 125 ∨ c.toNat = 40 ∨ c.toNat = 41 ∨ c.toNat = 91 ∨ c.toNat = 93 ∨ c.toNat = 44 ∨ c.toNat = 46 ∨ c.toNat = 60 ∨ c.toNat = 62
  · refine Or.inl ⟨by unfold signB; simpa using hm, ?_⟩
    have e : ∀ n : Nat, n < 256 → c.toNat = n → c = UInt8.ofNat n := fun n hn h => UInt8.toNat_inj.1 (by rw [h]; simp; omega)
    rcases hm with h | h | h | h | h | h | h | h | h | h <;> (rw [e _ (by omega) h]; decide)
  · refine Or.inr ⟨by unfold signB; simp only [List.contains_eq_mem, decide_eq_false_iff_not]; simpa using hm, ?_⟩
    have ne : ∀ (b : UInt8), b.toNat ≠ c.toNat → (b == c) = false := fun b hb => beq_eq_false_iff_ne.2 (fun e => hb (by rw [e]))
    have e : Lib.indexByte [123, 125, 40, 41, 91, 93, 44, 46, 60, 62] c = -1 := by
      have d1 := ne 123 (show 123 ≠ c.toNat by omega)
      have d2 := ne 125 (show 125 ≠ c.toNat by omega)
      have d3 := ne 40 (show 40 ≠ c.toNat by omega)
      have d4 := ne 41 (show 41 ≠ c.toNat by omega)
      have d5 := ne 91 (show 91 ≠ c.toNat by omega)
      have d6 := ne 93 (show 93 ≠ c.toNat by omega)
      have d7 := ne 44 (show 44 ≠ c.toNat by omega)
      have d8 := ne 46 (show 46 ≠ c.toNat by omega)
      have d9 := ne 60 (show 60 ≠ c.toNat by omega)
      have d0 := ne 62 (show 62 ≠ c.toNat by omega)
      simp [Lib.indexByte, d1, d2, d3, d4, d5, d6, d7, d8, d9, d0]
    rw [e]; rfl
theorem span_cons {p : UInt8 → Bool} {c : UInt8} {r : List UInt8} (h : p c = true) : spanN p (c :: r) = 1 + spanN p r := by rw [spanN, if_pos h]
theorem word_let {c : UInt8} (h : letB c = true) : wordB c = true := by unfold wordB; rw [h]; rfl
theorem parse_err (l : List UInt8) : (parseS l).2 = 0 ∨ (parseS l).2 = 1 ∨ (parseS l).2 = 3 := by
  unfold parseS
  repeat' split
  all_goals simp
theorem check_ver (t : List UInt8) : checkS ⟨4, 0, t, []⟩ = if (verS t).isSome then 0 else 1 := c_4 (v := ⟨4, 0, t, []⟩) rfl rfl
/-- A text from place i on begins with its byte. -/
theorem at_byte {s : ByteArray} {i : Nat} (h : i < s.size) : s.data.toList.drop i = s[i] :: s.data.toList.drop (i + 1) := drop_byte s i h
theorem sec_at {s : ByteArray} {i : Nat} (h : i < s.size) : secB (s.data.toList.drop i) = digB s[i] := by rw [drop_byte s i h]; rfl
theorem sec_end {s : ByteArray} {i : Nat} (h : ¬ i < s.size) : secB (s.data.toList.drop i) = false := by rw [List.drop_eq_nil_of_le (by simp; omega)]; rfl
theorem eq_at {s : ByteArray} {i : Nat} (h : i < s.size) : eqB (s.data.toList.drop i) = decide (s[i].toNat = 61) := by rw [drop_byte s i h]; rfl
theorem eq_end {s : ByteArray} {i : Nat} (h : ¬ i < s.size) : eqB (s.data.toList.drop i) = false := by rw [List.drop_eq_nil_of_le (by simp; omega)]; rfl
theorem cut_data (s : ByteArray) (i n : Nat) : (s.extract i (i + n)).data.toList = (s.data.toList.drop i).take n := by
  rw [Lib.extract_data]; congr 1; omega

/-- What is known of a text whose first byte is no letter. -/
theorem num_ways {c : UInt8} {r : List UInt8} (h : letB c = false) (hn : numStart c r = true) {t : List UInt8} (ht : (c :: r).take (1 + spanN numB r) = t) :
    ((verS t).isSome = true ∧ nextS (c :: r) = .ok (⟨4, t, 0⟩, 1 + spanN numB r)) ∨
    ((verS t).isSome = false ∧ (parseS t).2 = 0 ∧ nextS (c :: r) = .ok (⟨2, [], (parseS t).1⟩, 1 + spanN numB r)) ∨
    ((verS t).isSome = false ∧ (parseS t).2 ≠ 0 ∧ nextS (c :: r) = .error (parseS t).2) := by
  have e := nx_num h hn
  rw [ht] at e
  cases hv : (verS t).isSome with
  | true => rw [hv] at e; exact Or.inl ⟨rfl, e⟩
  | false =>
    rw [hv] at e
    by_cases hp : (parseS t).2 = 0
    · rw [if_neg (by simp), if_pos hp] at e; exact Or.inr (Or.inl ⟨rfl, hp, e⟩)
    · rw [if_neg (by simp), if_neg hp] at e; exact Or.inr (Or.inr ⟨rfl, hp, e⟩)
theorem text_ways {c : UInt8} {r : List UInt8} (hc : c.toNat = 34) :
    (lqS false r = none ∧ nextS (c :: r) = .error 1) ∨
    ∃ k, lqS false r = some k ∧ ((unquoteV ((c :: r).take (1 + k)) = .tuple #[.string ⟨#[]⟩, .int .i64 1] ∧ nextS (c :: r) = .error 1) ∨
      (unquoteV ((c :: r).take (1 + k)) = .tuple #[.string ⟨#[]⟩, .int .i64 2] ∧ nextS (c :: r) = .error 2) ∨
      ∃ b : List UInt8, unquoteV ((c :: r).take (1 + k)) = .tuple #[.string ⟨b.toArray⟩, .int .i64 0] ∧ nextS (c :: r) = .ok (⟨3, b, 0⟩, 1 + k)) := by
  have e := nx_text (r := r) hc
  cases hl : lqS false r with
  | none => rw [hl] at e; exact Or.inl ⟨rfl, e⟩
  | some k =>
    rw [hl] at e
    refine Or.inr ⟨k, rfl, ?_⟩
    simp only at e
    unfold unquoteV
    cases hu : unquoteS ((c :: r).take (1 + k)) with
    | none => rw [hu] at e; exact Or.inl ⟨rfl, e⟩
    | some b =>
      rw [hu] at e
      simp only at e
      cases hv : validS b with
      | false => rw [hv] at e; exact Or.inr (Or.inl ⟨by simp [hv], by simpa using e⟩)
      | true => rw [hv] at e; exact Or.inr (Or.inr ⟨b, by simp [hv], by simpa using e⟩)

end Go.Proofs.YtpildefkhlejgaaDoor.lex
