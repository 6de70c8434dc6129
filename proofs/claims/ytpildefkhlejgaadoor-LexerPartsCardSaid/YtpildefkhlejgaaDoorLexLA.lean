/- The law LexerParts: the tokens of two texts with a line feed between them are those of both, the second ones with later lines; an error in the second one is told with its line. -/
import Derived.Test.YtpildefkhlejgaaDoorLexLT
import Derived.Test.YtpildefkhlejgaaDoorLexR
namespace Go.Proofs.YtpildefkhlejgaaDoor.lex
open Go.RowKit Go.Proofs.YtpildefkhlejgaaDoor.text Go.Proofs.YtpildefkhlejgaaDoor.value Go.Proofs.YtpildefkhlejgaaDoor.draw

/-- A token at later lines. -/
def Tok.later (d : Int) (t : Tok) : Tok := ⟨t.k, t.t, t.n, t.line + d⟩
theorem shiftT_ok (d : Int) (ts : List Tok) : shiftT d (.ok ts) = .ok (ts.map (Tok.later d)) := rfl
/-- What is known of the three texts' tokens. -/
inductive TwoWays (S T : List UInt8) : Prop
  | first (q L L' : Int) (hs : toksS S = .error (q, L)) (hq : (q != 0) = true) (hz : toksS (S ++ 10 :: T) = .error (q, L'))
  | second (x0 : List Tok) (q M : Int) (hs : toksS S = .ok (x0 ++ [⟨6, [], 0, 1 + nls S⟩])) (ht : toksS T = .error (q, M)) (hq : (q != 0) = true) (hM : 0 ≤ M ∧ M ≤ 100000) (hz : toksS (S ++ 10 :: T) = .error (q, M + (1 + nls S)))
  | both (x0 y : List Tok) (hs : toksS S = .ok (x0 ++ [⟨6, [], 0, 1 + nls S⟩])) (ht : toksS T = .ok y) (hy : ∀ u ∈ y, 0 ≤ u.line ∧ u.line ≤ 100000) (hz : toksS (S ++ 10 :: T) = .ok (x0 ++ y.map (Tok.later (1 + nls S))))
theorem nextS_not0 {l : List UInt8} {q : Int} (h : nextS l = .error q) : q ≠ 0 := by
  cases l with
  | nil => injection h with h; omega
  | cons c r =>
    cases hl : letB c with
    | true => rw [nx_word hl] at h; cases h
    | false =>
      cases hn : numStart c r with
      | true =>
        rcases num_ways hl hn rfl with ⟨_, hx⟩ | ⟨_, _, hx⟩ | ⟨_, hp, hx⟩
        · rw [hx] at h; cases h
        · rw [hx] at h; cases h
        · rw [hx] at h
          injection h with h
          rw [← h]
          exact hp
      | false =>
        by_cases h34 : c.toNat = 34
        · rcases text_ways (r := r) h34 with ⟨_, hx⟩ | ⟨k, hk, ⟨_, hx⟩ | ⟨_, hx⟩ | ⟨b, _, hx⟩⟩
          · rw [hx] at h; injection h with h; omega
          · rw [hx] at h; injection h with h; omega
          · rw [hx] at h; injection h with h; omega
          · rw [hx] at h; cases h
        · cases hs : signB c with
          | true =>
            rw [nx_sign hs] at h
            split at h <;> cases h
          | false => rw [nx_none hl hn h34 hs] at h; injection h with h; omega
/-- The lines of tokens and errors lie from the first line on, and not far on. -/
theorem tokF_lines : ∀ (f : Nat) (l : List UInt8) (L : Int), (∀ q L', tokF f l L = .error (q, L') → q ≠ 0 ∧ L ≤ L' ∧ L' ≤ L + f) ∧ (∀ ts, tokF f l L = .ok ts → ∀ u ∈ ts, L ≤ u.line ∧ u.line ≤ L + f)
  | 0, l, L => ⟨fun q L' h => (by cases h), fun ts h u hu => by
      injection h with h
      rw [← h] at hu
      simp at hu
      rw [hu]
      simp⟩
  | f + 1, [], L => ⟨fun q L' h => (by cases h), fun ts h u hu => by
      injection h with h
      rw [← h] at hu
      simp at hu
      rw [hu]
      show L ≤ L ∧ L ≤ L + ((f + 1 : Nat) : Int)
      omega⟩
  | f + 1, c :: r, L => by
    rw [tokF_cons]
    have mono : ∀ (l : List UInt8) (L1 : Int), L ≤ L1 → L1 ≤ L + 1 → (∀ q L', tokF f l L1 = .error (q, L') → q ≠ 0 ∧ L ≤ L' ∧ L' ≤ L + ((f + 1 : Nat) : Int)) ∧ (∀ ts, tokF f l L1 = .ok ts → ∀ u ∈ ts, L ≤ u.line ∧ u.line ≤ L + ((f + 1 : Nat) : Int)) := by
      intro l L1 h1 h2
      obtain ⟨i1, i2⟩ := tokF_lines f l L1
      refine ⟨fun q L' h => ?_, fun ts h u hu => ?_⟩
      · have := i1 q L' h; exact ⟨this.1, by omega, by omega⟩
      · have := i2 ts h u hu; exact ⟨by omega, by omega⟩
    split
    · exact mono r (L + 1) (by omega) (by omega)
    · split
      · exact mono r L (by omega) (by omega)
      · split
        · exact mono _ L (by omega) (by omega)
        · cases hx : nextS (c :: r) with
          | error e =>
            refine ⟨fun q L' h => ?_, fun ts h => by cases h⟩
            injection h with h
            injection h with h1 h2
            exact ⟨by rw [← h1]; exact nextS_not0 hx, by omega, by omega⟩
          | ok v =>
            obtain ⟨t, n⟩ := v
            obtain ⟨i1, i2⟩ := mono ((c :: r).drop n) L (by omega) (by omega)
            simp only
            cases hy : tokF f ((c :: r).drop n) L with
            | error p =>
              obtain ⟨q1, L1⟩ := p
              refine ⟨fun q L' h => ?_, fun ts h => by cases h⟩
              injection h with h
              injection h with h1 h2
              have := i1 q1 L1 hy
              rw [← h1, ← h2]
              exact this
            | ok ts0 =>
              refine ⟨fun q L' h => (by cases h), fun ts h u hu => ?_⟩
              injection h with h
              rw [← h] at hu
              rcases List.mem_cons.1 hu with rfl | hu
              · show L ≤ L ∧ L ≤ L + ((f + 1 : Nat) : Int)
                omega
              · exact i2 ts0 hy u hu
theorem two_ways (S T : List UInt8) (hS : S.length ≤ 10000) (hT : T.length ≤ 10000) : TwoWays S T := by
  have hz : toksS (S ++ 10 :: T) = tokS (S ++ 10 :: T) 1 := toksS_ok (by rw [List.length_append, List.length_cons]; omega)
  have hs : toksS S = tokS S 1 := toksS_ok (by omega)
  have ht : toksS T = tokS T 1 := toksS_ok (by omega)
  cases h1 : tokS S 1 with
  | error p =>
    obtain ⟨q, L⟩ := p
    exact .first q L L (hs.trans h1) (ne_yes ((tokF_lines _ _ _).1 _ _ h1).1) (hz.trans (two_err h1))
  | ok x =>
    obtain ⟨x0, rfl, h2⟩ := two_ok (t := T) h1
    cases h3 : tokS T 1 with
    | error p =>
      obtain ⟨q, M⟩ := p
      rw [h3] at h2
      have := (tokF_lines _ _ _).1 _ _ h3
      exact .second x0 q M (hs.trans h1) (ht.trans h3) (ne_yes this.1) ⟨by omega, by omega⟩ (hz.trans h2)
    | ok y =>
      rw [h3] at h2
      exact .both x0 y (hs.trans h1) (ht.trans h3) (fun u hu => by have := (tokF_lines _ _ _).2 _ h3 u hu; omega) (hz.trans h2)

theorem nls_le (l : List UInt8) : nls l ≤ l.length := by unfold nls; exact List.length_filter_le _ _
theorem nls_step {s : ByteArray} {k : Nat} (h : k < s.size) : nls (s.data.toList.take (k + 1)) = nls (s.data.toList.take k) + (if s[k].toNat = 10 then 1 else 0) := by
  have e : s.data.toList.take (k + 1) = s.data.toList.take k ++ [s[k]] := by
    rw [List.take_succ_eq_append_getElem (by simpa using h)]; rfl
  rw [e, nls_app, nls_cons]
  rfl
/-- A list's place behind another one. -/
theorem TokRows.right {w : World} {g : Nat} {a b : List Tok} (h : TokRows w g 0 (a ++ b)) : TokRows w g (a.length * 4) b := by
  intro k hk
  have hl : a.length + k < (a ++ b).length := by rw [List.length_append]; omega
  have h1 := h (a.length + k) hl
  have e : (a ++ b)[a.length + k] = b[k] := by rw [List.getElem_append_right (by omega)]; congr 1; omega
  rw [e] at h1
  have e2 : 0 + (a.length + k) * 4 = a.length * 4 + k * 4 := by omega
  rw [e2] at h1
  exact h1
theorem TokRows.left {w : World} {g o : Nat} {a b : List Tok} (h : TokRows w g o (a ++ b)) : TokRows w g o a := by
  intro k hk
  have hl : k < (a ++ b).length := by rw [List.length_append]; omega
  have h1 := h k hl
  have e : (a ++ b)[k] = a[k] := List.getElem_append_left hk
  rw [e] at h1
  exact h1

end Go.Proofs.YtpildefkhlejgaaDoor.lex
