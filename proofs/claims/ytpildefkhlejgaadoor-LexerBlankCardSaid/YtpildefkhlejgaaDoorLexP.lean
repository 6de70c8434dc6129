/- The tokens of a text, step by step. No program in sight. -/
import Derived.Test.YtpildefkhlejgaaDoorLexC
namespace Go.Proofs.YtpildefkhlejgaaDoor.lex
open Go.Proofs.YtpildefkhlejgaaDoor.text Go.Proofs.YtpildefkhlejgaaDoor.value

theorem nextS_pos {l : List UInt8} {t : Tk} {n : Nat} (h : nextS l = .ok (t, n)) : 1 ≤ n ∧ n ≤ l.length := by
  cases l with
  | nil => cases h
  | cons c r =>
    have hw := spanN_le wordB r
    have hm := spanN_le numB r
    rw [List.length_cons]
    cases hl : letB c with
    | true =>
      rw [nx_word hl] at h
      injection h with h
      injection h with _ h
      omega
    | false =>
      cases hn : numStart c r with
      | true =>
        rcases num_ways hl hn rfl with ⟨_, hx⟩ | ⟨_, _, hx⟩ | ⟨_, _, hx⟩
        · rw [hx] at h; injection h with h; injection h with _ h; omega
        · rw [hx] at h; injection h with h; injection h with _ h; omega
        · rw [hx] at h; cases h
      | false =>
        by_cases h34 : c.toNat = 34
        · rcases text_ways (r := r) h34 with ⟨_, hx⟩ | ⟨k, hk, ⟨_, hx⟩ | ⟨_, hx⟩ | ⟨b, _, hx⟩⟩
          · rw [hx] at h; cases h
          · rw [hx] at h; cases h
          · rw [hx] at h; cases h
          · have hk2 := lqS_le _ _ _ hk
            rw [hx] at h; injection h with h; injection h with _ h; omega
        · cases hs : signB c with
          | true =>
            rw [nx_sign hs] at h
            by_cases he : ((decide (c.toNat = 60) || decide (c.toNat = 62)) && eqB r) = true
            · rw [if_pos he] at h
              injection h with h
              injection h with _ h
              cases r with
              | nil => simp [eqB] at he
              | cons d q => rw [List.length_cons]; omega
            · rw [if_neg he] at h
              injection h with h
              injection h with _ h
              omega
          | false => rw [nx_none hl hn h34 hs] at h; cases h

theorem tokF_cons (f : Nat) (c : UInt8) (r : List UInt8) (L : Int) : tokF (f + 1) (c :: r) L =
    (if c.toNat = 10 then tokF f r (L + 1) else if c.toNat = 32 ∨ c.toNat = 9 then tokF f r L else if c.toNat = 35 then tokF f ((c :: r).drop (spanN lineB (c :: r))) L
      else match nextS (c :: r) with
        | .error e => .error (e, L)
        | .ok (t, n) => match tokF f ((c :: r).drop n) L with
          | .error e => .error e
          | .ok l => .ok (⟨t.k, t.t, t.n, L⟩ :: l)) := rfl
theorem span_hash {c : UInt8} {r : List UInt8} (h : c.toNat = 35) : spanN lineB (c :: r) = 1 + spanN lineB r := span_cons (by unfold lineB; simp [h])
theorem tokF_fuel : ∀ (n : Nat) (l : List UInt8), l.length ≤ n → ∀ (f g : Nat) (L : Int), l.length < f → l.length < g → tokF f l L = tokF g l L := by
  intro n
  induction n with
  | zero =>
    intro l hl f g L hf hg
    have : l = [] := List.eq_nil_of_length_eq_zero (by omega)
    subst this
    cases f with
    | zero => omega
    | succ f => cases g with
      | zero => omega
      | succ g => rfl
  | succ n ih =>
    intro l hl f g L hf hg
    cases f with
    | zero => omega
    | succ f => cases g with
      | zero => omega
      | succ g =>
        cases l with
        | nil => rfl
        | cons c r =>
          rw [List.length_cons] at hl hf hg
          rw [tokF_cons, tokF_cons]
          by_cases h10 : c.toNat = 10
          · rw [if_pos h10, if_pos h10]; exact ih r (by omega) f g _ (by omega) (by omega)
          rw [if_neg h10, if_neg h10]
          by_cases h32 : c.toNat = 32 ∨ c.toNat = 9
          · rw [if_pos h32, if_pos h32]; exact ih r (by omega) f g _ (by omega) (by omega)
          rw [if_neg h32, if_neg h32]
          by_cases h35 : c.toNat = 35
          · rw [if_pos h35, if_pos h35, span_hash h35]
            have hle := spanN_le lineB r
            refine ih _ ?_ f g _ ?_ ?_ <;> rw [List.length_drop, List.length_cons] <;> omega
          rw [if_neg h35, if_neg h35]
          cases hx : nextS (c :: r) with
          | error e => rfl
          | ok v =>
            obtain ⟨t, m⟩ := v
            have hp := nextS_pos hx
            rw [List.length_cons] at hp
            simp only
            rw [ih ((c :: r).drop m) (by rw [List.length_drop, List.length_cons]; omega) f g L (by rw [List.length_drop, List.length_cons]; omega) (by rw [List.length_drop, List.length_cons]; omega)]

/-- The tokens of what is left, from a line on. -/
def tokS (l : List UInt8) (L : Int) : Except (Int × Int) (List Tok) := tokF (l.length + 1) l L
theorem tokS_of (l : List UInt8) (f : Nat) (L : Int) (h : l.length < f) : tokF f l L = tokS l L := tokF_fuel l.length l (Nat.le_refl _) f (l.length + 1) L h (by omega)
def preT (acc : List Tok) : Except (Int × Int) (List Tok) → Except (Int × Int) (List Tok)
  | .error e => .error e
  | .ok l => .ok (acc ++ l)
theorem preT_nil (x : Except (Int × Int) (List Tok)) : preT [] x = x := by cases x <;> rfl
theorem preT_pre (a b : List Tok) (x : Except (Int × Int) (List Tok)) : preT a (preT b x) = preT (a ++ b) x := by
  cases x
  · rfl
  · simp [preT]
theorem tokS_nil (L : Int) : tokS [] L = .ok [⟨6, [], 0, L⟩] := rfl
theorem tokS_nl {c : UInt8} {r : List UInt8} {L : Int} (h : c.toNat = 10) : tokS (c :: r) L = tokS r (L + 1) := by
  rw [tokS, List.length_cons, tokF_cons, if_pos h]; rfl
theorem tokS_sp {c : UInt8} {r : List UInt8} {L : Int} (h : c.toNat = 32 ∨ c.toNat = 9) : tokS (c :: r) L = tokS r L := by
  rw [tokS, List.length_cons, tokF_cons, if_neg (by omega), if_pos h]; rfl
theorem tokS_hash {c : UInt8} {r : List UInt8} {L : Int} (h : c.toNat = 35) : tokS (c :: r) L = tokS ((c :: r).drop (spanN lineB (c :: r))) L := by
  rw [tokS, List.length_cons, tokF_cons, if_neg (by omega), if_neg (by omega), if_pos h]
  apply tokS_of
  rw [List.length_drop, List.length_cons, span_hash h]
  omega
/-- A byte at which a token begins. -/
def tokB (c : UInt8) : Prop := c.toNat ≠ 10 ∧ c.toNat ≠ 32 ∧ c.toNat ≠ 9 ∧ c.toNat ≠ 35
theorem tokS_err {c : UInt8} {r : List UInt8} {L e : Int} (h : tokB c) (hx : nextS (c :: r) = .error e) : tokS (c :: r) L = .error (e, L) := by
  obtain ⟨h1, h2, h3, h4⟩ := h
  rw [tokS, List.length_cons, tokF_cons, if_neg h1, if_neg (by omega), if_neg h4, hx]
theorem tokS_tok {c : UInt8} {r : List UInt8} {L : Int} {t : Tk} {n : Nat} (h : tokB c) (hx : nextS (c :: r) = .ok (t, n)) : tokS (c :: r) L = preT [⟨t.k, t.t, t.n, L⟩] (tokS ((c :: r).drop n) L) := by
  obtain ⟨h1, h2, h3, h4⟩ := h
  have hp := nextS_pos hx
  rw [tokS, List.length_cons, tokF_cons, if_neg h1, if_neg (by omega), if_neg h4, hx]
  simp only
  rw [tokS_of ((c :: r).drop n) _ L (by rw [List.length_drop, List.length_cons]; omega)]
  cases tokS ((c :: r).drop n) L <;> rfl
theorem toksS_ok {s : List UInt8} (h : ¬ 30000 < s.length) : toksS s = tokS s 1 := by rw [toksS, if_neg h]; rfl
theorem toksS_long {s : List UInt8} (h : 30000 < s.length) : toksS s = .error (4, 0) := by rw [toksS, if_pos h]

/-- How far the reading has come: p bytes, at line L, acc has been read. -/
def TokAt (l : List UInt8) (p : Nat) (L : Int) (acc : List Tok) : Prop := tokS l 1 = preT acc (tokS (l.drop p) L)
theorem TokAt.start (l : List UInt8) : TokAt l 0 1 [] := by unfold TokAt; rw [preT_nil]; rfl
theorem TokAt.nl {s : ByteArray} {p : Nat} {L : Int} {acc : List Tok} (h : TokAt s.data.toList p L acc) (hp : p < s.size) (hc : s[p].toNat = 10) : TokAt s.data.toList (p + 1) (L + 1) acc := by
  unfold TokAt at *; rw [h, drop_byte s p hp, tokS_nl hc]
theorem TokAt.sp {s : ByteArray} {p : Nat} {L : Int} {acc : List Tok} (h : TokAt s.data.toList p L acc) (hp : p < s.size) (hc : s[p].toNat = 32 ∨ s[p].toNat = 9) : TokAt s.data.toList (p + 1) L acc := by
  unfold TokAt at *; rw [h, drop_byte s p hp, tokS_sp hc]
theorem TokAt.hash {s : ByteArray} {p : Nat} {L : Int} {acc : List Tok} (h : TokAt s.data.toList p L acc) (hp : p < s.size) (hc : s[p].toNat = 35) : TokAt s.data.toList (p + spanN lineB (s.data.toList.drop p)) L acc := by
  unfold TokAt at *; rw [h, drop_byte s p hp, tokS_hash hc, ← drop_byte s p hp, List.drop_drop]
theorem TokAt.err {s : ByteArray} {p : Nat} {L e : Int} {acc : List Tok} (h : TokAt s.data.toList p L acc) (hp : p < s.size) (hc : tokB s[p]) (hx : nextS (s.data.toList.drop p) = .error e) : tokS s.data.toList 1 = .error (e, L) := by
  unfold TokAt at *
  rw [drop_byte s p hp] at hx
  rw [h, drop_byte s p hp, tokS_err hc hx]; rfl
theorem TokAt.tok {s : ByteArray} {p : Nat} {L : Int} {acc : List Tok} {t : Tk} {n : Nat} (h : TokAt s.data.toList p L acc) (hp : p < s.size) (hc : tokB s[p]) (hx : nextS (s.data.toList.drop p) = .ok (t, n)) : TokAt s.data.toList (p + n) L (acc ++ [⟨t.k, t.t, t.n, L⟩]) := by
  unfold TokAt at *
  rw [drop_byte s p hp] at hx
  rw [h, drop_byte s p hp, tokS_tok hc hx, preT_pre, ← drop_byte s p hp, List.drop_drop]
theorem TokAt.done {s : ByteArray} {p : Nat} {L : Int} {acc : List Tok} (h : TokAt s.data.toList p L acc) (hp : ¬ p < s.size) : tokS s.data.toList 1 = .ok (acc ++ [⟨6, [], 0, L⟩]) := by
  unfold TokAt at h
  rw [h, List.drop_eq_nil_of_le (by simp; omega), tokS_nil]; rfl

end Go.Proofs.YtpildefkhlejgaaDoor.lex
