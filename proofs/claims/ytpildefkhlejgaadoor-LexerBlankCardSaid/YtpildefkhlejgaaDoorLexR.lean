/- The tokens of two texts with a line feed between them. No program in sight. -/
import Derived.Test.YtpildefkhlejgaaDoorLexP
namespace Go.Proofs.YtpildefkhlejgaaDoor.lex
open Go.Proofs.YtpildefkhlejgaaDoor.text Go.Proofs.YtpildefkhlejgaaDoor.value

theorem span_app {p : UInt8 → Bool} {d : UInt8} (hd : p d = false) : ∀ (r t : List UInt8), spanN p (r ++ d :: t) = spanN p r
  | [], t => by show spanN p (d :: t) = 0; rw [spanN, if_neg (by simp [hd])]
  | c :: r, t => by
    show spanN p (c :: (r ++ d :: t)) = _
    rw [spanN, spanN, span_app hd r t]
theorem take_app {r t : List UInt8} {c d : UInt8} {k : Nat} (h : k ≤ r.length) : (c :: (r ++ d :: t)).take (1 + k) = (c :: r).take (1 + k) := by
  rw [Nat.add_comm 1 k, List.take_succ_cons, List.take_succ_cons, List.take_append_of_le_length h]
theorem lq_app_some : ∀ (r t : List UInt8) (e : Bool) (k : Nat), lqS e r = some k → lqS e (r ++ t) = some k
  | [], t, e, k, h => by cases e <;> cases h
  | c :: r, t, e, k, h => by
    have ih := lq_app_some r t
    have key : ∀ e', (lqS e' r).map (1 + ·) = some k → (lqS e' (r ++ t)).map (1 + ·) = some k := by
      intro e' h1
      cases h2 : lqS e' r with
      | none => rw [h2] at h1; cases h1
      | some q => rw [h2] at h1; rw [ih e' q h2]; exact h1
    show lqS e (c :: (r ++ t)) = _
    cases e with
    | true =>
      rw [lqS] at h ⊢
      by_cases h10 : c.toNat = 10
      · rw [if_pos h10] at h; cases h
      · rw [if_neg h10] at h ⊢; exact key _ h
    | false =>
      rw [lqS] at h ⊢
      by_cases h10 : c.toNat = 10
      · rw [if_pos h10] at h; cases h
      · rw [if_neg h10] at h ⊢
        by_cases h34 : c.toNat = 34
        · rw [if_pos h34] at h ⊢; exact h
        · rw [if_neg h34] at h ⊢
          by_cases h92 : c.toNat = 92
          · rw [if_pos h92] at h ⊢; exact key _ h
          · rw [if_neg h92] at h ⊢; exact key _ h
theorem lq_app_none {d : UInt8} (hd : d.toNat = 10) : ∀ (r t : List UInt8) (e : Bool), lqS e r = none → lqS e (r ++ d :: t) = none
  | [], t, e, _ => by
    show lqS e (d :: t) = none
    cases e <;> rw [lqS, if_pos hd]
  | c :: r, t, e, h => by
    have ih := lq_app_none hd r t
    have key : ∀ e', (lqS e' r).map (1 + ·) = none → (lqS e' (r ++ d :: t)).map (1 + ·) = none := by
      intro e' h1
      cases h2 : lqS e' r with
      | none => rw [ih e' h2]; rfl
      | some q => rw [h2] at h1; cases h1
    show lqS e (c :: (r ++ d :: t)) = _
    cases e with
    | true =>
      rw [lqS] at h ⊢
      by_cases h10 : c.toNat = 10
      · rw [if_pos h10]
      · rw [if_neg h10] at h ⊢; exact key _ h
    | false =>
      rw [lqS] at h ⊢
      by_cases h10 : c.toNat = 10
      · rw [if_pos h10]
      · rw [if_neg h10] at h ⊢
        by_cases h34 : c.toNat = 34
        · rw [if_pos h34] at h; cases h
        · rw [if_neg h34] at h ⊢
          by_cases h92 : c.toNat = 92
          · rw [if_pos h92] at h ⊢; exact key _ h
          · rw [if_neg h92] at h ⊢; exact key _ h

/-- A byte that ends every token. -/
def stopB (d : UInt8) : Prop := wordB d = false ∧ numB d = false ∧ d.toNat ≠ 61
theorem next_app {c d : UInt8} {r t : List UInt8} (hd : stopB d) (hq : c.toNat = 34 → lqS false r = none → d.toNat = 10) : nextS (c :: (r ++ d :: t)) = nextS (c :: r) := by
  obtain ⟨hw, hm, he⟩ := hd
  have hdig : digB d = false := by
    cases h : digB d with
    | false => rfl
    | true => unfold numB at hm; rw [h] at hm; cases hm
  have hsec : secB (r ++ d :: t) = secB r := by cases r <;> simp [secB, hdig]
  have heq : eqB (r ++ d :: t) = eqB r := by cases r <;> simp [eqB, he]
  cases hl : letB c with
  | true => rw [nx_word hl, nx_word hl, span_app hw, take_app (spanN_le _ _)]
  | false =>
    have hns : numStart c (r ++ d :: t) = numStart c r := by unfold numStart; rw [hsec]
    cases hn : numStart c r with
    | true => rw [nx_num hl hn, nx_num hl (hns.trans hn), span_app hm, take_app (spanN_le _ _)]
    | false =>
      by_cases h34 : c.toNat = 34
      · rw [nx_text h34, nx_text h34]
        cases h : lqS false r with
        | none => rw [lq_app_none (hq h34 h) r t false h]
        | some k =>
          rw [lq_app_some r (d :: t) false k h]
          simp only
          rw [take_app (lqS_le _ _ _ h).2]
      · cases hs : signB c with
        | true =>
          rw [nx_sign hs, nx_sign hs, heq]
          by_cases h2 : ((decide (c.toNat = 60) || decide (c.toNat = 62)) && eqB r) = true
          · rw [if_pos h2, if_pos h2]
            cases r with
            | nil => simp [eqB] at h2
            | cons a q => rfl
          · rw [if_neg h2, if_neg h2]; rfl
        | false => rw [nx_none hl hn h34 hs, nx_none hl (hns.trans hn) h34 hs]

/-- How many line feeds. -/
def nls (l : List UInt8) : Nat := (l.filter fun c => decide (c.toNat = 10)).length
theorem nls_app (a b : List UInt8) : nls (a ++ b) = nls a + nls b := by unfold nls; rw [List.filter_append, List.length_append]
theorem nls_cons (c : UInt8) (r : List UInt8) : nls (c :: r) = (if c.toNat = 10 then 1 else 0) + nls r := by
  unfold nls
  rw [List.filter_cons]
  by_cases h : c.toNat = 10 <;> simp [h]
  omega
theorem span_nls {p : UInt8 → Bool} (hp : ∀ c, p c = true → c.toNat ≠ 10) : ∀ l : List UInt8, nls (l.take (spanN p l)) = 0
  | [] => rfl
  | c :: r => by
    rw [spanN]
    by_cases h : p c = true
    · rw [if_pos h, Nat.add_comm, List.take_succ_cons, nls_cons, if_neg (hp c h), span_nls hp r]
    · rw [if_neg h]; rfl
theorem lq_nls : ∀ (r : List UInt8) (e : Bool) (k : Nat), lqS e r = some k → nls (r.take k) = 0
  | [], e, k, h => by cases e <;> cases h
  | c :: r, e, k, h => by
    have ih := lq_nls r
    have key : ∀ e', c.toNat ≠ 10 → (lqS e' r).map (1 + ·) = some k → nls ((c :: r).take k) = 0 := by
      intro e' h10 h1
      cases h2 : lqS e' r with
      | none => rw [h2] at h1; cases h1
      | some q =>
        rw [h2] at h1
        simp only [Option.map_some, Option.some.injEq] at h1
        rw [← h1, Nat.add_comm, List.take_succ_cons, nls_cons, if_neg h10, ih e' q h2]
    cases e with
    | true =>
      rw [lqS] at h
      by_cases h10 : c.toNat = 10
      · rw [if_pos h10] at h; cases h
      · rw [if_neg h10] at h; exact key _ h10 h
    | false =>
      rw [lqS] at h
      by_cases h10 : c.toNat = 10
      · rw [if_pos h10] at h; cases h
      · rw [if_neg h10] at h
        by_cases h34 : c.toNat = 34
        · rw [if_pos h34] at h
          injection h with h
          rw [← h, List.take_succ_cons, nls_cons, if_neg h10]
          rfl
        · rw [if_neg h34] at h
          by_cases h92 : c.toNat = 92
          · rw [if_pos h92] at h; exact key _ h10 h
          · rw [if_neg h92] at h; exact key _ h10 h
theorem word_not10 {c : UInt8} (h : wordB c = true) : c.toNat ≠ 10 := by
  intro e
  rw [show wordB c = false by
    have : c = 10 := UInt8.toNat_inj.1 e
    rw [this]; rfl] at h
  cases h
theorem num_not10 {c : UInt8} (h : numB c = true) : c.toNat ≠ 10 := by
  intro e
  rw [show numB c = false by
    have : c = 10 := UInt8.toNat_inj.1 e
    rw [this]; rfl] at h
  cases h
theorem line_not10 {c : UInt8} (h : lineB c = true) : c.toNat ≠ 10 := by unfold lineB at h; simpa using h
theorem take_cons_nls {c : UInt8} {r : List UInt8} {k : Nat} (hc : c.toNat ≠ 10) (h : nls (r.take k) = 0) : nls ((c :: r).take (1 + k)) = 0 := by
  rw [Nat.add_comm, List.take_succ_cons, nls_cons, if_neg hc, h]
/-- No token bears a line feed. -/
theorem next_nls {c : UInt8} {r : List UInt8} {tk : Tk} {n : Nat} (hc : c.toNat ≠ 10) (h : nextS (c :: r) = .ok (tk, n)) : nls ((c :: r).take n) = 0 := by
  cases hl : letB c with
  | true =>
    rw [nx_word hl] at h
    injection h with h
    injection h with _ h
    rw [← h]
    exact take_cons_nls hc (span_nls (fun _ => word_not10) r)
  | false =>
    cases hn : numStart c r with
    | true =>
      rcases num_ways hl hn rfl with ⟨_, hx⟩ | ⟨_, _, hx⟩ | ⟨_, _, hx⟩
      · rw [hx] at h; injection h with h; injection h with _ h; rw [← h]
        exact take_cons_nls hc (span_nls (fun _ => num_not10) r)
      · rw [hx] at h; injection h with h; injection h with _ h; rw [← h]
        exact take_cons_nls hc (span_nls (fun _ => num_not10) r)
      · rw [hx] at h; cases h
    | false =>
      by_cases h34 : c.toNat = 34
      · rcases text_ways (r := r) h34 with ⟨_, hx⟩ | ⟨k, hk, ⟨_, hx⟩ | ⟨_, hx⟩ | ⟨b, _, hx⟩⟩
        · rw [hx] at h; cases h
        · rw [hx] at h; cases h
        · rw [hx] at h; cases h
        · rw [hx] at h; injection h with h; injection h with _ h; rw [← h]
          exact take_cons_nls hc (lq_nls r false k hk)
      · cases hs : signB c with
        | true =>
          rw [nx_sign hs] at h
          by_cases he : ((decide (c.toNat = 60) || decide (c.toNat = 62)) && eqB r) = true
          · rw [if_pos he] at h
            injection h with h
            injection h with _ h
            rw [← h]
            cases r with
            | nil => simp [eqB] at he
            | cons d q =>
              have hd : d.toNat = 61 := by
                rw [Bool.and_eq_true] at he
                have := he.2
                simpa [eqB] using this
              show nls [c, d] = 0
              rw [nls_cons, if_neg hc, nls_cons, if_neg (by omega)]
              rfl
          · rw [if_neg he] at h
            injection h with h
            injection h with _ h
            rw [← h]
            show nls [c] = 0
            rw [nls_cons, if_neg hc]
            rfl
        | false => rw [nx_none hl hn h34 hs] at h; cases h

theorem drop_app {l x : List UInt8} {k : Nat} (h : k ≤ l.length) : (l ++ x).drop k = l.drop k ++ x := List.drop_append_of_le_length h
theorem nls_drop {l : List UInt8} {k : Nat} (h : nls (l.take k) = 0) : nls l = nls (l.drop k) := by
  conv => lhs; rw [← List.take_append_drop k l, nls_app, h]
  omega
theorem nl_stop : stopB 10 := ⟨rfl, rfl, by decide⟩

theorem toks_app (t : List UInt8) : ∀ (n : Nat) (s : List UInt8), s.length ≤ n → ∀ L : Int,
    (∀ q L', tokS s L = .error (q, L') → tokS (s ++ 10 :: t) L = .error (q, L')) ∧
    (∀ ts, tokS s L = .ok ts → ∃ ts0, ts = ts0 ++ [⟨6, [], 0, L + nls s⟩] ∧ tokS (s ++ 10 :: t) L = preT ts0 (tokS t (L + nls s + 1))) := by
  intro n
  induction n with
  | zero =>
    intro s hs L
    have : s = [] := List.eq_nil_of_length_eq_zero (by omega)
    subst this
    refine ⟨fun q L' h => (by cases h), fun ts h => ⟨[], ?_, ?_⟩⟩
    · rw [tokS_nil] at h; injection h with h; rw [← h]; simp [nls]
    · show tokS (10 :: t) L = _
      rw [tokS_nl (by decide), preT_nil]; simp [nls]
  | succ n ih =>
    intro s hs L
    cases s with
    | nil =>
      refine ⟨fun q L' h => (by cases h), fun ts h => ⟨[], ?_, ?_⟩⟩
      · rw [tokS_nil] at h; injection h with h; rw [← h]; simp [nls]
      · show tokS (10 :: t) L = _
        rw [tokS_nl (by decide), preT_nil]; simp [nls]
    | cons c r =>
      rw [List.length_cons] at hs
      show (∀ q L', tokS (c :: r) L = .error (q, L') → tokS (c :: (r ++ 10 :: t)) L = .error (q, L')) ∧
        (∀ ts, tokS (c :: r) L = .ok ts → ∃ ts0, ts = ts0 ++ [⟨6, [], 0, L + nls (c :: r)⟩] ∧ tokS (c :: (r ++ 10 :: t)) L = preT ts0 (tokS t (L + nls (c :: r) + 1)))
      by_cases h10 : c.toNat = 10
      · rw [tokS_nl h10, tokS_nl h10, nls_cons, if_pos h10]
        have := ih r (by omega) (L + 1)
        have e : L + ((1 + nls r : Nat) : Int) = L + 1 + nls r := by omega
        rw [e]
        exact this
      rw [nls_cons, if_neg h10, Nat.zero_add]
      by_cases h32 : c.toNat = 32 ∨ c.toNat = 9
      · rw [tokS_sp h32, tokS_sp h32]
        exact ih r (by omega) L
      by_cases h35 : c.toNat = 35
      · have hsp : spanN lineB (c :: (r ++ 10 :: t)) = spanN lineB (c :: r) := span_app (p := lineB) (d := 10) rfl (c :: r) t
        have hle := spanN_le lineB (c :: r)
        rw [tokS_hash h35, tokS_hash h35, hsp, ← List.cons_append, drop_app hle]
        have hk : nls r = nls ((c :: r).drop (spanN lineB (c :: r))) := by
          rw [← nls_drop (span_nls (fun _ => line_not10) (c :: r)), nls_cons, if_neg h10, Nat.zero_add]
        rw [hk]
        refine ih _ ?_ L
        rw [List.length_drop, List.length_cons, span_hash h35]
        omega
      have hK : tokB c := ⟨h10, fun e => h32 (Or.inl e), fun e => h32 (Or.inr e), h35⟩
      have hnx : nextS (c :: (r ++ 10 :: t)) = nextS (c :: r) := next_app nl_stop (fun _ _ => rfl)
      cases hx : nextS (c :: r) with
      | error q =>
        rw [tokS_err hK hx, tokS_err hK (hnx.trans hx)]
        exact ⟨fun q' L' h => h, fun ts h => by cases h⟩
      | ok v =>
        obtain ⟨tk, m⟩ := v
        have hp := nextS_pos hx
        rw [List.length_cons] at hp
        rw [tokS_tok hK hx, tokS_tok hK (hnx.trans hx), ← List.cons_append, drop_app (by rw [List.length_cons]; exact hp.2)]
        have hk : nls r = nls ((c :: r).drop m) := by
          rw [← nls_drop (next_nls h10 hx), nls_cons, if_neg h10, Nat.zero_add]
        rw [hk]
        obtain ⟨i1, i2⟩ := ih ((c :: r).drop m) (by rw [List.length_drop, List.length_cons]; omega) L
        constructor
        · intro q L' h
          cases hy : tokS ((c :: r).drop m) L with
          | error p =>
            obtain ⟨q2, L2⟩ := p
            rw [hy] at h
            rw [i1 _ _ hy]
            exact h
          | ok ts => rw [hy] at h; cases h
        · intro ts h
          cases hy : tokS ((c :: r).drop m) L with
          | error p => rw [hy] at h; cases h
          | ok ts' =>
            rw [hy] at h
            obtain ⟨ts0, h1, h2⟩ := i2 ts' hy
            refine ⟨[⟨tk.k, tk.t, tk.n, L⟩] ++ ts0, ?_, ?_⟩
            · injection h with h
              rw [← h, h1, List.append_assoc]
            · rw [h2, preT_pre]

/-- Later lines. -/
def shiftT (d : Int) : Except (Int × Int) (List Tok) → Except (Int × Int) (List Tok)
  | .error (q, L) => .error (q, L + d)
  | .ok ts => .ok (ts.map fun t => ⟨t.k, t.t, t.n, t.line + d⟩)
theorem tokF_shift : ∀ (f : Nat) (l : List UInt8) (L d : Int), tokF f l (L + d) = shiftT d (tokF f l L)
  | 0, l, L, d => rfl
  | f + 1, [], L, d => rfl
  | f + 1, c :: r, L, d => by
    rw [tokF_cons, tokF_cons]
    split
    · have := tokF_shift f r (L + 1) d
      rw [← this]
      congr 1
      omega
    · split
      · exact tokF_shift f _ _ _
      · split
        · exact tokF_shift f _ _ _
        · cases hx : nextS (c :: r) with
          | error e => rfl
          | ok v =>
            obtain ⟨t, n⟩ := v
            simp only
            rw [tokF_shift f _ L d]
            cases tokF f ((c :: r).drop n) L with
            | error p => rfl
            | ok ts => rfl
theorem tokS_shift (l : List UInt8) (L d : Int) : tokS l (L + d) = shiftT d (tokS l L) := tokF_shift _ _ _ _

/-- Two texts with a line feed between them. -/
theorem two_err {s t : List UInt8} {q L : Int} (hs : tokS s 1 = .error (q, L)) : tokS (s ++ 10 :: t) 1 = .error (q, L) := (toks_app t s.length s (Nat.le_refl _) 1).1 _ _ hs
theorem two_ok {s t : List UInt8} {x : List Tok} (hs : tokS s 1 = .ok x) : ∃ x0, x = x0 ++ [⟨6, [], 0, 1 + nls s⟩] ∧ tokS (s ++ 10 :: t) 1 = preT x0 (shiftT (1 + nls s) (tokS t 1)) := by
  obtain ⟨x0, h1, h2⟩ := (toks_app t s.length s (Nat.le_refl _) 1).2 _ hs
  refine ⟨x0, h1, ?_⟩
  rw [h2, ← tokS_shift]
  congr 2
  omega

end Go.Proofs.YtpildefkhlejgaaDoor.lex
