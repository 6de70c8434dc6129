/- Texts of pieces with blanks between them. No program in sight. -/
import Derived.Test.YtpildefkhlejgaaDoorLexR
import Derived.Test.YtpildefkhlejgaaDoorLexK
namespace Go.Proofs.YtpildefkhlejgaaDoor.lex
open Go.Proofs.YtpildefkhlejgaaDoor.text Go.Proofs.YtpildefkhlejgaaDoor.value

/-- A piece that is one token or an error, whatever blank follows it. -/
def pieceOk (p : List UInt8) : Bool :=
  match p with
  | [] => false
  | c :: r => decide (c.toNat ≠ 10) && decide (c.toNat ≠ 32) && decide (c.toNat ≠ 9) && decide (c.toNat ≠ 35) && (decide (c.toNat ≠ 34) || (lqS false r).isSome) &&
    (match nextS (c :: r) with | .error _ => true | .ok (_, n) => n == (c :: r).length)
/-- A byte with which a blank begins. -/
def blankB (d : UInt8) : Prop := d = 32 ∨ d = 9 ∨ d = 10
theorem blank_stop {d : UInt8} (h : blankB d) : stopB d := by
  rcases h with rfl | rfl | rfl <;> exact ⟨rfl, rfl, by decide⟩
/-- What a piece does ahead of a blank: the same error, or the same tokens, at whatever line. -/
def PieceDoes (p : List UInt8) : Prop :=
  (∃ q, ∀ d r L, blankB d → ∃ L', tokS (p ++ d :: r) L = .error (q, L')) ∨
  (∃ f : Int → List Tok, (∀ L M, (f L).map (fun t => (t.k, t.t, t.n)) = (f M).map (fun t => (t.k, t.t, t.n))) ∧ ∀ d r L, blankB d → tokS (p ++ d :: r) L = preT (f L) (tokS (d :: r) L))
theorem piece_does {p : List UInt8} (h : pieceOk p = true) : PieceDoes p := by
  cases p with
  | nil => cases h
  | cons c r =>
    unfold pieceOk at h
    simp only [Bool.and_eq_true, decide_eq_true_eq, Bool.or_eq_true] at h
    obtain ⟨⟨⟨⟨⟨h10, h32⟩, h9⟩, h35⟩, h34⟩, hn⟩ := h
    have hK : tokB c := ⟨h10, h32, h9, h35⟩
    have hq : ∀ d : UInt8, c.toNat = 34 → lqS false r = none → d.toNat = 10 := by
      intro d e1 e2
      rcases h34 with h | h
      · exact absurd e1 h
      · rw [e2] at h; cases h
    cases hx : nextS (c :: r) with
    | error q =>
      refine Or.inl ⟨q, fun d t L hd => ⟨L, ?_⟩⟩
      exact tokS_err hK ((next_app (blank_stop hd) (hq d)).trans hx)
    | ok v =>
      obtain ⟨tk, n⟩ := v
      rw [hx] at hn
      simp only [beq_iff_eq] at hn
      refine Or.inr ⟨fun L => [⟨tk.k, tk.t, tk.n, L⟩], fun L M => rfl, fun d t L hd => ?_⟩
      have := tokS_tok (L := L) hK ((next_app (t := t) (blank_stop hd) (hq d)).trans hx)
      show tokS (c :: (r ++ d :: t)) L = _
      rw [this, hn]
      congr 2
      rw [← List.cons_append, drop_app (Nat.le_refl _), List.drop_length]
      rfl
theorem tab_does : PieceDoes [9] := Or.inr ⟨fun _ => [], fun _ _ => rfl, fun d r L _ => by
  show tokS (9 :: d :: r) L = _
  rw [tokS_sp (by decide), preT_nil]⟩
/-- The pieces, but for the two that swallow what follows. -/
theorem pieces_do (j : Nat) (h : j < piecesL.length) (h1 : piecesL[j] ≠ [35, 99]) (h2 : piecesL[j] ≠ [34, 111, 112, 101, 110]) : PieceDoes piecesL[j] := by
  have hall : ∀ p ∈ piecesL, pieceOk p = true ∨ p = [9] ∨ p = [35, 99] ∨ p = [34, 111, 112, 101, 110] := by
    have hb : (piecesL.all fun p => pieceOk p || (p == [9] || (p == [35, 99] || p == [34, 111, 112, 101, 110]))) = true := by kernel_rfl
    intro p hp
    have := List.all_eq_true.1 hb p hp
    simpa using this
  rcases hall _ (List.getElem_mem h) with h3 | h3 | h3 | h3
  · exact piece_does h3
  · rw [h3]; exact tab_does
  · exact absurd h3 h1
  · exact absurd h3 h2

/-- What a blank does: it goes on at this line or a later one. -/
def BlankDoes (b : List UInt8) : Prop := ∃ d r, b = d :: r ∧ blankB d ∧ ∀ t M, ∃ M', tokS (b ++ t) M = tokS t M'
theorem blank_0 : BlankDoes [32] := ⟨32, [], rfl, Or.inl rfl, fun t M => ⟨M, by show tokS (32 :: t) M = _; rw [tokS_sp (by decide)]⟩⟩
theorem blank_1 : BlankDoes [9, 32] := ⟨9, [32], rfl, Or.inr (Or.inl rfl), fun t M => ⟨M, by show tokS (9 :: 32 :: t) M = _; rw [tokS_sp (by decide), tokS_sp (by decide)]⟩⟩
theorem blank_2 : BlankDoes [32, 35, 120, 34, 10] := ⟨32, [35, 120, 34, 10], rfl, Or.inl rfl, fun t M => ⟨M + 1, by
  show tokS (32 :: 35 :: 120 :: 34 :: 10 :: t) M = _
  rw [tokS_sp (by decide), tokS_hash (by decide)]
  have : spanN lineB (35 :: 120 :: 34 :: 10 :: t) = 3 := by
    rw [spanN, if_pos (by decide), spanN, if_pos (by decide), spanN, if_pos (by decide), spanN, if_neg (by decide)]
  rw [this]
  show tokS (10 :: t) M = _
  rw [tokS_nl (by decide)]⟩⟩
theorem blank_3 : BlankDoes [10, 10] := ⟨10, [10], rfl, Or.inr (Or.inr rfl), fun t M => ⟨M + 1 + 1, by show tokS (10 :: 10 :: t) M = _; rw [tokS_nl (by decide), tokS_nl (by decide)]⟩⟩

/-- Two texts of the same pieces: the same error, or the same tokens but for their lines. -/
def BRel (O T : List UInt8) : Prop :=
  (∃ q, (∀ r L, ∃ L', tokS (O ++ r) L = .error (q, L')) ∧ (∀ r L, ∃ L', tokS (T ++ r) L = .error (q, L'))) ∨
  (∀ r r' L M, ∃ ts ts' M', tokS (O ++ r) L = preT ts (tokS r L) ∧ tokS (T ++ r') M = preT ts' (tokS r' M') ∧ ts.map (fun t => (t.k, t.t, t.n)) = ts'.map (fun t => (t.k, t.t, t.n)))
theorem BRel.start : BRel [] [] := Or.inr fun r r' L M => ⟨[], [], M, by rw [preT_nil]; rfl, by rw [preT_nil]; rfl, rfl⟩
theorem preT_err (ts : List Tok) (p : Int × Int) : preT ts (.error p) = .error p := rfl
theorem BRel.step {O T p b : List UInt8} (h : BRel O T) (hp : PieceDoes p) (hb : BlankDoes b) : BRel (O ++ (p ++ [32])) (T ++ (p ++ b)) := by
  obtain ⟨d, b', rfl, hd, hbt⟩ := hb
  have eO : ∀ r, (O ++ (p ++ [32])) ++ r = O ++ (p ++ 32 :: r) := fun r => by simp
  have eT : ∀ r, (T ++ (p ++ d :: b')) ++ r = T ++ (p ++ d :: (b' ++ r)) := fun r => by simp
  rcases h with ⟨q, h1, h2⟩ | h
  · refine Or.inl ⟨q, fun r L => ?_, fun r L => ?_⟩
    · rw [eO]; exact h1 _ L
    · rw [eT]; exact h2 _ L
  · rcases hp with ⟨q, hq⟩ | ⟨f, hf, hq⟩
    · refine Or.inl ⟨q, fun r L => ?_, fun r L => ?_⟩
      · obtain ⟨ts, ts', M', e1, e2, e3⟩ := h (p ++ 32 :: r) [] L L
        obtain ⟨L', e4⟩ := hq 32 r L (Or.inl rfl)
        exact ⟨L', by rw [eO, e1, e4, preT_err]⟩
      · obtain ⟨ts, ts', M', e1, e2, e3⟩ := h [] (p ++ d :: (b' ++ r)) L L
        obtain ⟨L', e4⟩ := hq d (b' ++ r) M' hd
        exact ⟨L', by rw [eT, e2, e4, preT_err]⟩
    · refine Or.inr fun r r' L M => ?_
      obtain ⟨ts, ts', M', e1, e2, e3⟩ := h (p ++ 32 :: r) (p ++ d :: (b' ++ r')) L M
      obtain ⟨M2, e5⟩ := hbt r' M'
      refine ⟨ts ++ f L, ts' ++ f M', M2, ?_, ?_, ?_⟩
      · rw [eO, e1, hq 32 r L (Or.inl rfl), preT_pre, tokS_sp (by decide)]
      · rw [eT, e2, hq d (b' ++ r') M' hd, preT_pre]
        congr 1
      · rw [List.map_append, List.map_append, e3, hf L M']
/-- What Tokens gives of two such texts. -/
theorem BRel.ways {O T : List UInt8} (h : BRel O T) (hO : O.length ≤ 30000) (hT : T.length ≤ 30000) :
    (∃ q L L', toksS O = .error (q, L) ∧ toksS T = .error (q, L')) ∨ ∃ ts ts', toksS O = .ok ts ∧ toksS T = .ok ts' ∧ ts ≠ [] ∧ ts.map (fun t => (t.k, t.t, t.n)) = ts'.map (fun t => (t.k, t.t, t.n)) := by
  rw [toksS_ok (by omega), toksS_ok (by omega)]
  rcases h with ⟨q, h1, h2⟩ | h
  · obtain ⟨L, e1⟩ := h1 [] 1
    obtain ⟨L', e2⟩ := h2 [] 1
    rw [List.append_nil] at e1 e2
    exact Or.inl ⟨q, L, L', e1, e2⟩
  · obtain ⟨ts, ts', M', e1, e2, e3⟩ := h [] [] 1 1
    rw [List.append_nil] at e1 e2
    refine Or.inr ⟨ts ++ [⟨6, [], 0, 1⟩], ts' ++ [⟨6, [], 0, M'⟩], by rw [e1]; rfl, by rw [e2]; rfl, by simp, ?_⟩
    rw [List.map_append, List.map_append, e3]
    rfl

end Go.Proofs.YtpildefkhlejgaaDoor.lex
