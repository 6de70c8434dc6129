/- Words of a text, said plainly: the fields by runes that FieldsFunc gives at three blanks are the words by bytes. -/
import Derived.Lib.FieldsP
import Derived.Lib.SpaceUEq
namespace Go.Proofs.YtnghpjijfdpmkaaDoor.metric
open Go.Lib

def blankB (c : UInt8) : Bool := c.toNat == 32 || c.toNat == 9 || c.toNat == 10
def blankR (x : Nat) : Bool := x == 32 || x == 9 || x == 10
/-- The words of a text, behind an open word. -/
def wordsGo : List UInt8 → List UInt8 → List (List UInt8)
  | w, [] => if w = [] then [] else [w]
  | w, c :: r => if blankB c then (if w = [] then wordsGo [] r else w :: wordsGo [] r) else wordsGo (w ++ [c]) r
def wordsW (l : List UInt8) : List (List UInt8) := wordsGo [] l
theorem wordsGo_nil (w : List UInt8) : wordsGo w [] = if w = [] then [] else [w] := rfl
theorem wordsGo_blank (w r : List UInt8) (c : UInt8) (h : blankB c = true) : wordsGo w (c :: r) = if w = [] then wordsGo [] r else w :: wordsGo [] r := by
  rw [wordsGo, if_pos h]
theorem wordsGo_skip : ∀ (x w r : List UInt8), (∀ c ∈ x, blankB c = false) → wordsGo w (x ++ r) = wordsGo (w ++ x) r
  | [], w, r, _ => by simp
  | c :: x, w, r, h => by
    have hc := h c (by simp)
    have ih := wordsGo_skip x (w ++ [c]) r (fun d hd => h d (by simp [hd]))
    show (if blankB c then _ else wordsGo (w ++ [c]) (x ++ r)) = _
    rw [hc, if_neg (by simp), ih]
    simp
theorem dec_blank (l : List UInt8) (h : blankR (decodeL l).1 = true) : (decodeL l).2 = 1 ∧ blankB (l.getD 0 0) = true := by
  rw [decodeL_N] at h ⊢
  rcases decodeN_cases l.length (l.getD 0 0).toNat (l.getD 1 0).toNat (l.getD 2 0).toNat (l.getD 3 0).toNat with ⟨h0, h1⟩ | ⟨-, -, -, h0, h1⟩ | ⟨-, -, -, -, h0, h1⟩ | ⟨h0, h1⟩ | h1
  · rw [h1] at h ⊢
    exact ⟨rfl, h⟩
  · rw [h1] at h
    simp only [blankR, Bool.or_eq_true, beq_iff_eq] at h
    omega
  · rw [h1] at h
    simp only [blankR, Bool.or_eq_true, beq_iff_eq] at h
    omega
  · simp only [blankR, Bool.or_eq_true, beq_iff_eq] at h
    omega
  · rw [h1] at h
    exact absurd h (by decide)
theorem big_blank (c : UInt8) (h : 128 ≤ c.toNat) : blankB c = false := by
  have h1 : ¬ c.toNat = 32 := by omega
  have h2 : ¬ c.toNat = 9 := by omega
  have h3 : ¬ c.toNat = 10 := by omega
  simp [blankB, h1, h2, h3]
theorem dec_not (l : List UInt8) (hne : l ≠ []) (h : blankR (decodeL l).1 = false) : (decodeL l).2 ≤ l.length ∧ ∀ j, j < (decodeL l).2 → blankB (l.getD j 0) = false := by
  have hl : 0 < l.length := List.length_pos_iff.2 hne
  have hc := decodeN_conts l.length (l.getD 0 0).toNat (l.getD 1 0).toNat (l.getD 2 0).toNat (l.getD 3 0).toNat
  rw [← decodeL_N] at hc
  obtain ⟨c2, c3, c4, c5⟩ := hc
  refine ⟨by have := decodeL_width l; omega, fun j hj => ?_⟩
  match j, hj with
  | 0, _ =>
    by_cases h0 : (l.getD 0 0).toNat < 128
    · have e : decodeL l = ((l.getD 0 0).toNat, 1) := by
        rw [decodeL_N, decodeN, if_pos h0]
      rw [e] at h
      exact h
    · exact big_blank _ (by omega)
  | 1, hj => exact big_blank _ (by have := (c2 (by omega)).1; omega)
  | 2, hj => exact big_blank _ (by have := (c3 (by omega)).1; omega)
  | 3, hj => exact big_blank _ (by have := (c4 (by omega)).1; omega)
  | j + 4, hj => omega
theorem take_not (l : List UInt8) (k : Nat) (hk : k ≤ l.length) (h : ∀ j, j < k → blankB (l.getD j 0) = false) : ∀ c ∈ l.take k, blankB c = false := by
  intro c hc
  obtain ⟨j, hj, he⟩ := List.mem_iff_getElem.1 hc
  have hjk : j < k := by rw [List.length_take] at hj; omega
  have := h j hjk
  rw [List.getElem_take] at he
  rw [List.getD_eq_getElem?_getD, List.getElem?_eq_getElem (by omega), Option.getD_some, he] at this
  exact this
theorem drop_head (l : List UInt8) (h : l ≠ []) : l = l.getD 0 0 :: l.drop 1 := by
  cases l with
  | nil => exact absurd rfl h
  | cons a r => rfl

theorem words_spans (s : ByteArray) : ∀ (f pos : Nat) (st : Option Nat) (acc : List (Nat × Nat)), s.size ≤ pos + f → pos ≤ s.size → (∀ a, st = some a → a < pos) →
    acc.map (fun p => pieceU s.data.toList p.1 p.2) ++ wordsGo (openPiece s.data.toList st pos) (s.data.toList.drop pos) = (closeSpans s (spansFromP blankR s f pos st acc)).map (fun p => pieceU s.data.toList p.1 p.2)
  | 0, pos, st, acc, h, hp, hst => by
    obtain rfl : pos = s.size := by omega
    have hd : s.data.toList.drop s.size = [] := List.drop_eq_nil_of_le (by rw [← size_eq]; exact Nat.le_refl _)
    rw [hd, wordsGo_nil]
    cases st with
    | none => simp [spansFromP, closeSpans, openPiece]
    | some a =>
      have := pieceU_ne s.data.toList a s.size (hst a rfl) (by rw [← size_eq]; exact Nat.le_refl _)
      simp [spansFromP, closeSpans, openPiece, this]
  | f + 1, pos, st, acc, h, hp, hst => by
    by_cases hlt : pos < s.size
    · have hne : s.data.toList.drop pos ≠ [] := by
        intro h0
        have := congrArg List.length h0
        rw [List.length_drop, ← size_eq] at this
        simp at this
        omega
      have hw := width_pos s pos
      have hwn : pos + (Utf8.decode s pos).2 ≤ s.size := by
        have := decodeN_le_n' (s.size - pos) (s.get! pos).toNat (s.get! (pos + 1)).toNat (s.get! (pos + 2)).toNat (s.get! (pos + 3)).toNat (by omega)
        rw [← decode_at] at this
        omega
      simp only [spansFromP, if_pos hlt]
      cases hsp : blankR (Utf8.decode s pos).1 with
      | true =>
        have hsp' := hsp
        rw [← decodeL_drop] at hsp'
        obtain ⟨h1, h2⟩ := dec_blank _ hsp'
        rw [decodeL_drop] at h1
        have hdd : s.data.toList.drop pos = (s.data.toList.drop pos).getD 0 0 :: s.data.toList.drop (pos + 1) := by
          have := drop_head _ hne
          rw [List.drop_drop] at this
          exact this
        rw [hdd, wordsGo_blank _ _ _ h2, h1]
        rw [h1] at hwn
        simp only [if_true]
        cases st with
        | none =>
          have ih := words_spans s f (pos + 1) none acc (by omega) hwn (fun a h => by cases h)
          simpa [openPiece] using ih
        | some a =>
          have hpn := pieceU_ne s.data.toList a pos (hst a rfl) (by rw [← size_eq]; omega)
          have ih := words_spans s f (pos + 1) none (acc ++ [(a, pos)]) (by omega) hwn (fun a h => by cases h)
          simpa [openPiece, hpn] using ih
      | false =>
        have hsp' := hsp
        rw [← decodeL_drop] at hsp'
        obtain ⟨h1, h2⟩ := dec_not _ hne hsp'
        have h3 := take_not _ _ h1 h2
        rw [decodeL_drop] at h1 h3
        have hsplit : s.data.toList.drop pos = (s.data.toList.drop pos).take (Utf8.decode s pos).2 ++ s.data.toList.drop (pos + (Utf8.decode s pos).2) := by
          have := (List.take_append_drop (Utf8.decode s pos).2 (s.data.toList.drop pos)).symm
          rw [List.drop_drop] at this
          exact this
        rw [hsplit, wordsGo_skip _ _ _ h3]
        simp only [Bool.false_eq_true, if_false]
        cases st with
        | none =>
          have ih := words_spans s f (pos + (Utf8.decode s pos).2) (some pos) acc (by omega) hwn (fun a h => by cases h; omega)
          have e : ([] : List UInt8) ++ (s.data.toList.drop pos).take (Utf8.decode s pos).2 = pieceU s.data.toList pos (pos + (Utf8.decode s pos).2) := by
            unfold pieceU
            rw [List.nil_append, Nat.add_sub_cancel_left]
          simp only [openPiece] at ih ⊢
          rw [e]
          exact ih
        | some a =>
          have ih := words_spans s f (pos + (Utf8.decode s pos).2) (some a) acc (by omega) hwn (fun b h => by cases h; have := hst a rfl; omega)
          simp only [openPiece] at ih ⊢
          rw [pieceU_grow _ _ _ _ (Nat.le_of_lt (hst a rfl))]
          exact ih
    · obtain rfl : pos = s.size := by omega
      have hd : s.data.toList.drop s.size = [] := List.drop_eq_nil_of_le (by rw [← size_eq]; exact Nat.le_refl _)
      rw [hd, wordsGo_nil, spansFromP_end _ s _ _ _ _ hlt]
      cases st with
      | none => simp [closeSpans, openPiece]
      | some a =>
        have := pieceU_ne s.data.toList a s.size (hst a rfl) (by rw [← size_eq]; exact Nat.le_refl _)
        simp [closeSpans, openPiece, this]

theorem extract_piece (s : ByteArray) (a b : Nat) : (s.extract a b).data.toList = pieceU s.data.toList a b := by
  unfold pieceU
  rw [ByteArray.data_extract, Array.toList_extract]
/-- The fields of a text are its words. -/
theorem fields_words (s : ByteArray) : (goFieldsP blankR s).map (fun x => x.data.toList) = wordsW s.data.toList := by
  have h := words_spans s s.size 0 none [] (by omega) (by omega) (fun a h => by cases h)
  unfold goFieldsP spansOfP
  rw [List.map_map]
  have e : ((fun x : ByteArray => x.data.toList) ∘ fun x : Nat × Nat => s.extract x.1 x.2) = fun p => pieceU s.data.toList p.1 p.2 := by
    funext p
    exact extract_piece s p.1 p.2
  rw [e, ← h]
  rfl

end Go.Proofs.YtnghpjijfdpmkaaDoor.metric

