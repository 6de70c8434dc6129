/- More attributes and segments: a condition that fits, fits still. -/
import Derived.Test.YtblmmldhlbnbiaaDoorSchema3
namespace Go.Proofs.YtblmmldhlbnbiaaDoor.schema
open Go.RowKit

theorem here_more {decl decl' : List DD} {segs segs' : List ByteArray} (hs : ∀ x, hasS x segs = true → hasS x segs' = true) (hd : ∀ k n, typeOf k n decl ≠ 0 → typeOf k n decl' = typeOf k n decl)
    {op : Int} {kind name : ByteArray} {vals : List VD} (h : hereS decl segs op kind name vals = 0) : hereS decl' segs' op kind name vals = 0 := by
  unfold hereS at *
  by_cases h5 : op = 5
  · rw [if_pos h5] at h ⊢
    by_cases h6 : hasS name.toList segs = true
    · rw [if_pos (hs _ h6)]
    · rw [if_neg h6] at h
      cases h
  · rw [if_neg h5] at h ⊢
    by_cases h6 : 6 ≤ op ∧ op ≤ 15
    · rw [if_pos h6] at h ⊢
      by_cases h7 : typeOf kind.toList name.toList decl = 0
      · rw [if_pos h7] at h
        cases h
      · rw [hd _ _ h7]
        exact h
    · rw [if_neg h6]
mutual
theorem expr_more {decl decl' : List DD} {segs segs' : List ByteArray} (hs : ∀ x, hasS x segs = true → hasS x segs' = true) (hd : ∀ k n, typeOf k n decl ≠ 0 → typeOf k n decl' = typeOf k n decl) : ∀ d : ED, exprS decl segs d = 0 → exprS decl' segs' d = 0
  | .mk op kind name vals kids, h => by
    rw [exprS] at h ⊢
    by_cases h1 : hereS decl segs op kind name vals = 0
    · rw [if_pos h1] at h
      rw [if_pos (here_more hs hd h1)]
      exact exprL_more hs hd kids h
    · rw [if_neg h1] at h
      exact absurd h h1
theorem exprL_more {decl decl' : List DD} {segs segs' : List ByteArray} (hs : ∀ x, hasS x segs = true → hasS x segs' = true) (hd : ∀ k n, typeOf k n decl ≠ 0 → typeOf k n decl' = typeOf k n decl) : ∀ l : List ED, exprL decl segs l = 0 → exprL decl' segs' l = 0
  | [], _ => rfl
  | k :: r, h => by
    rw [exprL] at h ⊢
    by_cases h1 : exprS decl segs k = 0
    · rw [if_pos h1] at h
      rw [if_pos (expr_more hs hd k h1)]
      exact exprL_more hs hd r h
    · rw [if_neg h1] at h
      exact absurd h h1
end
/-- An attribute that was not declared is declared ahead of the others. -/
theorem type_more {l : List DD} {kind name : ByteArray} {t : Int} (h0 : typeOf kind.toList name.toList l = 0) (k n : List UInt8) (h : typeOf k n l ≠ 0) : typeOf k n (⟨kind, name, t⟩ :: l) = typeOf k n l := by
  rw [typeOf]
  split
  · rename_i hc
    simp only [Bool.and_eq_true, beq_iff_eq] at hc
    rw [← hc.1, ← hc.2] at h
    exact absurd h0 h
  · rfl

end Go.Proofs.YtblmmldhlbnbiaaDoor.schema
