/- A text without its quotation marks: the reference's Unquote and the program's give the same. -/
import Derived.Test.YtnghpjijfdpmkaaDoorTextG
namespace Go.Proofs.YtnghpjijfdpmkaaDoor.text
open Go.RowKit

/-- What stands between the marks, read: e: was the byte before a backslash that escapes. -/
def unqF : Bool → List UInt8 → Option (List UInt8)
  | false, [] => some []
  | true, [] => none
  | true, c :: r => if c.toNat = 34 ∨ c.toNat = 92 then (unqF false r).map (c :: ·) else none
  | false, c :: r => if c.toNat = 34 then none else if c.toNat = 92 then unqF true r else (unqF false r).map (c :: ·)
def unquoteS (l : List UInt8) : Option (List UInt8) :=
  if l.length < 2 ∨ l.head? ≠ some 34 ∨ l.getLast? ≠ some 34 then none else unqF false ((l.take (l.length - 1)).drop 1)
def unquoteV (l : List UInt8) : Value :=
  match unquoteS l with
  | none => .tuple #[.string ⟨#[]⟩, .int .i64 1]
  | some b => if validS b then .tuple #[.string ⟨b.toArray⟩, .int .i64 0] else .tuple #[.string ⟨#[]⟩, .int .i64 2]

/-- How far the reading has come: acc has been read. -/
def UnqRel (T : Option (List UInt8)) (e : Bool) (acc rest : List UInt8) : Prop := (unqF e rest).map (acc ++ ·) = T
theorem unq_start (l : List UInt8) : UnqRel (unqF false l) false [] l := by
  unfold UnqRel
  cases unqF false l <;> rfl
theorem unq_plain {T : Option (List UInt8)} {acc r : List UInt8} {c : UInt8} (h : UnqRel T false acc (c :: r)) (h1 : c.toNat ≠ 34) (h2 : c.toNat ≠ 92) : UnqRel T false (acc ++ [c]) r := by
  unfold UnqRel at *
  rw [unqF, if_neg h1, if_neg h2, Option.map_map] at h
  rw [← h]
  congr 1
  funext x
  simp
theorem unq_esc {T : Option (List UInt8)} {acc r : List UInt8} {c : UInt8} (h : UnqRel T false acc (c :: r)) (h2 : c.toNat = 92) : UnqRel T true acc r := by
  unfold UnqRel at *
  rw [unqF, if_neg (by omega), if_pos h2] at h
  exact h
theorem unq_escd {T : Option (List UInt8)} {acc r : List UInt8} {c : UInt8} (h : UnqRel T true acc (c :: r)) (h2 : c.toNat = 34 ∨ c.toNat = 92) : UnqRel T false (acc ++ [c]) r := by
  unfold UnqRel at *
  rw [unqF, if_pos h2, Option.map_map] at h
  rw [← h]
  congr 1
  funext x
  simp
theorem unq_quote {T : Option (List UInt8)} {acc r : List UInt8} {c : UInt8} (h : UnqRel T false acc (c :: r)) (h2 : c.toNat = 34) : T = none := by
  unfold UnqRel at h
  rw [unqF, if_pos h2] at h
  exact h.symm
theorem unq_bad {T : Option (List UInt8)} {acc r : List UInt8} {c : UInt8} (h : UnqRel T true acc (c :: r)) (h1 : c.toNat ≠ 34) (h2 : c.toNat ≠ 92) : T = none := by
  unfold UnqRel at h
  rw [unqF, if_neg (by omega)] at h
  exact h.symm
theorem unq_open {T : Option (List UInt8)} {acc : List UInt8} (h : UnqRel T true acc []) : T = none := h.symm
theorem unq_end {T : Option (List UInt8)} {acc : List UInt8} (h : UnqRel T false acc []) : T = some acc := by
  unfold UnqRel at h
  rw [unqF] at h
  simpa using h.symm

theorem head_byte' {s : ByteArray} (h : 0 < s.size) : s.data.toList.head? = some s[0] := by
  rw [List.head?_eq_getElem?, Array.getElem?_toList]
  exact Array.getElem?_eq_getElem (show 0 < s.data.size from h)
/-- The text between the marks. -/
def innerL (s : ByteArray) : List UInt8 := (s.data.toList.take (s.size - 1)).drop 1
theorem unquoteV_short {s : ByteArray} (h : s.size < 2) : unquoteV s.data.toList = .tuple #[.string ⟨#[]⟩, .int .i64 1] := by
  unfold unquoteV unquoteS
  rw [if_pos (Or.inl (by simpa using h))]
theorem unquoteV_first {s : ByteArray} (h : 0 < s.size) (h1 : s[0].toNat ≠ 34) : unquoteV s.data.toList = .tuple #[.string ⟨#[]⟩, .int .i64 1] := by
  unfold unquoteV unquoteS
  have hh : s.data.toList.head? ≠ some 34 := by
    have : s.data.toList.head? = some s[0] := head_byte' h
    rw [this]
    intro e
    injection e with e
    exact h1 (by rw [e]; rfl)
  rw [if_pos (Or.inr (Or.inl hh))]
theorem last_byte {s : ByteArray} (h : 0 < s.size) : s.data.toList.getLast? = some (s[s.size - 1]'(by omega)) := by
  have e : s.data.toList.length - 1 = s.size - 1 := by simp
  rw [List.getLast?_eq_getElem?, e, Array.getElem?_toList]
  exact Array.getElem?_eq_getElem (show s.size - 1 < s.data.size by have : s.data.size = s.size := rfl; omega)
theorem unquoteV_last {s : ByteArray} (h : 0 < s.size) (h1 : (s[s.size - 1]'(by omega)).toNat ≠ 34) : unquoteV s.data.toList = .tuple #[.string ⟨#[]⟩, .int .i64 1] := by
  unfold unquoteV unquoteS
  have hh : s.data.toList.getLast? ≠ some 34 := by
    rw [last_byte h]
    intro e
    injection e with e
    exact h1 (by rw [e]; rfl)
  rw [if_pos (Or.inr (Or.inr hh))]
theorem unquoteS_inner {s : ByteArray} (h : 2 ≤ s.size) (h1 : (s[0]'(by omega)).toNat = 34) (h2 : (s[s.size - 1]'(by omega)).toNat = 34) : unquoteS s.data.toList = unqF false (innerL s) := by
  unfold unquoteS innerL
  have e1 : s.data.toList.head? = some 34 := by
    have : s.data.toList.head? = some (s[0]'(by omega)) := head_byte' (by omega)
    rw [this]
    exact congrArg some (UInt8.toNat_inj.1 h1)
  have e2 : s.data.toList.getLast? = some 34 := by
    rw [last_byte (by omega)]
    exact congrArg some (UInt8.toNat_inj.1 h2)
  have e3 : s.data.toList.length = s.size := by simp
  rw [if_neg (by rw [e1, e2, e3]; simp; omega), e3]
theorem ret_none {s : ByteArray} (h : unquoteS s.data.toList = none) : Ending.returned (.tuple #[.string ⟨#[]⟩, .int .i64 1]) = .returned (unquoteV s.data.toList) := by rw [unquoteV, h]
theorem ret_inval {s : ByteArray} {b : List UInt8} (h : unquoteS s.data.toList = some b) (hv : validS b = false) : Ending.returned (.tuple #[.string ⟨#[]⟩, .int .i64 2]) = .returned (unquoteV s.data.toList) := by
  rw [unquoteV, h]
  simp [hv]
theorem ret_read {s : ByteArray} {b : List UInt8} (h : unquoteS s.data.toList = some b) (hv : validS b = true) : Ending.returned (.tuple #[.string ⟨b.toArray⟩, .int .i64 0]) = .returned (unquoteV s.data.toList) := by
  rw [unquoteV, h]
  simp [hv]

theorem inner_byte {s : ByteArray} {k : Nat} (h1 : 1 ≤ k) (h : k + 1 < s.size) : (innerL s).drop (k - 1) = s[k] :: (innerL s).drop k := by
  unfold innerL
  rw [List.drop_drop, List.drop_drop]
  have e : 1 + (k - 1) = k := by omega
  have e2 : 1 + k = k + 1 := by omega
  rw [e, e2, List.drop_eq_getElem_cons (by simp; omega)]
  congr 1
  simp
  rfl
theorem inner_end {s : ByteArray} {k : Nat} (h : s.size ≤ k + 1) : (innerL s).drop (k - 1) = [] := by
  unfold innerL
  rw [List.drop_drop]
  exact List.drop_eq_nil_of_le (by simp; omega)

/-- What the reference's loop knows at the head of a round. -/
def RefRel (s : ByteArray) (w wr : World) (k : Nat) (va : Option Addr) (n vc : Nat) (acc : List UInt8) : Prop :=
  UnqRel (unquoteS s.data.toList) false acc ((innerL s).drop (k - 1)) ∧ n = acc.length ∧ BS w.heap.size (.slice va n vc) acc wr ∧ Below w.heap.size w wr

end Go.Proofs.YtnghpjijfdpmkaaDoor.text

