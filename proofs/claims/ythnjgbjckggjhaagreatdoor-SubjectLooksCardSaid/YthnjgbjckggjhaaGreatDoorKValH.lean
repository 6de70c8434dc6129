/- How two values compare: the program's Compare. -/
import Derived.Test.YthnjgbjckggjhaaGreatDoorKValG
namespace Go.Proofs.YthnjgbjckggjhaaGreatDoor.value
open Go.RowKit Go.Proofs.YthnjgbjckggjhaaGreatDoor.text

theorem cmpI_lib (x y : Int) : Lib.compareInt x y = cmpI x y := rfl

theorem cmpT_gt {a b : List UInt8} (h1 : Op.bytesLess a b = false) (h2 : Op.bytesLess b a = true) : cmpT a b = 1 := by rw [cmpT, h1, h2]; rfl
theorem cmpT_lt {a b : List UInt8} (h1 : Op.bytesLess a b = true) : cmpT a b = -1 := by rw [cmpT, h1]; rfl
theorem cmpT_eq {a b : List UInt8} (h1 : Op.bytesLess a b = false) (h2 : Op.bytesLess b a = false) : cmpT a b = 0 := by rw [cmpT, h1, h2]; rfl

theorem cmpI_ne {x y : Int} (h : ¬ x = y) : (cmpI x y != 0) = true := by
  unfold cmpI
  by_cases h1 : x < y
  · rw [if_pos h1]; rfl
  · rw [if_neg h1, if_pos (by omega)]; rfl
theorem cmpI_eq (x : Int) : cmpI x x = 0 := by unfold cmpI; simp

/-- What Compare gives. -/
def cmpR (a b : VV) : Value := .tuple #[.int .i64 (compareS a b).1, .int .i64 (compareS a b).2]
theorem cmpR_a {a b : VV} (h : ¬ checkS a = 0) : cmpR a b = .tuple #[.int .i64 0, .int .i64 (checkS a)] := by unfold cmpR compareS; rw [if_pos h]
theorem cmpR_b {a b : VV} (h : checkS a = 0) (h2 : ¬ checkS b = 0) : cmpR a b = .tuple #[.int .i64 0, .int .i64 (checkS b)] := by unfold cmpR compareS; rw [if_neg (by simp [h]), if_pos h2]
theorem cmpR_k {a b : VV} (h : checkS a = 0) (h2 : checkS b = 0) (h3 : a.k ≠ b.k ∨ a.k = 1 ∨ a.k = 5) : cmpR a b = .tuple #[.int .i64 0, .int .i64 8] := by
  unfold cmpR compareS; rw [if_neg (by simp [h]), if_neg (by simp [h2]), if_pos h3]
theorem cmpR_n {a b : VV} (h : checkS a = 0) (h2 : checkS b = 0) (h3 : a.k = 2) (h4 : b.k = 2) : cmpR a b = .tuple #[.int .i64 (cmpI a.n b.n), .int .i64 0] := by
  unfold cmpR compareS; simp [h, h2, h3, h4]
theorem cmpR_t {a b : VV} (h : checkS a = 0) (h2 : checkS b = 0) (h3 : a.k = 3) (h4 : b.k = 3) : cmpR a b = .tuple #[.int .i64 (cmpT a.t b.t), .int .i64 0] := by
  unfold cmpR compareS; simp [h, h2, h3, h4]
theorem cmpR_v {a b : VV} (h : checkS a = 0) (h2 : checkS b = 0) (h3 : a.k = 4) (h4 : b.k = 4) : cmpR a b = .tuple #[.int .i64 (cmpV (verS a.t) (verS b.t)), .int .i64 0] := by
  unfold cmpR compareS; simp [h, h2, h3, h4]
theorem kind_of {a : VV} (h : checkS a = 0) : 1 ≤ a.k ∧ a.k ≤ 5 := by
  by_cases hk : a.k < 1 ∨ 5 < a.k
  · rw [c_kind hk] at h; cases h
  · omega
theorem ver_of {a : VV} (h : checkS a = 0) (hk : a.k = 4) : ∃ x y z, verS a.t = some (x, y, z) := by
  by_cases hs : shapeS a = true
  · rw [c_4 hs hk] at h
    cases hv : verS a.t with
    | none => rw [hv] at h; cases h
    | some p => obtain ⟨x, y, z⟩ := p; exact ⟨x, y, z, rfl⟩
  · rw [c_shape (by omega) (by simpa using hs)] at h; cases h
theorem verV_of {l : List UInt8} {x y z : Int} (h : verS l = some (x, y, z)) : verV l = .tuple #[.agg #[.int .i64 x, .int .i64 y, .int .i64 z], .bool true] := by rw [verV, h]
/-- Which ways two valid values go. -/
theorem two_ways {a b : VV} (ha : checkS a = 0) (hb : checkS b = 0) :
    (a.k ≠ b.k ∧ Hid (cmpR a b = .tuple #[.int .i64 0, .int .i64 8])) ∨ (a.k = 1 ∧ b.k = 1 ∧ Hid (cmpR a b = .tuple #[.int .i64 0, .int .i64 8])) ∨ (a.k = 5 ∧ b.k = 5 ∧ Hid (cmpR a b = .tuple #[.int .i64 0, .int .i64 8])) ∨
    (a.k = 2 ∧ b.k = 2 ∧ Hid (cmpR a b = .tuple #[.int .i64 (cmpI a.n b.n), .int .i64 0])) ∨ (a.k = 3 ∧ b.k = 3 ∧ Hid (cmpR a b = .tuple #[.int .i64 (cmpT a.t b.t), .int .i64 0])) ∨
    (a.k = 4 ∧ b.k = 4 ∧ ∃ x y z x' y' z', Hid (verV a.t = .tuple #[.agg #[.int .i64 x, .int .i64 y, .int .i64 z], .bool true]) ∧ Hid (verV b.t = .tuple #[.agg #[.int .i64 x', .int .i64 y', .int .i64 z'], .bool true]) ∧ Hid (cmpR a b = .tuple #[.int .i64 (cmpV (some (x, y, z)) (some (x', y', z'))), .int .i64 0])) := by
  have h := kind_of ha
  by_cases he : a.k = b.k
  · rcases (show a.k = 1 ∨ a.k = 2 ∨ a.k = 3 ∨ a.k = 4 ∨ a.k = 5 by omega) with h | h | h | h | h
    · exact Or.inr (Or.inl ⟨h, he ▸ h, cmpR_k ha hb (Or.inr (Or.inl h))⟩)
    · exact Or.inr (Or.inr (Or.inr (Or.inl ⟨h, he ▸ h, cmpR_n ha hb h (he ▸ h)⟩)))
    · exact Or.inr (Or.inr (Or.inr (Or.inr (Or.inl ⟨h, he ▸ h, cmpR_t ha hb h (he ▸ h)⟩))))
    · obtain ⟨x, y, z, hx⟩ := ver_of ha h
      obtain ⟨x', y', z', hy⟩ := ver_of hb (he ▸ h)
      refine Or.inr (Or.inr (Or.inr (Or.inr (Or.inr ⟨h, he ▸ h, x, y, z, x', y', z', verV_of hx, verV_of hy, ?_⟩))))
      show _ = _
      rw [cmpR_v ha hb h (he ▸ h), hx, hy]
    · exact Or.inr (Or.inr (Or.inl ⟨h, he ▸ h, cmpR_k ha hb (Or.inr (Or.inr h))⟩))
  · exact Or.inl ⟨he, cmpR_k ha hb (Or.inl he)⟩

theorem ret_v {a b : Value} (h : a = b) : Ending.returned b = .returned a := by rw [h]

end Go.Proofs.YthnjgbjckggjhaaGreatDoor.value

