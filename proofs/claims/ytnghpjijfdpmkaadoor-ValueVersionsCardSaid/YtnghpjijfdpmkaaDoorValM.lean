/- The parts of a version: the program's Part. -/
import Derived.Test.YtnghpjijfdpmkaaDoorValK
namespace Go.Proofs.YtnghpjijfdpmkaaDoor.value
open Go.RowKit Go.Proofs.YtnghpjijfdpmkaaDoor.text

/-- What Part gives. -/
def partS (l : List UInt8) (i : Int) : Int × Int :=
  match verS l with
  | none => (0, 1)
  | some (x, y, z) => if i < 0 ∨ 3 ≤ i then (0, 3) else (if i = 0 then x else if i = 1 then y else z, 0)
def partR (l : List UInt8) (i : Int) : Value := .tuple #[.int .i64 (partS l i).1, .int .i64 (partS l i).2]
theorem part_ways3 (l : List UInt8) (i : Int) :
    (Hid (verV l = .tuple #[.agg #[.int .i64 0, .int .i64 0, .int .i64 0], .bool false]) ∧ Hid (partR l i = .tuple #[.int .i64 0, .int .i64 1])) ∨
    ∃ x y z, Hid (verV l = .tuple #[.agg #[.int .i64 x, .int .i64 y, .int .i64 z], .bool true]) ∧
      ((i < 0 ∧ Hid (partR l i = .tuple #[.int .i64 0, .int .i64 3])) ∨ (0 ≤ i ∧ 3 ≤ i ∧ Hid (partR l i = .tuple #[.int .i64 0, .int .i64 3])) ∨
       (i = 0 ∧ Hid (partR l i = .tuple #[.int .i64 x, .int .i64 0])) ∨ (i = 1 ∧ Hid (partR l i = .tuple #[.int .i64 y, .int .i64 0])) ∨ (i = 2 ∧ Hid (partR l i = .tuple #[.int .i64 z, .int .i64 0]))) := by
  cases h : verS l with
  | none => exact Or.inl ⟨by show _ = _; rw [verV, h], by show _ = _; simp [partR, partS, h]⟩
  | some p =>
    obtain ⟨x, y, z⟩ := p
    refine Or.inr ⟨x, y, z, by show _ = _; rw [verV, h], ?_⟩
    by_cases h0 : i < 0
    · exact Or.inl ⟨h0, by show _ = _; simp [partR, partS, h, h0]⟩
    · by_cases h3 : 3 ≤ i
      · exact Or.inr (Or.inl ⟨by omega, h3, by show _ = _; simp [partR, partS, h, h3]⟩)
      · rcases (show i = 0 ∨ i = 1 ∨ i = 2 by omega) with rfl | rfl | rfl
        · exact Or.inr (Or.inr (Or.inl ⟨rfl, by show _ = _; simp [partR, partS, h]⟩))
        · exact Or.inr (Or.inr (Or.inr (Or.inl ⟨rfl, by show _ = _; simp [partR, partS, h]⟩)))
        · exact Or.inr (Or.inr (Or.inr (Or.inr ⟨rfl, by show _ = _; simp [partR, partS, h]⟩)))

set_option maxRecDepth 100000 in
set_option maxHeartbeats 4000000 in
theorem part_any (s : ByteArray) (i : Int) (w : World) (hs : s.size < 4294967281) (hT : Tabs w) :
    Calls Tryd.prog 30 #[.string s, .int .i64 i] w fun e w' => e = .returned (partR s.data.toList i) ∧ Below w.heap.size w w' := by
  have hways := part_ways3 s.data.toList i
  go_enter Tryd.func30, Tryd.ntmps30
  go_wp2_with fail
  refine (parts_any s _ hs hT).mono ?_
  rintro e w1 ⟨rfl, hb1⟩
  rcases hways with ⟨hv, hQ⟩ | ⟨x, y, z, hv, hways⟩
  · rw [hv.out]
    have hB := Lib.hid (hb1.alloc hb1.size (.cells #[.int .i64 0, .int .i64 0, .int .i64 0] 53))
    clear hb1
    go_wp2
    go_ret2
    exact ⟨ret_v hQ.out, hB.out⟩
  · rw [hv.out]
    have hB := Lib.hid (hb1.alloc hb1.size (.cells #[.int .i64 x, .int .i64 y, .int .i64 z] 53))
    clear hb1
    rcases hways with ⟨h0, hQ⟩ | ⟨h0, h3, hQ⟩ | ⟨rfl, hQ⟩ | ⟨rfl, hQ⟩ | ⟨rfl, hQ⟩
    all_goals
      go_wp2
      go_ret2
      exact ⟨ret_v hQ.out, hB.out⟩

end Go.Proofs.YtnghpjijfdpmkaaDoor.value

