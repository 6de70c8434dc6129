/- Which metrics are valid, or the first error: the program's Check and the reference's. -/
import Derived.Test.YtnghpjijfdpmkaaDoorMetN
import Derived.Test.YtnghpjijfdpmkaaDoorMetA
import Derived.Test.YtnghpjijfdpmkaaDoorValA
import Derived.Deep.RegionHeld3
import Derived.Laws.EntriesVeiled
import Derived.BigQuiet
import Derived.Deep.QuietTactic
namespace Go.Proofs.YtnghpjijfdpmkaaDoor.metric
open Go.RowKit Go.Proofs.YtnghpjijfdpmkaaDoor Go.Proofs.YtnghpjijfdpmkaaDoor.text

/-- A metric: its fields. -/
structure MV where
  k : Int
  name : List UInt8
  below : List UInt8
  win : Int
  cap : Int
  least : Int
  before : Int
def rangeM (m : MV) : Bool := decide (1 ≤ m.win ∧ m.win ≤ 68719476736 ∧ 1 ≤ m.cap ∧ m.cap ≤ 1048576 ∧ -1099511627776 ≤ m.least ∧ m.least ≤ 1099511627776 ∧ 0 ≤ m.before ∧ m.before ≤ 68719476736)
/-- The first error of a metric. -/
def chkM (m : MV) : Int :=
  if m.k < 1 ∨ 4 < m.k then 7
  else if keyS m.name = false ∨ (m.k = 4 ∧ keyS m.below = false) then 6
  else if rangeM m = false then 3
  else if (m.k ≠ 4 ∧ m.below ≠ []) ∨ (m.k = 3 ∧ m.cap ≠ 1) then 15 else 0
/-- A metric as it lies in slots. -/
def mrow (m : MV) (s t : ByteArray) : Array Value := #[.int .i64 m.k, .string s, .string t, .int .i64 m.win, .int .i64 m.cap, .int .i64 m.least, .int .i64 m.before]
theorem box7 {w : World} {n : Nat} {x0 x1 x2 x3 x4 x5 x6 : Value} {t : TypeId} (h : Own w n #[x0, x1, x2, x3, x4, x5, x6] t) :
    w.cell? ⟨n, 0, none⟩ = some x0 ∧ w.cell? ⟨n, 1, none⟩ = some x1 ∧ w.cell? ⟨n, 2, none⟩ = some x2 ∧ w.cell? ⟨n, 3, none⟩ = some x3 ∧ w.cell? ⟨n, 4, none⟩ = some x4 ∧ w.cell? ⟨n, 5, none⟩ = some x5 ∧ w.cell? ⟨n, 6, none⟩ = some x6 :=
  ⟨h.cell 0, h.cell 1, h.cell 2, h.cell 3, h.cell 4, h.cell 5, h.cell 6⟩
theorem within_ref (n a b : Int) (w : World) : Calls Tryd.prog 55 #[.int .i64 n, .int .i64 a, .int .i64 b] w fun e w' => e = .returned (.bool (decide (a ≤ n) && decide (n ≤ b))) ∧ w' = w := by
  by_cases h1 : a ≤ n
  · by_cases h2 : n ≤ b
    all_goals
      go_enter Tryd.func55, Tryd.ntmps55
      go_wp2
      go_ret
      exact ⟨by simp [h1, h2], rfl⟩
  · go_enter Tryd.func55, Tryd.ntmps55
    go_wp2
    go_ret
    exact ⟨by have : decide (a ≤ n) = false := by simpa using h1
              rw [this]; rfl, rfl⟩

/-- What the look-up of a kind gives. -/
def lookV (k : Int) : Value := if k = 1 then kindV 1 else if k = 2 then kindV 2 else if k = 3 then kindV 3 else if k = 4 then kindV 4 else zeroKind
def knownB (k : Int) : Bool := decide (1 ≤ k ∧ k ≤ 4)
theorem zero_kind (w : World) : (zeroValue 76).run Tryd.prog w = .ok zeroKind w := by kernel_rfl
theorem look_kind (k : Int) (w : World) (b : Nat) (c : Bool) (hb : w.heap[b]? = some (.map kinds4 4)) :
    (Instr.lookup 72 (.map (some b)) (.int .i64 k) c).run Tryd.prog w = .ok (if c then .tuple #[lookV k, .bool (knownB k)] else lookV k) w := by
  have hm := Tryd.underlying72
  have hk := Tryd.underlying3
  by_cases h1 : k = 1
  · subst h1; exact run_look_hit _ _ _ w b kinds4 4 1 0 (kindV 1) c hm hk hb rfl
  by_cases h2 : k = 2
  · subst h2; exact run_look_hit _ _ _ w b kinds4 4 2 1 (kindV 2) c hm hk hb rfl
  by_cases h3 : k = 3
  · subst h3; exact run_look_hit _ _ _ w b kinds4 4 3 2 (kindV 3) c hm hk hb rfl
  by_cases h4 : k = 4
  · subst h4; exact run_look_hit _ _ _ w b kinds4 4 4 3 (kindV 4) c hm hk hb rfl
  have e1 : lookV k = zeroKind := by unfold lookV; rw [if_neg h1, if_neg h2, if_neg h3, if_neg h4]
  have e2 : knownB k = false := by unfold knownB; simp; omega
  rw [e1, e2]
  refine run_look_miss _ _ _ w b kinds4 4 k zeroKind c hm hk hb ?_ (zero_kind w)
  have q1 : (k == 1) = false := by simp [h1]
  have q2 : (k == 2) = false := by simp [h2]
  have q3 : (k == 3) = false := by simp [h3]
  have q4 : (k == 4) = false := by simp [h4]
  simp [kinds4, Instr.findNow, Instr.sameNow, q1, q2, q3, q4]

theorem lookV_agg (k : Int) : (∃ nm F, lookV k = .agg #[.string nm, .func (Fn.func F) #[] #[]] ∧ knownB k = true ∧ 1 ≤ k ∧ k ≤ 4) ∨ (∃ nm, lookV k = .agg #[.string nm, .nilFunc] ∧ knownB k = false ∧ (k < 1 ∨ 4 < k)) := by
  by_cases h1 : k = 1
  · subst h1; exact Or.inl ⟨_, _, rfl, rfl, by omega, by omega⟩
  by_cases h2 : k = 2
  · subst h2; exact Or.inl ⟨_, _, rfl, rfl, by omega, by omega⟩
  by_cases h3 : k = 3
  · subst h3; exact Or.inl ⟨_, _, rfl, rfl, by omega, by omega⟩
  by_cases h4 : k = 4
  · subst h4; exact Or.inl ⟨_, _, rfl, rfl, by omega, by omega⟩
  exact Or.inr ⟨_, by unfold lookV; rw [if_neg h1, if_neg h2, if_neg h3, if_neg h4]; rfl, by unfold knownB; simp; omega, by omega⟩
theorem heap_two (w : World) (o o' : Obj) : ((w.alloc o).alloc o').heap[w.heap.size]? = some o := by
  show ((w.heap.push o).push o')[w.heap.size]? = some o
  simp [Array.getElem?_push]
theorem heap_one (w : World) (o o' : Obj) : ((w.alloc o).alloc o').heap[w.heap.size + 1]? = some o' := by
  have h := heap_alloc_new (w.alloc o) o'
  rw [show (w.alloc o).heap.size = w.heap.size + 1 by simp] at h
  exact h
theorem own_two {w : World} {n : Nat} {A : Array Value} {t : TypeId} (h : Own w n A t) (o o' : Obj) : Own ((w.alloc o).alloc o') n A t := (h.alloc o).alloc o'
theorem below_two {B : Nat} {u w : World} (h : Below B u w) (hb : B ≤ w.heap.size) (o o' : Obj) : Below B u ((w.alloc o).alloc o') := (h.alloc hb o).alloc (by simp; omega) o'
theorem m_kind {m : MV} (h : m.k < 1 ∨ 4 < m.k) : chkM m = 7 := by unfold chkM; rw [if_pos h]
theorem m_key {m : MV} (h : ¬ (m.k < 1 ∨ 4 < m.k)) (h2 : keyS m.name = false ∨ (m.k = 4 ∧ keyS m.below = false)) : chkM m = 6 := by unfold chkM; rw [if_neg h, if_pos h2]
theorem m_range {m : MV} (h : ¬ (m.k < 1 ∨ 4 < m.k)) (h2 : ¬ (keyS m.name = false ∨ (m.k = 4 ∧ keyS m.below = false))) (h3 : rangeM m = false) : chkM m = 3 := by unfold chkM; rw [if_neg h, if_neg h2, if_pos h3]
theorem m_shape {m : MV} (h : ¬ (m.k < 1 ∨ 4 < m.k)) (h2 : ¬ (keyS m.name = false ∨ (m.k = 4 ∧ keyS m.below = false))) (h3 : rangeM m = true) (h4 : (m.k ≠ 4 ∧ m.below ≠ []) ∨ (m.k = 3 ∧ m.cap ≠ 1)) : chkM m = 15 := by unfold chkM; rw [if_neg h, if_neg h2, if_neg (by rw [h3]; decide), if_pos h4]
theorem m_ok {m : MV} (h : ¬ (m.k < 1 ∨ 4 < m.k)) (h2 : ¬ (keyS m.name = false ∨ (m.k = 4 ∧ keyS m.below = false))) (h3 : rangeM m = true) (h4 : ¬ ((m.k ≠ 4 ∧ m.below ≠ []) ∨ (m.k = 3 ∧ m.cap ≠ 1))) : chkM m = 0 := by unfold chkM; rw [if_neg h, if_neg h2, if_neg (by rw [h3]; decide), if_neg h4]

theorem range_ways (m : MV) : (m.win < 1 ∧ Hid (rangeM m = false)) ∨ (1 ≤ m.win ∧ 68719476736 < m.win ∧ Hid (rangeM m = false)) ∨ (1 ≤ m.win ∧ m.win ≤ 68719476736 ∧ m.cap < 1 ∧ Hid (rangeM m = false)) ∨ (1 ≤ m.win ∧ m.win ≤ 68719476736 ∧ 1 ≤ m.cap ∧ 1048576 < m.cap ∧ Hid (rangeM m = false)) ∨
    (1 ≤ m.win ∧ m.win ≤ 68719476736 ∧ 1 ≤ m.cap ∧ m.cap ≤ 1048576 ∧ m.least < -1099511627776 ∧ Hid (rangeM m = false)) ∨ (1 ≤ m.win ∧ m.win ≤ 68719476736 ∧ 1 ≤ m.cap ∧ m.cap ≤ 1048576 ∧ -1099511627776 ≤ m.least ∧ 1099511627776 < m.least ∧ Hid (rangeM m = false)) ∨
    (1 ≤ m.win ∧ m.win ≤ 68719476736 ∧ 1 ≤ m.cap ∧ m.cap ≤ 1048576 ∧ -1099511627776 ≤ m.least ∧ m.least ≤ 1099511627776 ∧ m.before < 0 ∧ Hid (rangeM m = false)) ∨ (1 ≤ m.win ∧ m.win ≤ 68719476736 ∧ 1 ≤ m.cap ∧ m.cap ≤ 1048576 ∧ -1099511627776 ≤ m.least ∧ m.least ≤ 1099511627776 ∧ 0 ≤ m.before ∧ 68719476736 < m.before ∧ Hid (rangeM m = false)) ∨
    (1 ≤ m.win ∧ m.win ≤ 68719476736 ∧ 1 ≤ m.cap ∧ m.cap ≤ 1048576 ∧ -1099511627776 ≤ m.least ∧ m.least ≤ 1099511627776 ∧ 0 ≤ m.before ∧ m.before ≤ 68719476736 ∧ Hid (rangeM m = true)) := by
  have hf : (¬ (1 ≤ m.win ∧ m.win ≤ 68719476736 ∧ 1 ≤ m.cap ∧ m.cap ≤ 1048576 ∧ -1099511627776 ≤ m.least ∧ m.least ≤ 1099511627776 ∧ 0 ≤ m.before ∧ m.before ≤ 68719476736)) → Hid (rangeM m = false) := fun h => by show rangeM m = false; unfold rangeM; exact decide_eq_false h
  by_cases h1 : m.win < 1
  · exact Or.inl ⟨h1, hf (by omega)⟩
  refine Or.inr ?_
  by_cases h2 : 68719476736 < m.win
  · exact Or.inl ⟨by omega, h2, hf (by omega)⟩
  refine Or.inr ?_
  by_cases h3 : m.cap < 1
  · exact Or.inl ⟨by omega, by omega, h3, hf (by omega)⟩
  refine Or.inr ?_
  by_cases h4 : 1048576 < m.cap
  · exact Or.inl ⟨by omega, by omega, by omega, h4, hf (by omega)⟩
  refine Or.inr ?_
  by_cases h5 : m.least < -1099511627776
  · exact Or.inl ⟨by omega, by omega, by omega, by omega, h5, hf (by omega)⟩
  refine Or.inr ?_
  by_cases h6 : 1099511627776 < m.least
  · exact Or.inl ⟨by omega, by omega, by omega, by omega, by omega, h6, hf (by omega)⟩
  refine Or.inr ?_
  by_cases h7 : m.before < 0
  · exact Or.inl ⟨by omega, by omega, by omega, by omega, by omega, by omega, h7, hf (by omega)⟩
  refine Or.inr ?_
  by_cases h8 : 68719476736 < m.before
  · exact Or.inl ⟨by omega, by omega, by omega, by omega, by omega, by omega, by omega, h8, hf (by omega)⟩
  exact Or.inr ⟨by omega, by omega, by omega, by omega, by omega, by omega, by omega, by omega, by show rangeM m = true; unfold rangeM; exact decide_eq_true (by omega)⟩

end Go.Proofs.YtnghpjijfdpmkaaDoor.metric

