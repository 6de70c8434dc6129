/- Versions, values and their order, said plainly: what both texts compute. No program in sight. -/
import Derived.Test.YtlohdmghaeabjaaGreatDoorTextF
import Derived.Lib.Split
import Derived.Lib.IndexMore
namespace Go.Proofs.YtlohdmghaeabjaaGreatDoor.value
open Go.Proofs.YtlohdmghaeabjaaGreatDoor.text

/-- At the first period: what stands ahead of it and what behind it. -/
def cutD : List UInt8 → Option (List UInt8 × List UInt8)
  | [] => none
  | c :: r => if c.toNat = 46 then some ([], r) else (cutD r).map fun x => (c :: x.1, x.2)
theorem cutD_eq : ∀ {l a b : List UInt8}, cutD l = some (a, b) → l = a ++ 46 :: b
  | [], a, b, h => by cases h
  | c :: r, a, b, h => by
    rw [cutD] at h
    split at h
    · rename_i hc
      simp only [Option.some.injEq, Prod.mk.injEq] at h
      obtain ⟨rfl, rfl⟩ := h
      rw [show c = 46 from UInt8.toNat_inj.1 hc]
      rfl
    · obtain ⟨⟨a', b'⟩, h1, h2⟩ := Option.map_eq_some_iff.1 h
      simp only [Prod.mk.injEq] at h2
      obtain ⟨rfl, rfl⟩ := h2
      rw [cutD_eq h1]
      rfl
theorem index_dot : ∀ l : List UInt8, (cutD l = none → Lib.index l [46] = -1) ∧ ∀ a b, cutD l = some (a, b) → Lib.index l [46] = (a.length : Int)
  | [] => ⟨fun _ => rfl, fun _ _ h => by cases h⟩
  | c :: r => by
    obtain ⟨i1, i2⟩ := index_dot r
    have hp : List.isPrefixOf [46] (c :: r) = decide (c.toNat = 46) := by
      simp only [List.isPrefixOf, Bool.and_true]
      rw [Bool.eq_iff_iff]
      simp only [beq_iff_eq, decide_eq_true_eq]
      constructor
      · intro e; rw [← e]; rfl
      · intro e; exact (UInt8.toNat_inj.1 (e.trans rfl)).symm
    rw [cutD, Lib.index, hp]
    by_cases hc : c.toNat = 46
    · rw [if_pos hc, if_pos (decide_eq_true hc)]
      refine ⟨(fun h => by cases h), fun a b h => ?_⟩
      simp only [Option.some.injEq, Prod.mk.injEq] at h
      rw [← h.1]
      rfl
    · rw [if_neg hc, if_neg (by simp [hc])]
      refine ⟨fun h => ?_, fun a b h => ?_⟩
      · have : cutD r = none := by simpa using h
        rw [i1 this]
        rfl
      · obtain ⟨⟨a', b'⟩, h1, h2⟩ := Option.map_eq_some_iff.1 h
        simp only [Prod.mk.injEq] at h2
        obtain ⟨rfl, rfl⟩ := h2
        rw [i2 _ _ h1, if_neg (by simp), List.length_cons]
        omega
theorem count_none {l : List UInt8} (h : cutD l = none) : Lib.count l [46] = 0 := Lib.count_miss ((index_dot l).1 h)
theorem count_some {l a b : List UInt8} (h : cutD l = some (a, b)) : Lib.count l [46] = 1 + Lib.count b [46] := by
  have hi := (index_dot l).2 a b h
  rw [Lib.count_hit (by simp) hi]
  congr 2
  rw [cutD_eq h]
  simp
theorem split_none {l : List UInt8} (h : cutD l = none) : Lib.split l [46] = [l] := by rw [Lib.split, count_none h]; rfl
theorem split_some {l a b : List UInt8} (h : cutD l = some (a, b)) : Lib.split l [46] = a :: Lib.split b [46] := by
  have hi := (index_dot l).2 a b h
  rw [Lib.split, count_some h, Nat.add_comm, Lib.splitK, if_neg (by rw [hi]; simp), hi]
  have e := cutD_eq h
  have e1 : l.take ((a.length : Int).toNat + 0) = a := by rw [e]; simp
  have e2 : l.drop ((a.length : Int).toNat + [46].length) = b := by rw [e]; simp
  have e3 := congrArg (Lib.splitK [46] 0 (Lib.count b [46])) e2
  rw [e1]
  exact congrArg (a :: ·) e3

/-- One part of a version. -/
def partN (l : List UInt8) : Option Int := if (parseS l).2 = 0 ∧ 0 ≤ (parseS l).1 ∧ (parseS l).1 ≤ 999999 then some (parseS l).1 else none
/-- The three parts of a version. -/
def verS (l : List UInt8) : Option (Int × Int × Int) :=
  match cutD l with
  | none => none
  | some (a, r) => match cutD r with
    | none => none
    | some (b, c) => match cutD c with
      | some _ => none
      | none => match partN a, partN b, partN c with
        | some x, some y, some z => some (x, y, z)
        | _, _, _ => none

theorem partN_bd {l : List UInt8} {x : Int} (h : partN l = some x) : 0 ≤ x ∧ x ≤ 999999 := by
  unfold partN at h
  split at h
  · rename_i hc
    injection h with h
    omega
  · cases h
theorem split_ways (l : List UInt8) : (verS l = none ∧ (Lib.split l [46]).length ≠ 3) ∨ ∃ a b c, Lib.split l [46] = [a, b, c] ∧ verS l = (match partN a, partN b, partN c with
        | some x, some y, some z => some (x, y, z)
        | _, _, _ => none) := by
  unfold verS
  cases h1 : cutD l with
  | none => exact Or.inl ⟨rfl, by rw [split_none h1]; simp⟩
  | some x =>
    obtain ⟨a, r⟩ := x
    simp only
    rw [split_some h1]
    cases h2 : cutD r with
    | none => exact Or.inl ⟨rfl, by rw [split_none h2]; simp⟩
    | some y =>
      obtain ⟨b, c⟩ := y
      simp only
      rw [split_some h2]
      cases h3 : cutD c with
      | none => exact Or.inr ⟨a, b, c, by rw [split_none h3], rfl⟩
      | some z =>
        obtain ⟨d, e⟩ := z
        refine Or.inl ⟨rfl, ?_⟩
        rw [split_some h3]
        have : (Lib.split e [46]).length ≠ 0 := by
          cases h4 : cutD e with
          | none => rw [split_none h4]; simp
          | some w => obtain ⟨f, g⟩ := w; rw [split_some h4]; simp
        simp only [List.length_cons]
        omega

end Go.Proofs.YtlohdmghaeabjaaGreatDoor.value

