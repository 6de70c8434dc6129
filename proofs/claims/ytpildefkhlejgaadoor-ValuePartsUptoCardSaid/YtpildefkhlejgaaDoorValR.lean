/- The kind with a name: the reference's TypeOf. -/
import Derived.Test.YtpildefkhlejgaaDoorValO
namespace Go.Proofs.YtpildefkhlejgaaDoor.value
open Go.RowKit Go.Proofs.YtpildefkhlejgaaDoor.text

/-- The kind with a name. -/
def typeOfS (l : List UInt8) : Int :=
  if (typeS 1).toList == l then 1 else if (typeS 2).toList == l then 2 else if (typeS 3).toList == l then 3 else if (typeS 4).toList == l then 4 else if (typeS 5).toList == l then 5 else 0
/-- No kind ahead of k has this name. -/
def NoneBelow (l : List UInt8) (k : Nat) : Prop := ∀ j : Nat, 1 ≤ j → j < k → ((typeS j).toList == l) = false
theorem NoneBelow.next {l : List UInt8} {k : Nat} (h : NoneBelow l k) (h2 : ((typeS k).toList == l) = false) : NoneBelow l (k + 1) := by
  intro j h1 hj
  by_cases e : j = k
  · subst e; exact h2
  · exact h j h1 (by omega)
theorem NoneBelow.done {l : List UInt8} (h : NoneBelow l 6) : typeOfS l = 0 := by
  have h1 := h 1 (by omega) (by omega)
  have h2 := h 2 (by omega) (by omega)
  have h3 := h 3 (by omega) (by omega)
  have h4 := h 4 (by omega) (by omega)
  have h5 := h 5 (by omega) (by omega)
  unfold typeOfS
  rw [show ((1 : Nat) : Int) = 1 from rfl] at h1
  rw [show ((2 : Nat) : Int) = 2 from rfl] at h2
  rw [show ((3 : Nat) : Int) = 3 from rfl] at h3
  rw [show ((4 : Nat) : Int) = 4 from rfl] at h4
  rw [show ((5 : Nat) : Int) = 5 from rfl] at h5
  simp [h1, h2, h3, h4, h5]
theorem NoneBelow.found {l : List UInt8} {k : Nat} (h : NoneBelow l k) (h1 : 1 ≤ k) (h6 : k < 6) (h2 : ((typeS k).toList == l) = true) : typeOfS l = k := by
  have e : ∀ j : Nat, 1 ≤ j → j < k → ((typeS (j : Int)).toList == l) = false := h
  unfold typeOfS
  rcases (show k = 1 ∨ k = 2 ∨ k = 3 ∨ k = 4 ∨ k = 5 by omega) with rfl | rfl | rfl | rfl | rfl
  · rw [show ((1 : Nat) : Int) = 1 from rfl] at h2 ⊢; rw [if_pos h2]
  · have g1 := e 1 (by omega) (by omega)
    rw [show ((1 : Nat) : Int) = 1 from rfl] at g1
    rw [show ((2 : Nat) : Int) = 2 from rfl] at h2 ⊢
    simp [g1, h2]
  · have g1 := e 1 (by omega) (by omega)
    have g2 := e 2 (by omega) (by omega)
    rw [show ((1 : Nat) : Int) = 1 from rfl] at g1
    rw [show ((2 : Nat) : Int) = 2 from rfl] at g2
    rw [show ((3 : Nat) : Int) = 3 from rfl] at h2 ⊢
    simp [g1, g2, h2]
  · have g1 := e 1 (by omega) (by omega)
    have g2 := e 2 (by omega) (by omega)
    have g3 := e 3 (by omega) (by omega)
    rw [show ((1 : Nat) : Int) = 1 from rfl] at g1
    rw [show ((2 : Nat) : Int) = 2 from rfl] at g2
    rw [show ((3 : Nat) : Int) = 3 from rfl] at g3
    rw [show ((4 : Nat) : Int) = 4 from rfl] at h2 ⊢
    simp [g1, g2, g3, h2]
  · have g1 := e 1 (by omega) (by omega)
    have g2 := e 2 (by omega) (by omega)
    have g3 := e 3 (by omega) (by omega)
    have g4 := e 4 (by omega) (by omega)
    rw [show ((1 : Nat) : Int) = 1 from rfl] at g1
    rw [show ((2 : Nat) : Int) = 2 from rfl] at g2
    rw [show ((3 : Nat) : Int) = 3 from rfl] at g3
    rw [show ((4 : Nat) : Int) = 4 from rfl] at g4
    rw [show ((5 : Nat) : Int) = 5 from rfl] at h2 ⊢
    simp [g1, g2, g3, g4, h2]

set_option maxRecDepth 100000 in
set_option maxHeartbeats 4000000 in
theorem typeOf_ref (s : ByteArray) (w : World) : Calls Tryd.prog 31 #[.string s] w fun e w' => e = .returned (.int .i64 (typeOfS s.toList)) ∧ Below w.heap.size w w' := by
  go_enter Tryd.func31, Tryd.ntmps31
  go_wp2
  go_loopw [3] (fun i wr => ∃ k : Nat, 1 ≤ k ∧ k ≤ 6 ∧ i = .int .i64 k ∧ Hid (NoneBelow s.toList k) ∧ Hid (Below w.heap.size w wr)) (fun i _ => 6 - (intOf i).toNat)
  case atStart => exact ⟨1, by omega, by omega, rfl, fun j h1 h2 => by omega, Below.refl _ _⟩
  case round =>
    obtain ⟨k, h1, h6, rfl, hN, hB⟩ := hrel
    by_cases hk : k = 6
    · subst hk
      have hQ := Lib.hid hN.out.done
      rw [show ((6 : Nat) : Int) = 6 from rfl]
      go_wp2
      go_ret
      exact ⟨ret_i hQ.out, hB.out⟩
    · go_wp2_with fail
      refine (type_ref k _).mono ?_
      rintro e w2 ⟨rfl, hb⟩
      have hB2 := Lib.hid (hB.out.trans (hb.mono hB.out.size))
      clear hb hB
      cases ht : ((typeS k).toList == s.toList) with
      | true =>
        have hQ := Lib.hid (hN.out.found h1 (by omega) ht)
        clear hN
        go_wp2
        go_ret
        exact ⟨ret_i hQ.out, hB2.out⟩
      | false =>
        have hN2 := Lib.hid (hN.out.next ht)
        clear hN
        go_wp2
        go_roundw
        case rel => exact ⟨k + 1, by omega, by omega, by simp, hN2.out, hB2.out⟩
        case measure => simp [intOf]; omega

end Go.Proofs.YtpildefkhlejgaaDoor.value
