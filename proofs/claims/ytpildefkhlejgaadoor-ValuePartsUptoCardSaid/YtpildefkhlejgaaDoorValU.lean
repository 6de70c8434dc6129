/- The names of kinds, and the kind with a name: the program's TypeName and TypeOf. -/
import Derived.Test.YtpildefkhlejgaaDoorValR
namespace Go.Proofs.YtpildefkhlejgaaDoor.value
open Go.RowKit Go.Proofs.YtpildefkhlejgaaDoor.text

/-- The table of the names lies where the program laid it. -/
def Names (w : World) : Prop := ∀ j : Nat, j < 5 → w.cell? ⟨3, j, none⟩ = some (.string (typeS ((j : Int) + 1)))
theorem Names.below {w w' : World} (h : Names w) (hb : Below w.heap.size w w') : Names w' := fun j hj => sub_of_below hb _ _ (h j hj)

set_option maxRecDepth 100000 in
set_option maxHeartbeats 4000000 in
theorem type_any (k : Int) (w : World) (hN : Names w) : Calls Tryd.prog 28 #[.int .i64 k] w fun e w' => e = .returned (.string (typeS k)) ∧ w = w' := by
  have c0 := hN 0 (by omega)
  have c1 := hN 1 (by omega)
  have c2 := hN 2 (by omega)
  have c3 := hN 3 (by omega)
  have c4 := hN 4 (by omega)
  clear hN
  go_enter Tryd.func28, Tryd.ntmps28
  by_cases h0 : k < 1
  · rw [typeS_out (by omega)]
    go_wp2
    go_ret
    exact ⟨rfl, rfl⟩
  by_cases h5 : 5 < k
  · rw [typeS_out (by omega)]
    go_wp2
    go_ret
    exact ⟨rfl, rfl⟩
  rcases (show k = 1 ∨ k = 2 ∨ k = 3 ∨ k = 4 ∨ k = 5 by omega) with rfl | rfl | rfl | rfl | rfl
  all_goals
    go_wp2
    go_ret
    exact ⟨rfl, rfl⟩

theorem typeOf_bd (l : List UInt8) : 0 ≤ typeOfS l ∧ typeOfS l ≤ 5 := by
  unfold typeOfS
  repeat' split
  all_goals omega

set_option maxRecDepth 100000 in
set_option maxHeartbeats 4000000 in
theorem index_any (s : ByteArray) (w : World) (hN : Names w) :
    Calls Tryd.prog 47 #[.slice (some ⟨3, 0, none⟩) 5 5, .string s] w fun e w' => e = .returned (.int .i64 (typeOfS s.toList - 1)) ∧ w = w' := by
  replace hN := Lib.hid hN
  go_enter Tryd.func47, Tryd.ntmps47
  go_wp2
  go_loop [8] (fun i => ∃ k : Nat, k ≤ 5 ∧ i = .int .i64 k ∧ Hid (NoneBelow s.toList (k + 1))) (fun i => 5 - (intOf i).toNat)
  case atStart => exact ⟨0, by omega, rfl, fun j h1 h2 => by omega⟩
  case round =>
    obtain ⟨k, hk, rfl, hB⟩ := hrel
    by_cases h5 : k = 5
    · subst h5
      have hQ := Lib.hid (show (-1 : Int) = typeOfS s.toList - 1 by rw [hB.out.done]; rfl)
      go_wp2
      go_ret
      exact ⟨ret_i hQ.out.symm, rfl⟩
    · have hk5 : k < 5 := by omega
      obtain ⟨n, hn, hc⟩ : ∃ n, Hid (n = typeS ((k : Int) + 1)) ∧ w.cell? ⟨3, k, none⟩ = some (.string n) := ⟨_, rfl, hN.out k hk5⟩
      have hc0 : w.cell? ⟨3, 0 + k, none⟩ = some (.string n) := by rw [Nat.zero_add]; exact hc
      cases ht : (s.toList == n.toList) with
      | true =>
        have hQ := Lib.hid (show (k : Int) = typeOfS s.toList - 1 by
          have := hB.out.found (by omega) (by omega) (by rw [show (((k + 1 : Nat)) : Int) = (k : Int) + 1 by omega, ← hn.out, Bool.beq_comm]; exact ht)
          omega)
        go_wp2
        go_ret
        exact ⟨ret_i hQ.out.symm, rfl⟩
      | false =>
        have hB2 := Lib.hid (hB.out.next (by rw [show (((k + 1 : Nat)) : Int) = (k : Int) + 1 by omega, ← hn.out, Bool.beq_comm]; exact ht))
        go_wp2
        go_round
        case rel => exact ⟨k + 1, by omega, by go_num, hB2.out⟩
        case measure => simp [intOf]; omega

set_option maxRecDepth 100000 in
set_option maxHeartbeats 4000000 in
theorem typeOf_any (s : ByteArray) (w : World) (hN : Names w) : Calls Tryd.prog 30 #[.string s] w fun e w' => e = .returned (.int .i64 (typeOfS s.toList)) ∧ w = w' := by
  have hb := typeOf_bd s.toList
  go_enter Tryd.func30, Tryd.ntmps30
  go_wp2_with fail
  refine (index_any s _ hN).mono ?_
  rintro e w1 ⟨rfl, rfl⟩
  obtain ⟨z, hz⟩ : ∃ z, Hid (z = typeOfS s.toList - 1) := ⟨_, rfl⟩
  have h0 : -1 ≤ z := by rw [hz.out]; omega
  have h4 : z ≤ 4 := by rw [hz.out]; omega
  rw [← hz.out]
  have hQ := Lib.hid (show z + 1 = typeOfS s.toList by rw [hz.out]; omega)
  clear hb hz
  go_wp2
  go_ret
  exact ⟨ret_i hQ.out.symm, rfl⟩

end Go.Proofs.YtpildefkhlejgaaDoor.value
