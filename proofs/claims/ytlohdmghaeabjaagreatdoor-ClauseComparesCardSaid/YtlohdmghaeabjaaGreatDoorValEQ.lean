/- Whether two rows of texts are equal: slices.Equal at any two rows. -/
import Derived.Test.YtlohdmghaeabjaaGreatDoorValH
namespace Go.Proofs.YtlohdmghaeabjaaGreatDoor.value
open Go.RowKit Go.Proofs.YtlohdmghaeabjaaGreatDoor.text

theorem ls_len {xs ys : List ByteArray} (h : ¬ xs.length = ys.length) : (lsL xs == lsL ys) = false := by
  rw [beq_eq_false_iff_ne]
  intro e
  have := congrArg List.length e
  simp [lsL] at this
  exact h this
theorem ls_bad {xs ys : List ByteArray} {k : Nat} (hx : k < xs.length) (hy : k < ys.length) (h : xs[k].toList ≠ ys[k].toList) : (lsL xs == lsL ys) = false := by
  rw [beq_eq_false_iff_ne]
  intro e
  apply h
  rw [ByteArray.toList_eq, ByteArray.toList_eq]
  have h1 : (lsL xs)[k]? = (lsL ys)[k]? := by rw [e]
  simpa [lsL, hx, hy] using h1
theorem ls_good {xs ys : List ByteArray} (hl : xs.length = ys.length) (h : ∀ k (hx : k < xs.length) (hy : k < ys.length), xs[k].toList = ys[k].toList) : (lsL xs == lsL ys) = true := by
  rw [beq_iff_eq]
  apply List.ext_getElem (by simpa [lsL] using hl)
  intro k h1 h2
  have hx : k < xs.length := by simpa [lsL] using h1
  have hy : k < ys.length := by simpa [lsL] using h2
  have := h k hx hy
  rw [ByteArray.toList_eq, ByteArray.toList_eq] at this
  simpa [lsL] using this
theorem ret_bool {a b : Bool} (h : a = b) : Ending.returned (.bool b) = .returned (.bool a) := by rw [h]

set_option maxRecDepth 100000 in
set_option maxHeartbeats 2000000 in
theorem eqList_any (la lb : Option Addr) (ca cb : Nat) (xs ys : List ByteArray) (w : World) (hX : LIn w la xs) (hY : LIn w lb ys) (hm : xs.length ≤ 9223372036854775807) :
    Calls Tryz.prog 67 #[.slice la xs.length ca, .slice lb ys.length cb] w fun e w' => e = .returned (.bool (lsL xs == lsL ys)) ∧ Below w.heap.size w w' := by
  go_enter Tryz.func67, Tryz.ntmps67
  by_cases hl : xs.length = ys.length
  · rw [← hl]
    have hl2 := Lib.hid hl
    clear hl
    go_wp2
    go_loopw [13] (fun i wr => Hid (Below w.heap.size w wr) ∧ ∃ k : Nat, k ≤ xs.length ∧ i = .int .i64 k ∧ Hid (∀ j (hx : j < xs.length) (hy : j < ys.length), j < k → xs[j].toList = ys[j].toList)) (fun i _ => xs.length - (intOf i).toNat)
    case atStart => exact ⟨Below.refl _ _, 0, Nat.zero_le _, rfl, fun _ _ _ h => absurd h (by omega)⟩
    case round =>
      obtain ⟨hb, k, hk, rfl, hA⟩ := hrel
      by_cases hlt : k < xs.length
      · have hly : k < ys.length := by have := hl2.out; omega
        rcases hX with h0 | ⟨bx, ox, rfl, hcx⟩
        · rw [h0] at hlt; simp at hlt
        rcases hY with h0 | ⟨bY, oy, rfl, hcy⟩
        · rw [h0] at hly; simp at hly
        have hc1 := sub_of_below hb.out _ _ (hcx k hlt)
        have hc2 := sub_of_below hb.out _ _ (hcy k hly)
        have n0 : (0 : Int) ≤ (k : Int) := Int.natCast_nonneg _
        have n1 : (k : Int) < (xs.length : Int) := by omega
        clear hcx hcy
        by_cases he : xs[k].toList = ys[k].toList
        · have hA2 := Lib.hid (show ∀ j (hx : j < xs.length) (hy : j < ys.length), j < k + 1 → xs[j].toList = ys[j].toList from fun j hx hy h => by
            rcases Nat.lt_or_ge j k with h1 | h1
            · exact hA.out j hx hy h1
            · obtain rfl : j = k := by omega
              exact he)
          have q : (!xs[k].toList == ys[k].toList) = false := by simp [he]
          clear he
          go_wp2_with fail
          go_quiet (fail)
          go_wp2
          go_roundw
          case rel => exact ⟨bel_drew hb.out _, k + 1, by omega, by go_num, hA2.out⟩
          case measure => simp [intOf]; omega
        · have hQ := Lib.hid (ls_bad hlt hly he)
          have q : (!xs[k].toList == ys[k].toList) = true := by simp [he]
          clear he
          go_wp2_with fail
          go_quiet (fail)
          go_wp2
          go_ret
          exact ⟨ret_bool hQ.out, bel_drew hb.out _⟩
      · have hQ := Lib.hid (ls_good hl2.out (fun j hx hy => hA.out j hx hy (by omega)))
        go_wp2
        go_ret
        exact ⟨ret_bool hQ.out, hb.out⟩
  · have hQ := Lib.hid (ls_len hl)
    have q : ((xs.length : Int) == (ys.length : Int)) = false := by simp; omega
    have q' : ((xs.length : Int) != (ys.length : Int)) = true := by simp; omega
    go_wp2
    go_ret
    exact ⟨ret_bool hQ.out, Below.refl _ _⟩

end Go.Proofs.YtlohdmghaeabjaaGreatDoor.value

