/- Whether two rows of texts are equal: the reference's Same. Whether two values are equal: the reference's Equal at any two values. -/
import Derived.Test.YthnjgbjckggjhaaGreatDoorKJ4
namespace Go.Proofs.YthnjgbjckggjhaaGreatDoor.value
open Go.RowKit Go.Proofs.YthnjgbjckggjhaaGreatDoor.text

set_option maxRecDepth 100000 in
set_option maxHeartbeats 2000000 in
theorem same_ref (la lb : Option Addr) (ca cb : Nat) (xs ys : List ByteArray) (w : World) (hX : LIn w la xs) (hY : LIn w lb ys) (hm : xs.length ≤ 9223372036854775807) :
    Calls Tryz.prog 26 #[.slice la xs.length ca, .slice lb ys.length cb] w fun e w' => e = .returned (.bool (lsL xs == lsL ys)) ∧ Below w.heap.size w w' := by
  go_enter Tryz.func26, Tryz.ntmps26
  by_cases hl : xs.length = ys.length
  · rw [← hl]
    have hl2 := Lib.hid hl
    clear hl
    go_wp2
    go_loopw [5] (fun i wr => Hid (Below w.heap.size w wr) ∧ ∃ k : Nat, k ≤ xs.length ∧ i = .int .i64 k ∧ Hid (∀ j (hx : j < xs.length) (hy : j < ys.length), j < k → xs[j].toList = ys[j].toList)) (fun i _ => xs.length - (intOf i).toNat)
    case atStart => exact ⟨Below.refl _ _, 0, Nat.zero_le _, rfl, fun _ _ _ h => absurd h (by omega)⟩
    case round =>
      obtain ⟨hb, k, hk, rfl, hA⟩ := hrel
      by_cases hlt : k < xs.length
      · have hly : k < ys.length := by have := hl2.out; omega
        rcases hX with h0 | ⟨bx, ox, rfl, hcx⟩
        · rw [h0] at hlt; simp at hlt
        rcases hY with h0 | ⟨bY, oy, rfl, hcy⟩
        · rw [h0] at hly; simp at hly
        have hc1 := sub_of_below hb.out _ _ (hcx k hlt)
        have hc2 := sub_of_below hb.out _ _ (hcy k hly)
        have n0 : (0 : Int) ≤ (k : Int) := Int.natCast_nonneg _
        have n1 : (k : Int) < (xs.length : Int) := by omega
        clear hcx hcy
        by_cases he : xs[k].toList = ys[k].toList
        · have hA2 := Lib.hid (show ∀ j (hx : j < xs.length) (hy : j < ys.length), j < k + 1 → xs[j].toList = ys[j].toList from fun j hx hy h => by
            rcases Nat.lt_or_ge j k with h1 | h1
            · exact hA.out j hx hy h1
            · obtain rfl : j = k := by omega
              exact he)
          have q : (!xs[k].toList == ys[k].toList) = false := by simp [he]
          clear he
          go_wp2_with fail
          go_quiet (fail)
          go_wp2
          go_roundw
          case rel => exact ⟨bel_drew hb.out _, k + 1, by omega, by go_num, hA2.out⟩
          case measure => simp [intOf]; omega
        · have hQ := Lib.hid (ls_bad hlt hly he)
          have q : (!xs[k].toList == ys[k].toList) = true := by simp [he]
          clear he
          go_wp2_with fail
          go_quiet (fail)
          go_wp2
          go_ret
          exact ⟨ret_bool hQ.out, bel_drew hb.out _⟩
      · have hQ := Lib.hid (ls_good hl2.out (fun j hx hy => hA.out j hx hy (by omega)))
        go_wp2
        go_ret
        exact ⟨ret_bool hQ.out, hb.out⟩
  · have hQ := Lib.hid (ls_len hl)
    have q : ((xs.length : Int) == (ys.length : Int)) = false := by simp; omega
    have q' : ((xs.length : Int) != (ys.length : Int)) = true := by simp; omega
    go_wp2
    go_ret
    exact ⟨ret_bool hQ.out, Below.refl _ _⟩

end Go.Proofs.YthnjgbjckggjhaaGreatDoor.value

namespace Go.Proofs.YthnjgbjckggjhaaGreatDoor.value
open Go.RowKit Go.Proofs.YthnjgbjckggjhaaGreatDoor.text

set_option maxRecDepth 100000 in
set_option maxHeartbeats 2000000 in
theorem equal_ref (k l n m : Int) (s t : ByteArray) (la lb : Option Addr) (ca cb : Nat) (xs ys : List ByteArray) (w : World) (hX : LIn w la xs) (hY : LIn w lb ys) (hm : xs.length ≤ 9223372036854775807) :
    Calls Tryz.prog 15 #[.agg #[.int .i64 k, .int .i64 n, .string s, .slice la xs.length ca], .agg #[.int .i64 l, .int .i64 m, .string t, .slice lb ys.length cb]] w fun e w' => e = .returned (.bool (eqVV k l n m s t (lsL xs == lsL ys))) ∧ Below w.heap.size w w' := by
  have hB := Lib.hid (show Below w.heap.size w ((w.alloc (.cells #[.int .i64 k, .int .i64 n, .string s, .slice la xs.length ca] 42)).alloc (.cells #[.int .i64 l, .int .i64 m, .string t, .slice lb ys.length cb] 42)) from ((Below.refl _ _).alloc (Nat.le_refl _) _).alloc (by simp) _)
  have hX1 := Lib.hid (hX.below hB.out)
  have hY1 := Lib.hid (hY.below hB.out)
  go_enter Tryz.func15, Tryz.ntmps15
  cases hk : (k == l) with
  | false =>
    have hQ := Lib.hid (show false = eqVV k l n m s t (lsL xs == lsL ys) by unfold eqVV; rw [hk]; rfl)
    go_wp2
    go_ret
    exact ⟨ret_b hQ.out, hB.out⟩
  | true =>
    cases hn : (n == m) with
    | false =>
      have hQ := Lib.hid (show false = eqVV k l n m s t (lsL xs == lsL ys) by unfold eqVV; rw [hk, hn]; rfl)
      go_wp2
      go_ret
      exact ⟨ret_b hQ.out, hB.out⟩
    | true =>
      cases ht : (s.toList == t.toList) with
      | false =>
        have hQ := Lib.hid (show false = eqVV k l n m s t (lsL xs == lsL ys) by unfold eqVV; rw [hk, hn, ht]; rfl)
        go_wp2
        go_ret
        exact ⟨ret_b hQ.out, hB.out⟩
      | true =>
        have hQ := Lib.hid (show (lsL xs == lsL ys) = eqVV k l n m s t (lsL xs == lsL ys) by unfold eqVV; rw [hk, hn, ht]; rfl)
        go_wp2_with fail
        refine (same_ref la lb ca cb xs ys _ hX1.out hY1.out hm).mono ?_
        rintro e w1 ⟨rfl, hb1⟩
        have hB2 := Lib.hid (hB.out.trans (hb1.mono hB.out.size))
        go_wp2
        go_ret
        exact ⟨ret_b hQ.out, hB2.out⟩

end Go.Proofs.YthnjgbjckggjhaaGreatDoor.value
