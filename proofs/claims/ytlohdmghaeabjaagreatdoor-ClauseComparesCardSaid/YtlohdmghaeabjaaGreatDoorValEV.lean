/- Whether two values are equal: the program's Equal at any two values. -/
import Derived.Test.YtlohdmghaeabjaaGreatDoorValEQ
namespace Go.Proofs.YtlohdmghaeabjaaGreatDoor.value
open Go.RowKit Go.Proofs.YtlohdmghaeabjaaGreatDoor.text

/-- Equal of chapter 3 as the program works it out. -/
def eqVV (k l n m : Int) (s t : ByteArray) (e : Bool) : Bool := (k == l) && ((n == m) && ((s.toList == t.toList) && e))

set_option maxRecDepth 100000 in
set_option maxHeartbeats 2000000 in
theorem equal_any (k l n m : Int) (s t : ByteArray) (la lb : Option Addr) (ca cb : Nat) (xs ys : List ByteArray) (w : World) (hX : LIn w la xs) (hY : LIn w lb ys) (hm : xs.length ≤ 9223372036854775807) :
    Calls Tryz.prog 40 #[.agg #[.int .i64 k, .int .i64 n, .string s, .slice la xs.length ca], .agg #[.int .i64 l, .int .i64 m, .string t, .slice lb ys.length cb]] w fun e w' => e = .returned (.bool (eqVV k l n m s t (lsL xs == lsL ys))) ∧ Below w.heap.size w w' := by
  have hB := Lib.hid (show Below w.heap.size w ((w.alloc (.cells #[.int .i64 k, .int .i64 n, .string s, .slice la xs.length ca] 43)).alloc (.cells #[.int .i64 l, .int .i64 m, .string t, .slice lb ys.length cb] 43)) from ((Below.refl _ _).alloc (Nat.le_refl _) _).alloc (by simp) _)
  have hX1 := Lib.hid (hX.below hB.out)
  have hY1 := Lib.hid (hY.below hB.out)
  go_enter Tryz.func40, Tryz.ntmps40
  cases hk : (k == l) with
  | false =>
    have hQ := Lib.hid (show false = eqVV k l n m s t (lsL xs == lsL ys) by unfold eqVV; rw [hk]; rfl)
    go_wp2
    go_ret
    exact ⟨ret_b hQ.out, hB.out⟩
  | true =>
    cases hn : (n == m) with
    | false =>
      have hQ := Lib.hid (show false = eqVV k l n m s t (lsL xs == lsL ys) by unfold eqVV; rw [hk, hn]; rfl)
      go_wp2
      go_ret
      exact ⟨ret_b hQ.out, hB.out⟩
    | true =>
      cases ht : (s.toList == t.toList) with
      | false =>
        have hQ := Lib.hid (show false = eqVV k l n m s t (lsL xs == lsL ys) by unfold eqVV; rw [hk, hn, ht]; rfl)
        go_wp2
        go_ret
        exact ⟨ret_b hQ.out, hB.out⟩
      | true =>
        have hQ := Lib.hid (show (lsL xs == lsL ys) = eqVV k l n m s t (lsL xs == lsL ys) by unfold eqVV; rw [hk, hn, ht]; rfl)
        go_wp2_with fail
        refine (eqList_any la lb ca cb xs ys _ hX1.out hY1.out hm).mono ?_
        rintro e w1 ⟨rfl, hb1⟩
        have hB2 := Lib.hid (hB.out.trans (hb1.mono hB.out.size))
        go_wp2
        go_ret
        exact ⟨ret_b hQ.out, hB2.out⟩

end Go.Proofs.YtlohdmghaeabjaaGreatDoor.value

