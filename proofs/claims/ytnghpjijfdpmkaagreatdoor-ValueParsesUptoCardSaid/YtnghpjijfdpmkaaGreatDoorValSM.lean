/- Whether a value is not too large to be looked at: the law's small. -/
import Derived.Test.YtnghpjijfdpmkaaGreatDoorValDR
namespace Go.Proofs.YtnghpjijfdpmkaaGreatDoor.value
open Go.RowKit Go.Proofs.YtnghpjijfdpmkaaGreatDoor.text

def smallB (t : ByteArray) (ls : List ByteArray) : Bool := decide (ls.length ≤ 40) && decide (t.size ≤ 400) && ls.all fun s => decide (s.size ≤ 400)
theorem small_of {t : ByteArray} {ls : List ByteArray} (h : smallB t ls = true) : ls.length ≤ 40 ∧ t.size ≤ 400 := by
  unfold smallB at h
  simp at h
  exact ⟨h.1.1, h.1.2⟩
def SmAt (ls : List ByteArray) (k : Nat) : Prop := (ls.drop k).all (fun s => decide (s.size ≤ 400)) = ls.all fun s => decide (s.size ≤ 400)
theorem sm_step {ls : List ByteArray} {k : Nat} (h : k < ls.length) (hs : ls[k].size ≤ 400) (T : SmAt ls k) : SmAt ls (k + 1) := by
  unfold SmAt at *
  rw [← T, List.drop_eq_getElem_cons h, List.all_cons]
  simp [hs]
theorem sm_stop {ls : List ByteArray} {k : Nat} (h : k < ls.length) (hs : 400 < ls[k].size) (T : SmAt ls k) : (ls.all fun s => decide (s.size ≤ 400)) = false := by
  unfold SmAt at T
  rw [← T, List.drop_eq_getElem_cons h, List.all_cons]
  have : decide (ls[k].size ≤ 400) = false := by simp; omega
  rw [this]; rfl
theorem sm_done {ls : List ByteArray} {k : Nat} (h : ¬ k < ls.length) (T : SmAt ls k) : (ls.all fun s => decide (s.size ≤ 400)) = true := by
  unfold SmAt at T
  rw [← T, List.drop_eq_nil_of_le (by omega)]
  rfl

set_option maxRecDepth 100000 in
set_option maxHeartbeats 2000000 in
theorem small_any (k n : Int) (t : ByteArray) (la : Option Addr) (lc : Nat) (ls : List ByteArray) (w : World) (hL : LIn w la ls) (hm : ls.length ≤ 9223372036854775807) :
    Calls Tryz.prog 8 #[.agg #[.int .i64 k, .int .i64 n, .string t, .slice la ls.length lc]] w fun e w' => e = .returned (.bool (smallB t ls)) ∧ Below w.heap.size w w' := by
  have hO := Lib.hid (Own.new w #[.int .i64 k, .int .i64 n, .string t, .slice la ls.length lc] 24)
  have hB := Lib.hid (show Below w.heap.size w (w.alloc (.cells #[.int .i64 k, .int .i64 n, .string t, .slice la ls.length lc] 24)) from (Below.refl _ _).alloc (Nat.le_refl _) _)
  have hL1 := Lib.hid (hL.below hB.out)
  clear hL
  go_enter Tryz.func8, Tryz.ntmps8
  by_cases h40 : 40 < ls.length
  · have hQ := Lib.hid (show false = smallB t ls by
      unfold smallB
      have : decide (ls.length ≤ 40) = false := by simp; omega
      rw [this]; rfl)
    go_wp2
    go_ret
    exact ⟨ret_b hQ.out, hB.out⟩
  by_cases h400 : 400 < t.size
  · have hQ := Lib.hid (show false = smallB t ls by
      unfold smallB
      have : decide (t.size ≤ 400) = false := by simp; omega
      rw [this]; simp)
    go_wp2
    go_ret
    exact ⟨ret_b hQ.out, hB.out⟩
  have hE := Lib.hid (show ∀ b : Bool, (ls.all fun s => decide (s.size ≤ 400)) = b → b = smallB t ls from fun b hb => by
    unfold smallB
    have e1 : decide (ls.length ≤ 40) = true := by simp; omega
    have e2 : decide (t.size ≤ 400) = true := by simp; omega
    rw [e1, e2, hb]; rfl)
  go_wp2
  generalize w.alloc (.cells _ 24) = w1 at hO hB hL1 ⊢
  obtain ⟨c0, c1, c2, c3⟩ := box4 hO.out
  clear c0 c1 c2 hO
  go_loop [3] (fun i => ∃ j : Nat, j ≤ ls.length ∧ i = .int .i64 j ∧ Hid (SmAt ls j)) (fun i => ls.length - (intOf i).toNat)
  case atStart => exact ⟨0, Nat.zero_le _, rfl, rfl⟩
  case round =>
    obtain ⟨j, hj, rfl, hA⟩ := hrel
    by_cases hlt : j < ls.length
    · rcases hL1.out with h0 | ⟨blk, off, rfl, hc⟩
      · rw [h0] at hlt; simp at hlt
      have hcell := hc j hlt
      clear hc
      by_cases hs : ls[j].size ≤ 400
      · have hN := Lib.hid (sm_step hlt hs hA.out)
        go_wp2
        go_round
        case rel => exact ⟨j + 1, by omega, by go_num, hN.out⟩
        case measure => simp [intOf]; omega
      · have hQ := Lib.hid (hE.out false (sm_stop hlt (by omega) hA.out))
        go_wp2
        go_ret
        exact ⟨ret_b hQ.out, hB.out⟩
    · have hQ := Lib.hid (hE.out true (sm_done hlt hA.out))
      go_wp2
      go_ret
      exact ⟨ret_b hQ.out, hB.out⟩

end Go.Proofs.YtnghpjijfdpmkaaGreatDoor.value
