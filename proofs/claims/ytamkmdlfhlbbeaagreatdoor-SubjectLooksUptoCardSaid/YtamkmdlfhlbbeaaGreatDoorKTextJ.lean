/- strings.Join with ", " walked over this program. -/
import Derived.Test.YtamkmdlfhlbbeaaGreatDoorKValE
import Derived.Test.YtamkmdlfhlbbeaaGreatDoorKTextWs
namespace Go.Proofs.YtamkmdlfhlbbeaaGreatDoor.value
open Go.RowKit Go.Proofs.YtamkmdlfhlbbeaaGreatDoor.text

theorem joinC_snoc : ∀ (l : List (List UInt8)) (x : List UInt8), l ≠ [] → joinC (l ++ [x]) = joinC l ++ [44, 32] ++ x
  | [], _, h => absurd rfl h
  | [a], x, _ => by simp [joinC]
  | a :: b :: r, x, _ => by
    have := joinC_snoc (b :: r) x (by simp)
    simp only [List.cons_append] at this ⊢
    rw [joinC, this, joinC]
    simp
def sumL (l : List (List UInt8)) : Nat := (l.map List.length).sum
theorem joinC_len : ∀ l : List (List UInt8), l ≠ [] → (joinC l).length = 2 * (l.length - 1) + sumL l
  | [], h => absurd rfl h
  | [a], _ => by simp [joinC, sumL]
  | a :: b :: r, _ => by
    have := joinC_len (b :: r) (by simp)
    rw [joinC]
    simp only [List.length_append, List.length_cons, this]
    simp only [sumL, List.map_cons, List.sum_cons]
    omega
theorem sum_take {ls : List ByteArray} {k : Nat} (h : k < ls.length) : sumL ((lsL ls).take (k + 1)) = sumL ((lsL ls).take k) + ls[k].size := by
  have hl : k < (lsL ls).length := by simpa [lsL] using h
  rw [List.take_succ_eq_append_getElem hl]
  simp [sumL, lsL]
theorem sum_take_le (l : List (List UInt8)) (k : Nat) : sumL (l.take k) ≤ sumL l := by
  have := List.take_append_drop k l
  have e : sumL l = sumL (l.take k) + sumL (l.drop k) := by
    conv => lhs; rw [← this]
    rw [sumL, List.map_append, List.sum_append]
    rfl
  omega
theorem join_take {ls : List ByteArray} {k : Nat} (h0 : 1 ≤ k) (h : k < ls.length) : joinC ((lsL ls).take (k + 1)) = joinC ((lsL ls).take k) ++ [44, 32] ++ ls[k].data.toList := by
  have hl : k < (lsL ls).length := by simpa [lsL] using h
  rw [List.take_succ_eq_append_getElem hl, joinC_snoc _ _ (by
    intro e
    have := congrArg List.length e
    simp only [List.length_take, List.length_nil] at this
    omega)]
  simp [lsL]

theorem take_le (l : List (List UInt8)) (k : Nat) (h0 : 1 ≤ k) (h : k ≤ l.length) : (joinC (l.take k)).length ≤ (joinC l).length := by
  have h1 : l.take k ≠ [] := by
    intro e
    have := congrArg List.length e
    simp only [List.length_take, List.length_nil] at this
    omega
  have h2 : l ≠ [] := by intro e; subst e; simp at h; omega
  rw [joinC_len _ h1, joinC_len _ h2, List.length_take]
  have := sum_take_le l k
  omega

set_option maxRecDepth 100000 in
set_option maxHeartbeats 4000000 in
theorem join_any (blk off lc : Nat) (ls : List ByteArray) (w : World) (hL : ∀ k (h : k < ls.length), w.cell? ⟨blk, off + k, none⟩ = some (.string ls[k])) (h2 : 2 ≤ ls.length) (hlc : ls.length ≤ lc) (hb : blk < w.heap.size) (h20 : ls.length ≤ 20)
    (hsz : (joinC (lsL ls)).length ≤ 140737488355328) :
    Calls Tryz.prog 49 #[.slice (some ⟨blk, off, none⟩) ls.length lc, .string ⟨#[44, 32]⟩] w fun e w' => e = .returned (.string ⟨(joinC (lsL ls)).toArray⟩) ∧ Below w.heap.size w w' := by
  have hne : lsL ls ≠ [] := by intro e; have := congrArg List.length e; simp [lsL] at this; rw [this] at h2; simp at h2
  have hlen : (lsL ls).length = ls.length := by simp [lsL]
  have htot := joinC_len (lsL ls) hne
  rw [hlen] at htot
  have hs0 : ∀ k, sumL ((lsL ls).take k) ≤ sumL (lsL ls) := fun k => sum_take_le _ _
  replace hL := Lib.hid hL
  replace hs0 := Lib.hid hs0
  have e0 : ((ls.length : Int) == 0) = false := by simp; intro e; rw [e] at h2; simp at h2
  have e1 : ((ls.length : Int) == 1) = false := by simp; omega
  have e2 : (2 : Int) < 9223372036854775807 / ((ls.length : Int) - 1) := by
    have : (3 : Int) ≤ 9223372036854775807 / ((ls.length : Int) - 1) := Int.le_ediv_of_mul_le (by omega) (by omega)
    omega
  clear hne hlen
  go_enter Tryz.func49, Tryz.ntmps49
  go_wp2
  clear e0 e1 e2
  go_loopw [5, 41] (fun n i wr => w = wr ∧ ∃ k t : Nat, k ≤ ls.length ∧ i = .int .i64 k ∧ n = .int .i64 t ∧ Hid (t = 2 * (ls.length - 1) + sumL ((lsL ls).take k))) (fun _ i _ => ls.length - (intOf i).toNat)
  case atStart => exact ⟨by first | rfl | trivial, 0, 2 * (ls.length - 1), by omega, by first | rfl | trivial, by congr 1; omega, show 2 * (ls.length - 1) = 2 * (ls.length - 1) + sumL ((lsL ls).take 0) by simp [sumL]⟩
  case round =>
    obtain ⟨rfl, k, t, hk, rfl, rfl, ht⟩ := hrel
    by_cases hkl : k < ls.length
    · have hc := hL.out k hkl
      have hst := sum_take hkl
      have hs1 := hs0.out (k + 1)
      have hb1 : t + ls[k].size ≤ 140737488355328 := by have := ht.out; omega
      have hn : t + ls[k].size = 2 * (ls.length - 1) + sumL ((lsL ls).take (k + 1)) := by have := ht.out; omega
      replace hn := Lib.hid hn
      clear hst hs1 ht htot hsz
      go_wp2
      go_roundw
      case rel => exact ⟨by first | rfl | trivial, k + 1, t + ls[k].size, by omega, by simp, by simp, hn.out⟩
      case measure => simp [intOf]; omega
    · have hkk : k = ls.length := by omega
      subst hkk
      have ht2 : t = (joinC (lsL ls)).length := by
        have := ht.out
        rw [htot, this, List.take_of_length_le (by simp [lsL])]
      subst ht2
      clear ht hkl
      have hG0 := Lib.hid (Tryz.Builder_Grow_fresh w.heap.size w.heap.size (joinC (lsL ls)).length (w.alloc (.cells #[.pointer none, .slice none 0 0] 116)) (Nat.le_refl _) (Own.new w _ _) (by simp) (by omega))
      generalize (joinC (lsL ls)).length = T at hG0 ⊢
      go_wp2_with fail
      refine (hG0.out).mono ?_
      rintro e w1 ⟨rfl, hg, hb1⟩
      have hB1 := Lib.hid (show Below w.heap.size w w1 from ((Below.refl _ _).alloc (Nat.le_refl _) _).trans (hb1.mono (Nat.le_refl _)))
      have hG := Lib.hid (show IsB w.heap.size w.heap.size [] w1 from Or.inr hg)
      clear hG0 hb1 hg
      have hc0 := sub_of_below hB1.out _ _ (hL.out 0 (by omega))
      have hs1 : ls[0].size ≤ 140737488355328 := by have := hs0.out (0 + 1); have h7 := sum_take (ls := ls) (k := 0) (by omega); omega
      rw [Nat.add_zero] at hc0
      go_wp2_with fail
      refine (writeString_any w.heap.size w.heap.size [] ls[0] _ hG.out (by simpa using hs1) hB1.out.size).mono ?_
      rintro e w2 ⟨rfl, hG2, hb2⟩
      replace hG2 := Lib.hid hG2
      have hB2 := Lib.hid (hB1.out.trans hb2)
      clear hb2 hB1 hc0 hs1 hG
      have hacc : joinC ((lsL ls).take 1) = [] ++ ls[0].data.toList := by
        match ls, h2 with
        | a :: b :: r, _ => simp [lsL, joinC]
      rw [← hacc] at hG2
      clear hacc
      replace hsz := Lib.hid hsz
      replace htot := Lib.hid htot
      go_wp2
      go_loopw [65] (fun i wr => ∃ k : Nat, k + 1 ≤ ls.length ∧ i = .int .i64 k ∧ Hid (IsB w.heap.size w.heap.size (joinC ((lsL ls).take (k + 1))) wr) ∧ Hid (Below w.heap.size w wr)) (fun i _ => ls.length - (intOf i).toNat)
      case atStart => exact ⟨0, by omega, rfl, hG2.out, hB2.out⟩
      case round =>
        clear hG2 hB2
        obtain ⟨k, hk, rfl, hG, hB⟩ := hrel
        by_cases hkl : k + 1 < ls.length
        · have hc := sub_of_below hB.out _ _ (hL.out (k + 1) hkl)
          rw [show off + (k + 1) = off + 1 + k by omega] at hc
          have hj := join_take (ls := ls) (k := k + 1) (by omega) hkl
          have hlt := take_le (lsL ls) (k + 1 + 1) (by omega) (by simp [lsL]; omega)
          have hle := Lib.hid (Nat.le_trans hlt hsz.out)
          rw [hj] at hle
          have hz1 := Lib.hid (show (joinC ((lsL ls).take (k + 1))).length + 2 ≤ 140737488355328 by have := hle.out; simp only [List.length_append, List.length_cons, List.length_nil] at this; omega)
          have hz2 := Lib.hid (show (joinC ((lsL ls).take (k + 1)) ++ [44, 32]).length + ls[k + 1].size ≤ 140737488355328 by have := hle.out; simp only [List.length_append, Array.length_toList] at this ⊢; exact this)
          replace hj := Lib.hid hj
          clear hlt hle
          go_wp2_with fail
          refine (writeString_any w.heap.size w.heap.size _ ⟨#[44, 32]⟩ _ hG.out hz1.out hB.out.size).mono ?_
          rintro e w3 ⟨rfl, hG3, hb3⟩
          replace hG3 := Lib.hid hG3
          have hB3 := Lib.hid (hB.out.trans hb3)
          clear hb3 hG hB hc
          go_wp2_with fail
          refine (writeString_any w.heap.size w.heap.size _ ls[k + 1] _ hG3.out hz2.out hB3.out.size).mono ?_
          rintro e w4 ⟨rfl, hG4, hb4⟩
          rw [← hj.out] at hG4
          replace hG4 := Lib.hid hG4
          have hB4 := Lib.hid (hB3.out.trans hb4)
          clear hb4 hG3 hB3
          go_wp2
          go_roundw
          case rel => exact ⟨k + 1, by omega, by simp, hG4.out, hB4.out⟩
          case measure => simp [intOf]; omega
        · have hkk : (lsL ls).take (k + 1) = lsL ls := List.take_of_length_le (by simp [lsL]; omega)
          rw [hkk] at hG
          clear hkk
          go_wp2_with fail
          refine (Tryz.Builder_String_any w.heap.size w.heap.size _ _ hG.out hB.out.size).mono ?_
          rintro e w3 ⟨rfl, hb3⟩
          have hB3 := Lib.hid (hB.out.trans hb3)
          clear hb3 hG hB
          go_wp2
          go_ret
          exact ⟨rfl, hB3.out⟩

end Go.Proofs.YtamkmdlfhlbbeaaGreatDoor.value

