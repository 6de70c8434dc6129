/- strings.Builder's WriteString, walked over this program: a builder that the call itself has made holds the text's bytes more. strings.Join with ", " walked over this program. strings.Join with a comma walked over this program. -/
import Derived.Test.YthnjgbjckggjhaaGreatDoorKJ3
import Derived.Lib.AppendStr
import Derived.Test.YthnjgbjckggjhaaGreatDoorKValE
import Derived.Test.YthnjgbjckggjhaaGreatDoorKClL
namespace Go.Proofs.YthnjgbjckggjhaaGreatDoor.text
open Go.RowKit

theorem cells_str (l : List UInt8) (s : ByteArray) : Lib.byteCells (l ++ s.data.toList) = Lib.byteCells l ++ Lib.strCells s := by simp [Lib.byteCells, Lib.strCells]

set_option maxRecDepth 100000 in
set_option maxHeartbeats 1000000 in
theorem writeString_any (B b : Nat) (l : List UInt8) (s : ByteArray) (w : World) (h : IsB B b l w) (hl : l.length + s.size ≤ 140737488355328) (hB : B ≤ w.heap.size) :
    Calls Tryz.prog 44 #[.pointer (some ⟨b, 0, none⟩), .string s] w fun e w' => e = .returned (.tuple #[.int .i64 s.size, .nilIface]) ∧ (IsB B b (l ++ s.data.toList) w' ∧ Below B w w') := by
  obtain ⟨i0, hi, hz0, hz1, hz2⟩ := info_parts infoByte
  go_enter Tryz.func44, Tryz.ntmps44
  go_wp2_with fail
  refine (copyCheck_any B b l _ h).mono ?_
  rintro e w1 ⟨rfl, h1, hb1⟩
  obtain ⟨hBb, v, hbk, hown, hne⟩ := h1
  obtain ⟨va, vc, rfl⟩ := owns_slice hown
  have hO := Lib.hid (show Own w1 b #[.pointer (some ⟨b, 0, none⟩), .slice va (Lib.byteCells l).length vc] 81 from hbk)
  have c0 := hO.out.cell 0
  have c1 := hO.out.cell 1
  simp at c0 c1
  have hlb : (Lib.byteCells l).length = l.length := by simp [Lib.byteCells]
  rw [hlb] at hown hne c1
  have hs1 := hb1.size
  have hb10 := Lib.hid hb1
  have hown0 := Lib.hid hown
  have hne0 := Lib.hid hne
  clear hown hbk hne hlb hb1
  go_wp2_with (at_builtin; refine Lib.wpList_append_own_string _ rfl _ _ _ _ rfl B 5 i0 Tryz.underlying25 Tryz.underlying9 hi hz0 hz1 hz2 (.slice va l.length vc) l.length (Lib.byteCells l) rfl hown0.out s rfl (by unfold maxLen; omega) (by omega) (by omega) ?_; intro v' w2 hown2 hgrow hnil; clear hnil; obtain ⟨g2, n2, hv2⟩ := owns_slice hown2; subst hv2; replace hown2 := Lib.hid hown2; have hO2 := hO.out.kept hgrow hne0.out; have d0 := hO2.cell 0; have d1 := hO2.cell 1; have d2 := hO2.free 1; simp at d0 d1)
  go_ret2
  refine ⟨rfl, Or.inr (Lib.BuilderAt.put hBb hO2 (bs' := Lib.byteCells (l ++ s.data.toList)) (by have := hown2.out; rw [cells_str, List.length_append, Lib.strCells_length, Lib.byteCells_length]; exact this) (by decide)), ?_⟩
  exact (((hb10.out).grown hgrow (by omega) (fun k hk => ((hown0.out).lt k hk).1)).setCell (p := ⟨b, 1, none⟩) hBb _)

end Go.Proofs.YthnjgbjckggjhaaGreatDoor.text

namespace Go.Proofs.YthnjgbjckggjhaaGreatDoor.value
open Go.RowKit Go.Proofs.YthnjgbjckggjhaaGreatDoor.text

theorem joinC_snoc : ∀ (l : List (List UInt8)) (x : List UInt8), l ≠ [] → joinC (l ++ [x]) = joinC l ++ [44, 32] ++ x
  | [], _, h => absurd rfl h
  | [a], x, _ => by simp [joinC]
  | a :: b :: r, x, _ => by
    have := joinC_snoc (b :: r) x (by simp)
    simp only [List.cons_append] at this ⊢
    rw [joinC, this, joinC]
    simp
def sumL (l : List (List UInt8)) : Nat := (l.map List.length).sum
theorem joinC_len : ∀ l : List (List UInt8), l ≠ [] → (joinC l).length = 2 * (l.length - 1) + sumL l
  | [], h => absurd rfl h
  | [a], _ => by simp [joinC, sumL]
  | a :: b :: r, _ => by
    have := joinC_len (b :: r) (by simp)
    rw [joinC]
    simp only [List.length_append, List.length_cons, this]
    simp only [sumL, List.map_cons, List.sum_cons]
    omega
theorem sum_take {ls : List ByteArray} {k : Nat} (h : k < ls.length) : sumL ((lsL ls).take (k + 1)) = sumL ((lsL ls).take k) + ls[k].size := by
  have hl : k < (lsL ls).length := by simpa [lsL] using h
  rw [List.take_succ_eq_append_getElem hl]
  simp [sumL, lsL]
theorem sum_take_le (l : List (List UInt8)) (k : Nat) : sumL (l.take k) ≤ sumL l := by
  have := List.take_append_drop k l
  have e : sumL l = sumL (l.take k) + sumL (l.drop k) := by
    conv => lhs; rw [← this]
    rw [sumL, List.map_append, List.sum_append]
    rfl
  omega
theorem join_take {ls : List ByteArray} {k : Nat} (h0 : 1 ≤ k) (h : k < ls.length) : joinC ((lsL ls).take (k + 1)) = joinC ((lsL ls).take k) ++ [44, 32] ++ ls[k].data.toList := by
  have hl : k < (lsL ls).length := by simpa [lsL] using h
  rw [List.take_succ_eq_append_getElem hl, joinC_snoc _ _ (by
    intro e
    have := congrArg List.length e
    simp only [List.length_take, List.length_nil] at this
    omega)]
  simp [lsL]

theorem take_le (l : List (List UInt8)) (k : Nat) (h0 : 1 ≤ k) (h : k ≤ l.length) : (joinC (l.take k)).length ≤ (joinC l).length := by
  have h1 : l.take k ≠ [] := by
    intro e
    have := congrArg List.length e
    simp only [List.length_take, List.length_nil] at this
    omega
  have h2 : l ≠ [] := by intro e; subst e; simp at h; omega
  rw [joinC_len _ h1, joinC_len _ h2, List.length_take]
  have := sum_take_le l k
  omega

set_option maxRecDepth 100000 in
set_option maxHeartbeats 4000000 in
theorem join_any (blk off lc : Nat) (ls : List ByteArray) (w : World) (hL : ∀ k (h : k < ls.length), w.cell? ⟨blk, off + k, none⟩ = some (.string ls[k])) (h2 : 2 ≤ ls.length) (hlc : ls.length ≤ lc) (_hb : blk < w.heap.size) (h20 : ls.length ≤ 20)
    (hsz : (joinC (lsL ls)).length ≤ 140737488355328) :
    Calls Tryz.prog 28 #[.slice (some ⟨blk, off, none⟩) ls.length lc, .string ⟨#[44, 32]⟩] w fun e w' => e = .returned (.string ⟨(joinC (lsL ls)).toArray⟩) ∧ Below w.heap.size w w' := by
  have hne : lsL ls ≠ [] := by intro e; have := congrArg List.length e; simp [lsL] at this; rw [this] at h2; simp at h2
  have hlen : (lsL ls).length = ls.length := by simp [lsL]
  have htot := joinC_len (lsL ls) hne
  rw [hlen] at htot
  have hs0 : ∀ k, sumL ((lsL ls).take k) ≤ sumL (lsL ls) := fun k => sum_take_le _ _
  replace hL := Lib.hid hL
  replace hs0 := Lib.hid hs0
  have e0 : ((ls.length : Int) == 0) = false := by simp; intro e; rw [e] at h2; simp at h2
  have e1 : ((ls.length : Int) == 1) = false := by simp; omega
  have e2 : (2 : Int) < 9223372036854775807 / ((ls.length : Int) - 1) := by
    have : (3 : Int) ≤ 9223372036854775807 / ((ls.length : Int) - 1) := Int.le_ediv_of_mul_le (by omega) (by omega)
    omega
  clear hne hlen
  go_enter Tryz.func28, Tryz.ntmps28
  go_wp2
  clear e0 e1 e2
  go_loopw [5, 41] (fun n i wr => w = wr ∧ ∃ k t : Nat, k ≤ ls.length ∧ i = .int .i64 k ∧ n = .int .i64 t ∧ Hid (t = 2 * (ls.length - 1) + sumL ((lsL ls).take k))) (fun _ i _ => ls.length - (intOf i).toNat)
  case atStart => exact ⟨by first | rfl | trivial, 0, 2 * (ls.length - 1), by omega, by first | rfl | trivial, by congr 1; omega, show 2 * (ls.length - 1) = 2 * (ls.length - 1) + sumL ((lsL ls).take 0) by simp [sumL]⟩
  case round =>
    obtain ⟨rfl, k, t, hk, rfl, rfl, ht⟩ := hrel
    by_cases hkl : k < ls.length
    · have hc := hL.out k hkl
      have hst := sum_take hkl
      have hs1 := hs0.out (k + 1)
      have hb1 : t + ls[k].size ≤ 140737488355328 := by have := ht.out; omega
      have hn : t + ls[k].size = 2 * (ls.length - 1) + sumL ((lsL ls).take (k + 1)) := by have := ht.out; omega
      replace hn := Lib.hid hn
      clear hst hs1 ht htot hsz
      go_wp2
      go_roundw
      case rel => exact ⟨by first | rfl | trivial, k + 1, t + ls[k].size, by omega, by simp, by simp, hn.out⟩
      case measure => simp [intOf]; omega
    · have hkk : k = ls.length := by omega
      subst hkk
      have ht2 : t = (joinC (lsL ls)).length := by
        have := ht.out
        rw [htot, this, List.take_of_length_le (by simp [lsL])]
      subst ht2
      clear ht hkl
      have hG0 := Lib.hid (Tryz.Builder_Grow_fresh w.heap.size w.heap.size (joinC (lsL ls)).length (w.alloc (.cells #[.pointer none, .slice none 0 0] 81)) (Nat.le_refl _) (Own.new w _ _) (by simp) (by omega))
      generalize (joinC (lsL ls)).length = T at hG0 ⊢
      go_wp2_with fail
      refine (hG0.out).mono ?_
      rintro e w1 ⟨rfl, hg, hb1⟩
      have hB1 := Lib.hid (show Below w.heap.size w w1 from ((Below.refl _ _).alloc (Nat.le_refl _) _).trans (hb1.mono (Nat.le_refl _)))
      have hG := Lib.hid (show IsB w.heap.size w.heap.size [] w1 from Or.inr hg)
      clear hG0 hb1 hg
      have hc0 := sub_of_below hB1.out _ _ (hL.out 0 (by omega))
      have hs1 : ls[0].size ≤ 140737488355328 := by have := hs0.out (0 + 1); have h7 := sum_take (ls := ls) (k := 0) (by omega); omega
      rw [Nat.add_zero] at hc0
      go_wp2_with fail
      refine (writeString_any w.heap.size w.heap.size [] ls[0] _ hG.out (by simpa using hs1) hB1.out.size).mono ?_
      rintro e w2 ⟨rfl, hG2, hb2⟩
      replace hG2 := Lib.hid hG2
      have hB2 := Lib.hid (hB1.out.trans hb2)
      clear hb2 hB1 hc0 hs1 hG
      have hacc : joinC ((lsL ls).take 1) = [] ++ ls[0].data.toList := by
        match ls, h2 with
        | a :: b :: r, _ => simp [lsL, joinC]
      rw [← hacc] at hG2
      clear hacc
      replace hsz := Lib.hid hsz
      replace htot := Lib.hid htot
      go_wp2
      go_loopw [65] (fun i wr => ∃ k : Nat, k + 1 ≤ ls.length ∧ i = .int .i64 k ∧ Hid (IsB w.heap.size w.heap.size (joinC ((lsL ls).take (k + 1))) wr) ∧ Hid (Below w.heap.size w wr)) (fun i _ => ls.length - (intOf i).toNat)
      case atStart => exact ⟨0, by omega, rfl, hG2.out, hB2.out⟩
      case round =>
        clear hG2 hB2
        obtain ⟨k, hk, rfl, hG, hB⟩ := hrel
        by_cases hkl : k + 1 < ls.length
        · have hc := sub_of_below hB.out _ _ (hL.out (k + 1) hkl)
          rw [show off + (k + 1) = off + 1 + k by omega] at hc
          have hj := join_take (ls := ls) (k := k + 1) (by omega) hkl
          have hlt := take_le (lsL ls) (k + 1 + 1) (by omega) (by simp [lsL]; omega)
          have hle := Lib.hid (Nat.le_trans hlt hsz.out)
          rw [hj] at hle
          have hz1 := Lib.hid (show (joinC ((lsL ls).take (k + 1))).length + 2 ≤ 140737488355328 by have := hle.out; simp only [List.length_append, List.length_cons, List.length_nil] at this; omega)
          have hz2 := Lib.hid (show (joinC ((lsL ls).take (k + 1)) ++ [44, 32]).length + ls[k + 1].size ≤ 140737488355328 by have := hle.out; simp only [List.length_append, Array.length_toList] at this ⊢; exact this)
          replace hj := Lib.hid hj
          clear hlt hle
          go_wp2_with fail
          refine (writeString_any w.heap.size w.heap.size _ ⟨#[44, 32]⟩ _ hG.out hz1.out hB.out.size).mono ?_
          rintro e w3 ⟨rfl, hG3, hb3⟩
          replace hG3 := Lib.hid hG3
          have hB3 := Lib.hid (hB.out.trans hb3)
          clear hb3 hG hB hc
          go_wp2_with fail
          refine (writeString_any w.heap.size w.heap.size _ ls[k + 1] _ hG3.out hz2.out hB3.out.size).mono ?_
          rintro e w4 ⟨rfl, hG4, hb4⟩
          rw [← hj.out] at hG4
          replace hG4 := Lib.hid hG4
          have hB4 := Lib.hid (hB3.out.trans hb4)
          clear hb4 hG3 hB3
          go_wp2
          go_roundw
          case rel => exact ⟨k + 1, by omega, by simp, hG4.out, hB4.out⟩
          case measure => simp [intOf]; omega
        · have hkk : (lsL ls).take (k + 1) = lsL ls := List.take_of_length_le (by simp [lsL]; omega)
          rw [hkk] at hG
          clear hkk
          go_wp2_with fail
          refine (Tryz.Builder_String_any w.heap.size w.heap.size _ _ hG.out hB.out.size).mono ?_
          rintro e w3 ⟨rfl, hb3⟩
          have hB3 := Lib.hid (hB.out.trans hb3)
          clear hb3 hG hB
          go_wp2
          go_ret
          exact ⟨rfl, hB3.out⟩

end Go.Proofs.YthnjgbjckggjhaaGreatDoor.value

namespace Go.Proofs.YthnjgbjckggjhaaGreatDoor.subj
open Go.RowKit Go.Proofs.YthnjgbjckggjhaaGreatDoor Go.Proofs.YthnjgbjckggjhaaGreatDoor.text Go.Proofs.YthnjgbjckggjhaaGreatDoor.value Go.Proofs.YthnjgbjckggjhaaGreatDoor.schema Go.Proofs.YthnjgbjckggjhaaGreatDoor.draw

/-- Texts with commas between them. -/
def joinK : List (List UInt8) → List UInt8
  | [] => []
  | [a] => a
  | a :: b :: r => a ++ 44 :: joinK (b :: r)
theorem joinK_snoc : ∀ (l : List (List UInt8)) (x : List UInt8), l ≠ [] → joinK (l ++ [x]) = joinK l ++ [44] ++ x
  | [], _, h => absurd rfl h
  | [a], x, _ => by simp [joinK]
  | a :: b :: r, x, _ => by
    have := joinK_snoc (b :: r) x (by simp)
    simp only [List.cons_append] at this ⊢
    rw [joinK, this, joinK]
    simp
theorem joinK_len : ∀ l : List (List UInt8), l ≠ [] → (joinK l).length = (l.length - 1) + sumL l
  | [], h => absurd rfl h
  | [a], _ => by simp [joinK, sumL]
  | a :: b :: r, _ => by
    have := joinK_len (b :: r) (by simp)
    rw [joinK]
    simp only [List.length_append, List.length_cons, this]
    simp only [sumL, List.map_cons, List.sum_cons]
    omega
theorem joinK_take {ls : List ByteArray} {k : Nat} (h0 : 1 ≤ k) (h : k < ls.length) : joinK ((lsL ls).take (k + 1)) = joinK ((lsL ls).take k) ++ [44] ++ ls[k].data.toList := by
  have hl : k < (lsL ls).length := by simpa [lsL] using h
  rw [List.take_succ_eq_append_getElem hl, joinK_snoc _ _ (by
    intro e
    have := congrArg List.length e
    simp only [List.length_take, List.length_nil] at this
    omega)]
  simp [lsL]
theorem takeK_le (l : List (List UInt8)) (k : Nat) (h0 : 1 ≤ k) (h : k ≤ l.length) : (joinK (l.take k)).length ≤ (joinK l).length := by
  have h1 : l.take k ≠ [] := by
    intro e
    have := congrArg List.length e
    simp only [List.length_take, List.length_nil] at this
    omega
  have h2 : l ≠ [] := by intro e; subst e; simp at h; omega
  rw [joinK_len _ h1, joinK_len _ h2, List.length_take]
  have := sum_take_le l k
  omega

set_option maxRecDepth 100000 in
set_option maxHeartbeats 4000000 in
theorem joinK_any (blk off lc : Nat) (ls : List ByteArray) (w : World) (hL : ∀ k (h : k < ls.length), w.cell? ⟨blk, off + k, none⟩ = some (.string ls[k])) (h2 : 2 ≤ ls.length) (hlc : ls.length ≤ lc) (_hb : blk < w.heap.size) (h20 : ls.length ≤ 20)
    (hsz : (joinK (lsL ls)).length ≤ 140737488355328) :
    Calls Tryz.prog 28 #[.slice (some ⟨blk, off, none⟩) ls.length lc, .string ⟨#[44]⟩] w fun e w' => e = .returned (.string ⟨(joinK (lsL ls)).toArray⟩) ∧ Below w.heap.size w w' := by
  have hne : lsL ls ≠ [] := by intro e; have := congrArg List.length e; simp [lsL] at this; rw [this] at h2; simp at h2
  have hlen : (lsL ls).length = ls.length := by simp [lsL]
  have htot := joinK_len (lsL ls) hne
  rw [hlen] at htot
  have hs0 : ∀ k, sumL ((lsL ls).take k) ≤ sumL (lsL ls) := fun k => sum_take_le _ _
  replace hL := Lib.hid hL
  replace hs0 := Lib.hid hs0
  have e0 : ((ls.length : Int) == 0) = false := by simp; intro e; rw [e] at h2; simp at h2
  have e1 : ((ls.length : Int) == 1) = false := by simp; omega
  have e2 : (1 : Int) < 9223372036854775807 / ((ls.length : Int) - 1) := by
    have : (3 : Int) ≤ 9223372036854775807 / ((ls.length : Int) - 1) := Int.le_ediv_of_mul_le (by omega) (by omega)
    omega
  clear hne hlen
  go_enter Tryz.func28, Tryz.ntmps28
  go_wp2
  clear e0 e1 e2
  go_loopw [5, 41] (fun n i wr => w = wr ∧ ∃ k t : Nat, k ≤ ls.length ∧ i = .int .i64 k ∧ n = .int .i64 t ∧ Hid (t = ls.length - 1 + sumL ((lsL ls).take k))) (fun _ i _ => ls.length - (intOf i).toNat)
  case atStart => exact ⟨by first | rfl | trivial, 0, ls.length - 1, by omega, by first | rfl | trivial, by congr 1; omega, show ls.length - 1 = ls.length - 1 + sumL ((lsL ls).take 0) by simp [sumL]⟩
  case round =>
    obtain ⟨rfl, k, t, hk, rfl, rfl, ht⟩ := hrel
    by_cases hkl : k < ls.length
    · have hc := hL.out k hkl
      have hst := sum_take hkl
      have hs1 := hs0.out (k + 1)
      have hb1 : t + ls[k].size ≤ 140737488355328 := by have := ht.out; omega
      have hn : t + ls[k].size = ls.length - 1 + sumL ((lsL ls).take (k + 1)) := by have := ht.out; omega
      replace hn := Lib.hid hn
      clear hst hs1 ht htot hsz
      go_wp2
      go_roundw
      case rel => exact ⟨by first | rfl | trivial, k + 1, t + ls[k].size, by omega, by simp, by simp, hn.out⟩
      case measure => simp [intOf]; omega
    · have hkk : k = ls.length := by omega
      subst hkk
      have ht2 : t = (joinK (lsL ls)).length := by
        have := ht.out
        rw [htot, this, List.take_of_length_le (by simp [lsL])]
      subst ht2
      clear ht hkl
      have hG0 := Lib.hid (Tryz.Builder_Grow_fresh w.heap.size w.heap.size (joinK (lsL ls)).length (w.alloc (.cells #[.pointer none, .slice none 0 0] 81)) (Nat.le_refl _) (Own.new w _ _) (by simp) (by omega))
      generalize (joinK (lsL ls)).length = T at hG0 ⊢
      go_wp2_with fail
      refine (hG0.out).mono ?_
      rintro e w1 ⟨rfl, hg, hb1⟩
      have hB1 := Lib.hid (show Below w.heap.size w w1 from ((Below.refl _ _).alloc (Nat.le_refl _) _).trans (hb1.mono (Nat.le_refl _)))
      have hG := Lib.hid (show IsB w.heap.size w.heap.size [] w1 from Or.inr hg)
      clear hG0 hb1 hg
      have hc0 := sub_of_below hB1.out _ _ (hL.out 0 (by omega))
      have hs1 : ls[0].size ≤ 140737488355328 := by have := hs0.out (0 + 1); have h7 := sum_take (ls := ls) (k := 0) (by omega); omega
      rw [Nat.add_zero] at hc0
      go_wp2_with fail
      refine (writeString_any w.heap.size w.heap.size [] ls[0] _ hG.out (by simpa using hs1) hB1.out.size).mono ?_
      rintro e w2 ⟨rfl, hG2, hb2⟩
      replace hG2 := Lib.hid hG2
      have hB2 := Lib.hid (hB1.out.trans hb2)
      clear hb2 hB1 hc0 hs1 hG
      have hacc : joinK ((lsL ls).take 1) = [] ++ ls[0].data.toList := by
        match ls, h2 with
        | a :: b :: r, _ => simp [lsL, joinK]
      rw [← hacc] at hG2
      clear hacc
      replace hsz := Lib.hid hsz
      replace htot := Lib.hid htot
      go_wp2
      go_loopw [65] (fun i wr => ∃ k : Nat, k + 1 ≤ ls.length ∧ i = .int .i64 k ∧ Hid (IsB w.heap.size w.heap.size (joinK ((lsL ls).take (k + 1))) wr) ∧ Hid (Below w.heap.size w wr)) (fun i _ => ls.length - (intOf i).toNat)
      case atStart => exact ⟨0, by omega, rfl, hG2.out, hB2.out⟩
      case round =>
        clear hG2 hB2
        obtain ⟨k, hk, rfl, hG, hB⟩ := hrel
        by_cases hkl : k + 1 < ls.length
        · have hc := sub_of_below hB.out _ _ (hL.out (k + 1) hkl)
          rw [show off + (k + 1) = off + 1 + k by omega] at hc
          have hj := joinK_take (ls := ls) (k := k + 1) (by omega) hkl
          have hlt := takeK_le (lsL ls) (k + 1 + 1) (by omega) (by simp [lsL]; omega)
          have hle := Lib.hid (Nat.le_trans hlt hsz.out)
          rw [hj] at hle
          have hz1 := Lib.hid (show (joinK ((lsL ls).take (k + 1))).length + 1 ≤ 140737488355328 by have := hle.out; simp only [List.length_append, List.length_cons, List.length_nil] at this; omega)
          have hz2 := Lib.hid (show (joinK ((lsL ls).take (k + 1)) ++ [44]).length + ls[k + 1].size ≤ 140737488355328 by have := hle.out; simp only [List.length_append, Array.length_toList] at this ⊢; exact this)
          replace hj := Lib.hid hj
          clear hlt hle
          go_wp2_with fail
          refine (writeString_any w.heap.size w.heap.size _ ⟨#[44]⟩ _ hG.out hz1.out hB.out.size).mono ?_
          rintro e w3 ⟨rfl, hG3, hb3⟩
          replace hG3 := Lib.hid hG3
          have hB3 := Lib.hid (hB.out.trans hb3)
          clear hb3 hG hB hc
          go_wp2_with fail
          refine (writeString_any w.heap.size w.heap.size _ ls[k + 1] _ hG3.out hz2.out hB3.out.size).mono ?_
          rintro e w4 ⟨rfl, hG4, hb4⟩
          rw [← hj.out] at hG4
          replace hG4 := Lib.hid hG4
          have hB4 := Lib.hid (hB3.out.trans hb4)
          clear hb4 hG3 hB3
          go_wp2
          go_roundw
          case rel => exact ⟨k + 1, by omega, by simp, hG4.out, hB4.out⟩
          case measure => simp [intOf]; omega
        · have hkk : (lsL ls).take (k + 1) = lsL ls := List.take_of_length_le (by simp [lsL]; omega)
          rw [hkk] at hG
          clear hkk
          go_wp2_with fail
          refine (Tryz.Builder_String_any w.heap.size w.heap.size _ _ hG.out hB.out.size).mono ?_
          rintro e w3 ⟨rfl, hb3⟩
          have hB3 := Lib.hid (hB.out.trans hb3)
          clear hb3 hG hB
          go_wp2
          go_ret
          exact ⟨rfl, hB3.out⟩



set_option maxHeartbeats 1000000 in
theorem joinK_zero (va : Option Addr) (vc : Nat) (w : World) : Calls Tryz.prog 28 #[.slice va 0 vc, .string ⟨#[44]⟩] w fun e w' => e = .returned (.string ⟨#[]⟩) ∧ w' = w := by
  go_enter Tryz.func28, Tryz.ntmps28
  go_wp2
  go_ret
  exact ⟨rfl, rfl⟩
set_option maxHeartbeats 1000000 in
theorem joinK_one (blk off vc : Nat) (x : ByteArray) (w : World) (hc : w.cell? ⟨blk, off, none⟩ = some (.string x)) : Calls Tryz.prog 28 #[.slice (some ⟨blk, off, none⟩) 1 vc, .string ⟨#[44]⟩] w fun e w' => e = .returned (.string x) ∧ w' = w := by
  go_enter Tryz.func28, Tryz.ntmps28
  go_wp2
  go_ret
  exact ⟨rfl, rfl⟩
theorem sumK_le (M : Nat) : ∀ l : List (List UInt8), (∀ x ∈ l, x.length ≤ M) → sumL l ≤ l.length * M
  | [], _ => by simp [sumL]
  | a :: r, h => by
    have h1 := sumK_le M r (fun x hx => h x (List.mem_cons_of_mem _ hx))
    have h2 := h a List.mem_cons_self
    simp only [sumL, List.map_cons, List.sum_cons, List.length_cons] at *
    rw [Nat.add_mul]
    omega
theorem ba_eta (x : ByteArray) : (⟨x.data.toList.toArray⟩ : ByteArray) = x := by cases x; simp
/-- Joined texts that are few and not long. -/
theorem joinK_rows (va : Option Addr) (n vc : Nat) (ls : List ByteArray) (w : World) (h : RowsAt w.cell? 1 (.slice va n vc) (ls.map strRow)) (hl : ls.length ≤ 20) (hv : ∀ x ∈ ls, x.size ≤ 1000) :
    Calls Tryz.prog 28 #[.slice va n vc, .string ⟨#[44]⟩] w fun e w' => e = .returned (.string ⟨(joinK (lsL ls)).toArray⟩) ∧ Below w.heap.size w w' := by
  obtain ⟨a0, c0, h1, h2, h3, h4⟩ := h
  injection h1 with e1 e2 e3
  subst e1; subst e3
  rw [List.length_map] at e2 h2
  subst e2
  rcases h4 with h4 | ⟨blk, off, rfl, hc⟩
  · have : ls = [] := by simpa using h4
    subst this
    refine (joinK_zero va vc w).mono ?_
    rintro e w' ⟨rfl, rfl⟩
    exact ⟨rfl, Below.refl _ _⟩
  · have hcell : ∀ k (h : k < ls.length), w.cell? ⟨blk, off + k, none⟩ = some (.string ls[k]) := by
      intro k hk
      have := hc k (strRow ls[k]) (by simp [hk]) 0 (.string ls[k]) rfl
      rw [Nat.mul_one, Nat.add_zero] at this
      exact this
    by_cases h5 : 2 ≤ ls.length
    · have hsz : (joinK (lsL ls)).length ≤ 140737488355328 := by
        have hne : lsL ls ≠ [] := by intro e; have := congrArg List.length e; simp only [lsL, List.length_map, List.length_nil] at this; omega
        rw [joinK_len _ hne]
        have := sumK_le 1000 (lsL ls) (by intro x hx; obtain ⟨y, hy, rfl⟩ := List.mem_map.1 hx; simpa using hv y hy)
        have h9 : (lsL ls).length = ls.length := by simp [lsL]
        rw [h9] at this ⊢
        omega
      exact joinK_any blk off vc ls w hcell h5 h2 (World.block_lt_of_cell? w _ (hcell 0 (by omega))) hl hsz
    · match ls, hcell, h5 with
      | [], _, _ =>
        refine (joinK_zero (some ⟨blk, off, none⟩) vc w).mono ?_
        rintro e w' ⟨rfl, rfl⟩
        exact ⟨rfl, Below.refl _ _⟩
      | [x], hcell, _ =>
        refine (joinK_one blk off vc x w (by have := hcell 0 (by simp); simpa using this)).mono ?_
        rintro e w' ⟨rfl, rfl⟩
        refine ⟨?_, Below.refl _ _⟩
        rw [show joinK (lsL [x]) = x.data.toList from rfl, ba_eta]
      | _ :: _ :: _, _, h5 => exact absurd (by simp) h5

end Go.Proofs.YthnjgbjckggjhaaGreatDoor.subj
