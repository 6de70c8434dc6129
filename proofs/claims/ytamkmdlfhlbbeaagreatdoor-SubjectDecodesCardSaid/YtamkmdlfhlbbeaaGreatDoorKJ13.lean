/- A value as bytes: putValue of the program and of the reference. The program's Encode. The reference's Encode. -/
import Derived.Test.YtamkmdlfhlbbeaaGreatDoorKJ12
import Derived.Test.YtamkmdlfhlbbeaaGreatDoorKSuSm
import Derived.Deep.RegionHeld3
namespace Go.Proofs.YtamkmdlfhlbbeaaGreatDoor.wire
open Go.RowKit Go.Proofs.YtamkmdlfhlbbeaaGreatDoor Go.Proofs.YtamkmdlfhlbbeaaGreatDoor.schema Go.Proofs.YtamkmdlfhlbbeaaGreatDoor.value Go.Proofs.YtamkmdlfhlbbeaaGreatDoor.text Go.Proofs.YtamkmdlfhlbbeaaGreatDoor.clause Go.Proofs.YtamkmdlfhlbbeaaGreatDoor.subj Go.Proofs.YtamkmdlfhlbbeaaGreatDoor.draw

abbrev OwnB (B : Nat) (v : Value) (l : List UInt8) (w : World) : Prop := BS B v l w
theorem own4x {w : World} {n : Nat} {x0 x1 x2 x3 : Value} {t : TypeId} (h : Own w n #[x0, x1, x2, x3] t) :
    w.cell? ⟨n, 0, none⟩ = some x0 ∧ w.cell? ⟨n, 1, none⟩ = some x1 ∧ w.cell? ⟨n, 2, none⟩ = some x2 ∧ w.cell? ⟨n, 3, none⟩ = some x3 := ⟨h.cell 0, h.cell 1, h.cell 2, h.cell 3⟩
theorem few210 {t : ByteArray} (h : t.size ≤ 200) : (putT t.data.toList).length ≤ 210 := by
  have h1 := putT_few (s := t.data.toList) (by simp; omega)
  have e : t.data.toList.length = t.size := by simp
  omega
/-- The texts of a list as bytes. -/
def encL (ls : List ByteArray) : List UInt8 := (ls.map fun t => putT t.data.toList).flatten
theorem encL_nil : encL [] = [] := rfl
theorem encL_next (ls : List ByteArray) {j : Nat} (h : j < ls.length) : encL (ls.take (j + 1)) = encL (ls.take j) ++ putT ls[j].data.toList := by
  unfold encL
  rw [List.take_succ_eq_append_getElem h, List.map_append, List.flatten_append]
  simp
theorem str_at {m : Mem} {a : Option Addr} {n c : Nat} {ls : List ByteArray} (h : RowsAt m 1 (.slice a n c) (ls.map strRow)) {k : Nat} (hk : k < ls.length) : ∃ blk off, a = some ⟨blk, off, none⟩ ∧ m ⟨blk, off + k, none⟩ = some (.string ls[k]) := by
  obtain ⟨a0, c0, h1, h2, h3, h4⟩ := h
  injection h1 with e1 e2 e3
  subst e1
  rcases h4 with h4 | ⟨blk, off, rfl, hc⟩
  · have : ls = [] := by simpa using h4
    subst this
    simp at hk
  · refine ⟨blk, off, rfl, ?_⟩
    have := hc k (strRow ls[k]) (by simp [hk]) 0 (.string ls[k]) rfl
    rw [Nat.mul_one, Nat.add_zero] at this
    exact this

set_option maxRecDepth 100000 in
set_option maxHeartbeats 8000000 in
theorem putV_any (k n : Int) (t : ByteArray) (p : Option Addr) (ln cp : Nat) (ls : List ByteArray) (a : Option Addr) (m c : Nat) (l : List UInt8) (w : World) (h : BV w.cell? (.slice a m c) l) (hm : m ≤ 1073000000) (hd : checkS (vv ⟨k, n, t, p, ln, cp, ls⟩) = 0) (hL : LAt w.cell? ⟨k, n, t, p, ln, cp, ls⟩) :
    Calls Tryz.prog 70 #[.slice a m c, .agg #[.int .i64 k, .int .i64 n, .string t, .slice p ln cp]] w fun e w' => OutB w.heap.size (l ++ encV ⟨k, n, t, p, ln, cp, ls⟩) e w' ∧ Below w.heap.size w w' := by
  have hb0 : Below w.heap.size w (w.alloc (.cells #[.int .i64 k, .int .i64 n, .string t, .slice p ln cp] 51)) := (Below.refl _ _).alloc (Nat.le_refl _) _
  have hX0 := Lib.hid (Own.new w #[.int .i64 k, .int .i64 n, .string t, .slice p ln cp] 51)
  have hV0 := Lib.hid (h.mono (sub_of_below hb0))
  have hR0 := Lib.hid (hL.rows.mono (sub_of_below hb0))
  have hW := check_ways hd
  simp only at hW
  have hln : ln = ls.length := by have := (len_of hL.rows).1; simpa using this
  replace hb0 := Lib.hid hb0
  clear h hd hL
  have hml := hV0.out.len.1
  have hpk := putN_few (n := k) (by omega) (by omega)
  have hP1 := Lib.hid (putN_any a m c l k _ hV0.out (by omega) (by omega) (by omega))
  rcases hW with ⟨h1, h2, h3, h4, h5⟩ | ⟨h1, h2, h3, h4⟩ | ⟨h1, h2, h3, h4, h5⟩
  · have hE : encV ⟨k, n, t, p, ln, cp, ls⟩ = putN k ++ putN n := by unfold encV; simp only; rw [if_pos h1]
    rw [hE, ← List.append_assoc]
    clear hE h2 h3 hln
    obtain ⟨L, hLx⟩ : ∃ L, Hid (l ++ putN k = L) := ⟨_, Lib.hid rfl⟩
    have hLl : L.length ≤ m + 10 := by rw [← hLx.out, List.length_append]; omega
    rw [hLx.out] at hP1 ⊢
    replace hml := Lib.hid hml
    rcases h1 with rfl | rfl
    all_goals
      go_enter Tryz.func70, Tryz.ntmps70
      go_wp2_with fail
      generalize World.alloc w _ = w0 at hb0 hX0 hV0 hR0 hP1 ⊢
      refine hP1.out.mono ?_
      clear hP1
      rintro e w1 ⟨⟨a1, n1, c1, rfl, hn1, hB1⟩, hb1⟩
      have hX1 := hX0.out.below hb1 hX0.out.lt
      have hb2 := Lib.hid (hb0.out.trans (hb1.mono hb0.out.size))
      obtain ⟨x0, x1, x2, x3⟩ := own4x hX1
      have hxl := hX1.lt
      have hs1 := hb2.out.size
      have hP2 := Lib.hid (putN_any a1 n1 c1 L n w1 (bv_of_bs hB1) (by omega) (by omega) (by omega))
      replace hX1 := Lib.hid hX1
      clear hB1 hn1 hb1
      go_wp2_with fail
      refine hP2.out.mono ?_
      clear hP2
      rintro e w2 ⟨hO, hb3⟩
      obtain ⟨a2, n2, c2, rfl, hn2, hB2⟩ := hO
      have hb4 := Lib.hid (hb2.out.trans (hb3.mono hs1))
      replace hB2 := Lib.hid hB2
      replace hn2 := Lib.hid hn2
      clear hb3
      go_wp2
      go_ret
      exact ⟨⟨_, _, _, rfl, hn2.out, bs_low hB2.out hs1⟩, hb4.out⟩
  · have hE : encV ⟨k, n, t, p, ln, cp, ls⟩ = putN k ++ putT t.data.toList := by unfold encV; simp only; rw [if_neg (by omega), if_pos h1]
    rw [hE, ← List.append_assoc]
    clear hE h2 h3 hln
    obtain ⟨L, hLx⟩ : ∃ L, Hid (l ++ putN k = L) := ⟨_, Lib.hid rfl⟩
    have hLl : L.length ≤ m + 10 := by rw [← hLx.out, List.length_append]; omega
    rw [hLx.out] at hP1 ⊢
    replace hml := Lib.hid hml
    rcases h1 with rfl | rfl
    all_goals
      go_enter Tryz.func70, Tryz.ntmps70
      go_wp2_with fail
      generalize World.alloc w _ = w0 at hb0 hX0 hV0 hR0 hP1 ⊢
      refine hP1.out.mono ?_
      clear hP1
      rintro e w1 ⟨⟨a1, n1, c1, rfl, hn1, hB1⟩, hb1⟩
      have hX1 := hX0.out.below hb1 hX0.out.lt
      have hb2 := Lib.hid (hb0.out.trans (hb1.mono hb0.out.size))
      obtain ⟨x0, x1, x2, x3⟩ := own4x hX1
      have hxl := hX1.lt
      have hs1 := hb2.out.size
      have hP2 := Lib.hid (putT_any a1 n1 c1 L t w1 (bv_of_bs hB1) (by omega) (by omega))
      replace hX1 := Lib.hid hX1
      clear hB1 hn1 hb1
      go_wp2_with fail
      refine hP2.out.mono ?_
      clear hP2
      rintro e w2 ⟨hO, hb3⟩
      obtain ⟨a2, n2, c2, rfl, hn2, hB2⟩ := hO
      have hb4 := Lib.hid (hb2.out.trans (hb3.mono hs1))
      replace hB2 := Lib.hid hB2
      replace hn2 := Lib.hid hn2
      clear hb3
      go_wp2
      go_ret
      exact ⟨⟨_, _, _, rfl, hn2.out, bs_low hB2.out hs1⟩, hb4.out⟩
  · subst h1
    have hE : encV ⟨5, n, t, p, ln, cp, ls⟩ = putN 5 ++ (putN (ln : Nat) ++ encL ls) := by unfold encV encL; simp only; rw [if_neg (by decide), if_neg (by decide), hln]
    rw [hE, ← List.append_assoc, ← List.append_assoc]
    clear hE h2 h3
    obtain ⟨L0, hL0⟩ : ∃ L, Hid (l ++ putN 5 = L) := ⟨_, Lib.hid rfl⟩
    have hLl0 : L0.length ≤ m + 10 := by rw [← hL0.out, List.length_append]; omega
    rw [hL0.out] at hP1 ⊢
    have hpl := putN_few (n := ((ln : Nat) : Int)) (by omega) (by omega)
    obtain ⟨L, hLx⟩ : ∃ L, Hid (L0 ++ putN ((ln : Nat) : Int) = L) := ⟨_, Lib.hid rfl⟩
    have hLl : L.length ≤ m + 20 := by rw [← hLx.out, List.length_append]; omega
    rw [hLx.out]
    replace hml := Lib.hid hml
    replace h5 := Lib.hid h5
    have hln20 : ln ≤ 20 := by omega
    replace hln := Lib.hid hln
    go_enter Tryz.func70, Tryz.ntmps70
    go_wp2_with fail
    generalize World.alloc w _ = w0 at hb0 hX0 hV0 hR0 hP1 ⊢
    refine hP1.out.mono ?_
    clear hP1
    rintro e w1 ⟨⟨a1, n1, c1, rfl, hn1, hB1⟩, hb1⟩
    have hX1 := hX0.out.below hb1 hX0.out.lt
    have hb2 := Lib.hid (hb0.out.trans (hb1.mono hb0.out.size))
    have hR1 := Lib.hid (hR0.out.mono (sub_of_below hb1))
    obtain ⟨x0, x1, x2, x3⟩ := own4x hX1
    have hxl := hX1.lt
    have hs1 := hb2.out.size
    have hP2 := Lib.hid (putN_any a1 n1 c1 L0 ((ln : Nat) : Int) w1 (bv_of_bs hB1) (by omega) (by omega) (by omega))
    rw [hLx.out] at hP2
    replace hX1 := Lib.hid hX1
    clear hB1 hn1 hb1 hX0 hV0 hR0
    go_wp2_with fail
    refine hP2.out.mono ?_
    clear hP2 x0 x1 x2 x3 hxl
    rintro e w2 ⟨⟨a2, n2, c2, rfl, hn2, hB2⟩, hb3⟩
    have hX2 := hX1.out.below hb3 hX1.out.lt
    have hb4 := Lib.hid (hb2.out.trans (hb3.mono hs1))
    have hR2 := Lib.hid (hR1.out.mono (sub_of_below hb3))
    obtain ⟨x0, x1, x2, x3⟩ := own4x hX2
    have hxl := hX2.lt
    have hs2 := hb4.out.size
    have hB2' := Lib.hid (bs_low hB2 hs1)
    have hn2' : n2 ≤ m + 20 := by omega
    replace hX2 := Lib.hid hX2
    replace hn2 := Lib.hid hn2
    clear hb3 hB2 hX1 hR1
    go_wp2_with fail
    go_loopw [0, 35] (fun s0 s35 wr => ∃ (j : Nat) (va : Option Addr) (r vc : Nat), j ≤ ln ∧ s35 = .int .i64 j ∧ s0 = .slice va r vc ∧ r ≤ m + 20 + 210 * j ∧ Hid (r = (L ++ encL (ls.take j)).length ∧ OwnB w.heap.size (.slice va r vc) (L ++ encL (ls.take j)) wr) ∧ Hid (Below w2.heap.size w2 wr)) (fun s0 s35 _ => ln - (intOf s35).toNat)
    case atStart => exact ⟨0, _, _, _, by omega, rfl, rfl, by omega, Lib.hid ⟨by rw [List.take_zero, encL_nil, List.append_nil]; exact hn2.out, by rw [List.take_zero, encL_nil, List.append_nil]; exact hB2'.out⟩, Lib.hid (Below.refl _ _)⟩
    case round =>
      obtain ⟨j, va, r, vc, hj, rfl, rfl, hr, hA, hy⟩ := hrel
      have hB := hA.out.2
      have hbr := Lib.hid (hb4.out.trans (hy.out.mono hs2))
      have hXr := hX2.out.below hy.out hX2.out.lt
      obtain ⟨y0, y1, y2, y3⟩ := own4x hXr
      have hyl := hXr.lt
      have hsr := hbr.out.size
      replace hXr := Lib.hid hXr
      have hrn := Lib.hid hA.out.1
      clear hA
      by_cases hlt : j < ln
      case neg =>
        obtain rfl : j = ln := by omega
        have hfull : ls.take j = ls := List.take_of_length_le (by have := hln.out; omega)
        rw [hfull] at hB hrn
        replace hB := Lib.hid hB
        go_wp2
        go_ret
        exact ⟨⟨_, _, _, rfl, hrn.out, hB.out⟩, hbr.out⟩
      have hjl : j < ls.length := by have := hln.out; omega
      obtain ⟨blk, off, rfl, hc⟩ := str_at (hR2.out.mono (sub_of_below hy.out)) hjl
      have hnext := Lib.hid (encL_next ls hjl)
      have hsz := h5.out ls[j] (List.getElem_mem hjl)
      generalize ls[j] = tx at hc hnext hsz
      have n0 : (0 : Int) ≤ (j : Int) := by omega
      have n1 : (j : Int) < (ln : Int) := by omega
      have hpt' := few210 (by omega : tx.size ≤ 200)
      obtain ⟨Y, hY⟩ : ∃ Y, Hid (L ++ encL (ls.take j) = Y) := ⟨_, Lib.hid rfl⟩
      rw [hY.out] at hB hrn
      have hnx : Hid (L ++ encL (ls.take (j + 1)) = Y ++ putT tx.data.toList) := Lib.hid (by rw [hnext.out, ← hY.out, List.append_assoc])
      have hr2 : r ≤ 1073741824 := by omega
      have hP3 := Lib.hid (putT_any va r vc Y tx wr (bv_of_bs hB) hr2 (by omega))
      have hstep := Lib.hid (show (Y ++ putT tx.data.toList).length ≤ m + 20 + 210 * (j + 1) by rw [List.length_append, ← hrn.out]; omega)
      replace hB := Lib.hid hB
      clear hpt' hY hnext hsz
      go_wp2_with fail
      refine hP3.out.mono ?_
      clear hP3
      rintro e w3 ⟨⟨a3, n3, c3, rfl, hn3, hB3⟩, hb5⟩
      have hy3 := Lib.hid (hy.out.trans (hb5.mono hy.out.size))
      rw [← hnx.out] at hn3 hB3 hstep
      have hn3' : n3 ≤ m + 20 + 210 * (j + 1) := Nat.le_trans (Nat.le_of_eq hn3) hstep.out
      have hB3' := Lib.hid (bs_low hB3 hsr)
      replace hn3 := Lib.hid hn3
      clear hb5 hB3 y0 y1 y2 y3 hyl
      go_wp2
      go_roundw
      case rel => exact ⟨j + 1, _, _, _, by omega, by go_num, rfl, hn3', Lib.hid ⟨hn3.out, hB3'.out⟩, hy3⟩
      case measure => simp [intOf]; omega

set_option maxRecDepth 100000 in
set_option maxHeartbeats 8000000 in
theorem putV_ref (k n : Int) (t : ByteArray) (p : Option Addr) (ln cp : Nat) (ls : List ByteArray) (a : Option Addr) (m c : Nat) (l : List UInt8) (w : World) (h : BV w.cell? (.slice a m c) l) (hm : m ≤ 1073000000) (hd : checkS (vv ⟨k, n, t, p, ln, cp, ls⟩) = 0) (hL : LAt w.cell? ⟨k, n, t, p, ln, cp, ls⟩) :
    Calls Tryz.prog 57 #[.slice a m c, .agg #[.int .i64 k, .int .i64 n, .string t, .slice p ln cp]] w fun e w' => OutB w.heap.size (l ++ encV ⟨k, n, t, p, ln, cp, ls⟩) e w' ∧ Below w.heap.size w w' := by
  have hb0 : Below w.heap.size w (w.alloc (.cells #[.int .i64 k, .int .i64 n, .string t, .slice p ln cp] 51)) := (Below.refl _ _).alloc (Nat.le_refl _) _
  have hX0 := Lib.hid (Own.new w #[.int .i64 k, .int .i64 n, .string t, .slice p ln cp] 51)
  have hV0 := Lib.hid (h.mono (sub_of_below hb0))
  have hR0 := Lib.hid (hL.rows.mono (sub_of_below hb0))
  have hW := check_ways hd
  simp only at hW
  have hln : ln = ls.length := by have := (len_of hL.rows).1; simpa using this
  replace hb0 := Lib.hid hb0
  clear h hd hL
  have hml := hV0.out.len.1
  have hpk := putN_few (n := k) (by omega) (by omega)
  have hP1 := Lib.hid (putN_ref a m c l k _ hV0.out (by omega) (by omega) (by omega))
  rcases hW with ⟨h1, h2, h3, h4, h5⟩ | ⟨h1, h2, h3, h4⟩ | ⟨h1, h2, h3, h4, h5⟩
  · have hE : encV ⟨k, n, t, p, ln, cp, ls⟩ = putN k ++ putN n := by unfold encV; simp only; rw [if_pos h1]
    rw [hE, ← List.append_assoc]
    clear hE h2 h3 hln
    obtain ⟨L, hLx⟩ : ∃ L, Hid (l ++ putN k = L) := ⟨_, Lib.hid rfl⟩
    have hLl : L.length ≤ m + 10 := by rw [← hLx.out, List.length_append]; omega
    rw [hLx.out] at hP1 ⊢
    replace hml := Lib.hid hml
    rcases h1 with rfl | rfl
    all_goals
      go_enter Tryz.func57, Tryz.ntmps57
      go_wp2_with fail
      generalize World.alloc w _ = w0 at hb0 hX0 hV0 hR0 hP1 ⊢
      refine hP1.out.mono ?_
      clear hP1
      rintro e w1 ⟨⟨a1, n1, c1, rfl, hn1, hB1⟩, hb1⟩
      have hX1 := hX0.out.below hb1 hX0.out.lt
      have hb2 := Lib.hid (hb0.out.trans (hb1.mono hb0.out.size))
      obtain ⟨x0, x1, x2, x3⟩ := own4x hX1
      have hxl := hX1.lt
      have hs1 := hb2.out.size
      have hP2 := Lib.hid (putN_ref a1 n1 c1 L n w1 (bv_of_bs hB1) (by omega) (by omega) (by omega))
      replace hX1 := Lib.hid hX1
      clear hB1 hn1 hb1
      go_wp2_with fail
      refine hP2.out.mono ?_
      clear hP2
      rintro e w2 ⟨hO, hb3⟩
      obtain ⟨a2, n2, c2, rfl, hn2, hB2⟩ := hO
      have hb4 := Lib.hid (hb2.out.trans (hb3.mono hs1))
      replace hB2 := Lib.hid hB2
      replace hn2 := Lib.hid hn2
      clear hb3
      go_wp2
      go_ret
      exact ⟨⟨_, _, _, rfl, hn2.out, bs_low hB2.out hs1⟩, hb4.out⟩
  · have hE : encV ⟨k, n, t, p, ln, cp, ls⟩ = putN k ++ putT t.data.toList := by unfold encV; simp only; rw [if_neg (by omega), if_pos h1]
    rw [hE, ← List.append_assoc]
    clear hE h2 h3 hln
    obtain ⟨L, hLx⟩ : ∃ L, Hid (l ++ putN k = L) := ⟨_, Lib.hid rfl⟩
    have hLl : L.length ≤ m + 10 := by rw [← hLx.out, List.length_append]; omega
    rw [hLx.out] at hP1 ⊢
    replace hml := Lib.hid hml
    rcases h1 with rfl | rfl
    all_goals
      go_enter Tryz.func57, Tryz.ntmps57
      go_wp2_with fail
      generalize World.alloc w _ = w0 at hb0 hX0 hV0 hR0 hP1 ⊢
      refine hP1.out.mono ?_
      clear hP1
      rintro e w1 ⟨⟨a1, n1, c1, rfl, hn1, hB1⟩, hb1⟩
      have hX1 := hX0.out.below hb1 hX0.out.lt
      have hb2 := Lib.hid (hb0.out.trans (hb1.mono hb0.out.size))
      obtain ⟨x0, x1, x2, x3⟩ := own4x hX1
      have hxl := hX1.lt
      have hs1 := hb2.out.size
      have hP2 := Lib.hid (putT_ref a1 n1 c1 L t w1 (bv_of_bs hB1) (by omega) (by omega))
      replace hX1 := Lib.hid hX1
      clear hB1 hn1 hb1
      go_wp2_with fail
      refine hP2.out.mono ?_
      clear hP2
      rintro e w2 ⟨hO, hb3⟩
      obtain ⟨a2, n2, c2, rfl, hn2, hB2⟩ := hO
      have hb4 := Lib.hid (hb2.out.trans (hb3.mono hs1))
      replace hB2 := Lib.hid hB2
      replace hn2 := Lib.hid hn2
      clear hb3
      go_wp2
      go_ret
      exact ⟨⟨_, _, _, rfl, hn2.out, bs_low hB2.out hs1⟩, hb4.out⟩
  · subst h1
    have hE : encV ⟨5, n, t, p, ln, cp, ls⟩ = putN 5 ++ (putN (ln : Nat) ++ encL ls) := by unfold encV encL; simp only; rw [if_neg (by decide), if_neg (by decide), hln]
    rw [hE, ← List.append_assoc, ← List.append_assoc]
    clear hE h2 h3
    obtain ⟨L0, hL0⟩ : ∃ L, Hid (l ++ putN 5 = L) := ⟨_, Lib.hid rfl⟩
    have hLl0 : L0.length ≤ m + 10 := by rw [← hL0.out, List.length_append]; omega
    rw [hL0.out] at hP1 ⊢
    have hpl := putN_few (n := ((ln : Nat) : Int)) (by omega) (by omega)
    obtain ⟨L, hLx⟩ : ∃ L, Hid (L0 ++ putN ((ln : Nat) : Int) = L) := ⟨_, Lib.hid rfl⟩
    have hLl : L.length ≤ m + 20 := by rw [← hLx.out, List.length_append]; omega
    rw [hLx.out]
    replace hml := Lib.hid hml
    replace h5 := Lib.hid h5
    have hln20 : ln ≤ 20 := by omega
    replace hln := Lib.hid hln
    go_enter Tryz.func57, Tryz.ntmps57
    go_wp2_with fail
    generalize World.alloc w _ = w0 at hb0 hX0 hV0 hR0 hP1 ⊢
    refine hP1.out.mono ?_
    clear hP1
    rintro e w1 ⟨⟨a1, n1, c1, rfl, hn1, hB1⟩, hb1⟩
    have hX1 := hX0.out.below hb1 hX0.out.lt
    have hb2 := Lib.hid (hb0.out.trans (hb1.mono hb0.out.size))
    have hR1 := Lib.hid (hR0.out.mono (sub_of_below hb1))
    obtain ⟨x0, x1, x2, x3⟩ := own4x hX1
    have hxl := hX1.lt
    have hs1 := hb2.out.size
    have hP2 := Lib.hid (putN_ref a1 n1 c1 L0 ((ln : Nat) : Int) w1 (bv_of_bs hB1) (by omega) (by omega) (by omega))
    rw [hLx.out] at hP2
    replace hX1 := Lib.hid hX1
    clear hB1 hn1 hb1 hX0 hV0 hR0
    go_wp2_with fail
    refine hP2.out.mono ?_
    clear hP2 x0 x1 x2 x3 hxl
    rintro e w2 ⟨⟨a2, n2, c2, rfl, hn2, hB2⟩, hb3⟩
    have hX2 := hX1.out.below hb3 hX1.out.lt
    have hb4 := Lib.hid (hb2.out.trans (hb3.mono hs1))
    have hR2 := Lib.hid (hR1.out.mono (sub_of_below hb3))
    obtain ⟨x0, x1, x2, x3⟩ := own4x hX2
    have hxl := hX2.lt
    have hs2 := hb4.out.size
    have hB2' := Lib.hid (bs_low hB2 hs1)
    have hn2' : n2 ≤ m + 20 := by omega
    replace hX2 := Lib.hid hX2
    replace hn2 := Lib.hid hn2
    clear hb3 hB2 hX1 hR1
    go_wp2_with fail
    go_loopw [0, 5] (fun s0 s5 wr => ∃ (j : Nat) (va : Option Addr) (r vc : Nat), j ≤ ln ∧ s5 = .int .i64 j ∧ s0 = .slice va r vc ∧ r ≤ m + 20 + 210 * j ∧ Hid (r = (L ++ encL (ls.take j)).length ∧ OwnB w.heap.size (.slice va r vc) (L ++ encL (ls.take j)) wr) ∧ Hid (Below w2.heap.size w2 wr)) (fun s0 s5 _ => ln - (intOf s5).toNat)
    case atStart => exact ⟨0, _, _, _, by omega, rfl, rfl, by omega, Lib.hid ⟨by rw [List.take_zero, encL_nil, List.append_nil]; exact hn2.out, by rw [List.take_zero, encL_nil, List.append_nil]; exact hB2'.out⟩, Lib.hid (Below.refl _ _)⟩
    case round =>
      obtain ⟨j, va, r, vc, hj, rfl, rfl, hr, hA, hy⟩ := hrel
      have hB := hA.out.2
      have hbr := Lib.hid (hb4.out.trans (hy.out.mono hs2))
      have hXr := hX2.out.below hy.out hX2.out.lt
      obtain ⟨y0, y1, y2, y3⟩ := own4x hXr
      have hyl := hXr.lt
      have hsr := hbr.out.size
      replace hXr := Lib.hid hXr
      have hrn := Lib.hid hA.out.1
      clear hA
      by_cases hlt : j < ln
      case neg =>
        obtain rfl : j = ln := by omega
        have hfull : ls.take j = ls := List.take_of_length_le (by have := hln.out; omega)
        rw [hfull] at hB hrn
        replace hB := Lib.hid hB
        go_wp2
        go_ret
        exact ⟨⟨_, _, _, rfl, hrn.out, hB.out⟩, hbr.out⟩
      have hjl : j < ls.length := by have := hln.out; omega
      obtain ⟨blk, off, rfl, hc⟩ := str_at (hR2.out.mono (sub_of_below hy.out)) hjl
      have hnext := Lib.hid (encL_next ls hjl)
      have hsz := h5.out ls[j] (List.getElem_mem hjl)
      generalize ls[j] = tx at hc hnext hsz
      have n0 : (0 : Int) ≤ (j : Int) := by omega
      have n1 : (j : Int) < (ln : Int) := by omega
      have hpt' := few210 (by omega : tx.size ≤ 200)
      obtain ⟨Y, hY⟩ : ∃ Y, Hid (L ++ encL (ls.take j) = Y) := ⟨_, Lib.hid rfl⟩
      rw [hY.out] at hB hrn
      have hnx : Hid (L ++ encL (ls.take (j + 1)) = Y ++ putT tx.data.toList) := Lib.hid (by rw [hnext.out, ← hY.out, List.append_assoc])
      have hr2 : r ≤ 1073741824 := by omega
      have hP3 := Lib.hid (putT_ref va r vc Y tx wr (bv_of_bs hB) hr2 (by omega))
      have hstep := Lib.hid (show (Y ++ putT tx.data.toList).length ≤ m + 20 + 210 * (j + 1) by rw [List.length_append, ← hrn.out]; omega)
      replace hB := Lib.hid hB
      clear hpt' hY hnext hsz
      go_wp2_with fail
      refine hP3.out.mono ?_
      clear hP3
      rintro e w3 ⟨⟨a3, n3, c3, rfl, hn3, hB3⟩, hb5⟩
      have hy3 := Lib.hid (hy.out.trans (hb5.mono hy.out.size))
      rw [← hnx.out] at hn3 hB3 hstep
      have hn3' : n3 ≤ m + 20 + 210 * (j + 1) := Nat.le_trans (Nat.le_of_eq hn3) hstep.out
      have hB3' := Lib.hid (bs_low hB3 hsr)
      replace hn3 := Lib.hid hn3
      clear hb5 hB3 y0 y1 y2 y3 hyl
      go_wp2
      go_roundw
      case rel => exact ⟨j + 1, _, _, _, by omega, by go_num, rfl, hn3', Lib.hid ⟨hn3.out, hB3'.out⟩, hy3⟩
      case measure => simp [intOf]; omega

end Go.Proofs.YtamkmdlfhlbbeaaGreatDoor.wire

namespace Go.Proofs.YtamkmdlfhlbbeaaGreatDoor.wire
open Go.RowKit Go.Sort Go.Proofs.YtamkmdlfhlbbeaaGreatDoor Go.Proofs.YtamkmdlfhlbbeaaGreatDoor.schema Go.Proofs.YtamkmdlfhlbbeaaGreatDoor.value Go.Proofs.YtamkmdlfhlbbeaaGreatDoor.text Go.Proofs.YtamkmdlfhlbbeaaGreatDoor.clause Go.Proofs.YtamkmdlfhlbbeaaGreatDoor.subj Go.Proofs.YtamkmdlfhlbbeaaGreatDoor.draw

attribute [local go_sem ↓] Go.wp_at_zero Go.wp_at_succ

def encCs (l : List CT) : List UInt8 := (l.map encC).flatten
def encAs (l : List AD) : List UInt8 := (l.map encA).flatten
theorem encCs_next (l : List CT) {j : Nat} (h : j < l.length) : encCs (l.take (j + 1)) = encCs (l.take j) ++ encC l[j] := by
  unfold encCs
  rw [List.take_succ_eq_append_getElem h, List.map_append, List.flatten_append]
  simp
theorem encAs_next (l : List AD) {j : Nat} (h : j < l.length) : encAs (l.take (j + 1)) = encAs (l.take j) ++ encA l[j] := by
  unfold encAs
  rw [List.take_succ_eq_append_getElem h, List.map_append, List.flatten_append]
  simp
/-- What Encode gives. -/
def EncIs (B : Nat) (l : List CT) (e : Ending) (w : World) : Prop :=
  (subS l = 0 ∧ ∃ a n c, e = .returned (.tuple #[.slice a n c, .int .i64 0]) ∧ n = (encS l).length ∧ BS B (.slice a n c) (encS l) w) ∨
  (subS l ≠ 0 ∧ e = .returned (.tuple #[.slice none 0 0, .int .i64 (subS l)]))
theorem own3x {w : World} {n : Nat} {x0 x1 x2 : Value} {t : TypeId} (h : Own w n #[x0, x1, x2] t) : w.cell? ⟨n, 0, none⟩ = some x0 ∧ w.cell? ⟨n, 1, none⟩ = some x1 ∧ w.cell? ⟨n, 2, none⟩ = some x2 := ⟨h.cell 0, h.cell 1, h.cell 2⟩
theorem own5x {w : World} {n : Nat} {x0 x1 x2 x3 x4 : Value} {t : TypeId} (h : Own w n #[x0, x1, x2, x3, x4] t) :
    w.cell? ⟨n, 0, none⟩ = some x0 ∧ w.cell? ⟨n, 1, none⟩ = some x1 ∧ w.cell? ⟨n, 2, none⟩ = some x2 ∧ w.cell? ⟨n, 3, none⟩ = some x3 ∧ w.cell? ⟨n, 4, none⟩ = some x4 := ⟨h.cell 0, h.cell 1, h.cell 2, h.cell 3, h.cell 4⟩
theorem kind_few {t : ByteArray} (h : t.size ≤ 32) : (putT t.data.toList).length ≤ 42 := by
  have h1 := putT_few (s := t.data.toList) (by simp; omega)
  have e : t.data.toList.length = t.size := by simp
  omega
theorem aftB {w u : World} {l : List UInt8} {x : Value} {B : Nat} (h : BS B x l w) (hb : Aft w u) : BS B x l u := h.below hb

set_option maxRecDepth 100000 in
set_option maxHeartbeats 16000000 in
theorem encode_any (l : List CT) (va : Option Addr) (n vc : Nat) (w : World) (h : SAt w.cell? (.slice va n vc) l) (hT : STabs w) :
    Calls Tryz.prog 31 #[.agg #[.slice va n vc]] w fun e w' => EncIs w.heap.size l e w' ∧ Below w.heap.size w w' := by
  have hn := (len_of h.rows).1
  simp only [List.length_map] at hn
  have hb0 : Below w.heap.size w (w.alloc (.cells #[.slice va n vc] 24)) := (Below.refl _ _).alloc (Nat.le_refl _) _
  have hSx := Lib.hid (Own.new w #[.slice va n vc] 24)
  have hA := Lib.hid (h.mono (sub_of_below hb0))
  have hChk := Lib.hid (scheck_any l va n vc _ hA.out (hT.below hb0))
  replace hb0 := Lib.hid hb0
  replace hn := Lib.hid hn
  clear h hT
  go_enter Tryz.func31, Tryz.ntmps31
  go_wp2_with fail
  generalize w.alloc (.cells #[.slice va n vc] 24) = w0 at hb0 hSx hA hChk ⊢
  obtain ⟨gs, hgs⟩ : ∃ g : Nat, Hid (g = w.heap.size) := ⟨_, Lib.hid rfl⟩
  rw [← hgs.out] at hSx ⊢
  refine hChk.out.mono ?_
  clear hChk
  rintro e w1 ⟨rfl, hb1⟩
  have hS1 := Lib.hid (hSx.out.below hb1 hSx.out.lt)
  have hA1 := Lib.hid (hA.out.mono (sub_of_below hb1))
  have hB1 := Lib.hid (hb0.out.trans (hb1.mono hb0.out.size))
  have s0 := hS1.out.cell 0
  simp only [List.getElem?_toArray, List.getElem?_cons_zero] at s0
  have hsl := hS1.out.lt
  have hz1 := hB1.out.size
  clear hb1 hb0 hSx hA
  by_cases hs : subS l = 0
  case neg =>
    obtain ⟨z, hz⟩ : ∃ z, subS l = z := ⟨_, rfl⟩
    rw [hz] at hs ⊢
    have hs' : (z == 0) = false := by simpa using hs
    replace hz := Lib.hid hz
    go_wp2
    go_ret2
    exact ⟨Or.inr ⟨by rw [hz.out]; exact hs, by rw [hz.out]; rfl⟩, hB1.out⟩
  rw [hs]
  obtain ⟨h4, hall⟩ := sub_all hs
  have hn4 : n ≤ 4 := by rw [hn.out]; exact h4
  have hpk := putN_few (n := ((n : Nat) : Int)) (by omega) (by omega)
  have hP := Lib.hid (putN_any none 0 0 [] ((n : Nat) : Int) w1 (BV.nil _) (by omega) (by omega) (by omega))
  have hES : encS l = putN ((n : Nat) : Int) ++ encCs l := by unfold encS encCs; rw [hn.out]
  obtain ⟨E0, hE0⟩ : ∃ E, Hid (putN ((n : Nat) : Int) = E) := ⟨_, Lib.hid rfl⟩
  rw [hE0.out] at hpk hP hES
  replace hES := Lib.hid hES
  replace hs := Lib.hid hs
  replace hall := Lib.hid hall
  clear h4
  go_wp2_with fail
  refine hP.out.mono ?_
  clear hP
  rintro e w2 ⟨⟨a2, n2, c2, rfl, hn2, hB2⟩, hb2⟩
  rw [List.nil_append] at hn2 hB2
  have hS2 := Lib.hid (hS1.out.below hb2 hS1.out.lt)
  have hA2 := Lib.hid (hA1.out.mono (sub_of_below hb2))
  have hB2' := Lib.hid (hB1.out.trans (hb2.mono hB1.out.size))
  have hO2 := Lib.hid (bs_low hB2 hz1)
  have hn2' : n2 ≤ 10 := by omega
  clear s0 hsl
  have s0 := hS2.out.cell 0
  simp only [List.getElem?_toArray, List.getElem?_cons_zero] at s0
  have hsl := hS2.out.lt
  have hz2 := hB2'.out.size
  replace hn2 := Lib.hid hn2
  replace hE0 := Lib.hid hE0
  replace hpk := Lib.hid hpk
  clear hb2 hB2 hS1 hA1 hB1
  go_wp2_with fail
  go_loopw [5, 22] (fun s5 s22 wr => ∃ (i : Nat) (vb : Option Addr) (r vd : Nat), i ≤ n ∧ s22 = .int .i64 i ∧ s5 = .slice vb r vd ∧ r ≤ 10 + 85502 * i ∧ Hid (r = (E0 ++ encCs (l.take i)).length) ∧ Hid (OwnB w.heap.size (.slice vb r vd) (E0 ++ encCs (l.take i)) wr) ∧ Hid (Below w2.heap.size w2 wr)) (fun s5 s22 _ => n - (intOf s22).toNat)
  case atStart => exact ⟨0, _, _, _, by omega, rfl, rfl, by omega, Lib.hid (by rw [List.take_zero]; unfold encCs; simpa using hn2.out), Lib.hid (by rw [List.take_zero]; unfold encCs; simpa using hO2.out), Lib.hid (Below.refl _ _)⟩
  case round =>
    obtain ⟨i, vb, r, vd, hi, rfl, rfl, hr, hrn, hB, hy⟩ := hrel
    have hbr := Lib.hid (hB2'.out.trans (hy.out.mono hz2))
    have hSr := hS2.out.below hy.out hS2.out.lt
    clear s0 hsl
    have s0 := hSr.cell 0
    simp only [List.getElem?_toArray, List.getElem?_cons_zero] at s0
    have hsl := hSr.lt
    have hzr := hbr.out.size
    by_cases hlt : i < n
    case neg =>
      obtain rfl : i = n := by omega
      have hfull : l.take i = l := List.take_of_length_le (Nat.le_of_eq hn.out.symm)
      rw [hfull, ← hES.out] at hrn hB
      go_wp2
      go_ret2
      exact ⟨Or.inl ⟨hs.out, _, _, _, rfl, hrn.out, hB.out⟩, hbr.out⟩
    have hil : i < l.length := by rw [← hn.out]; exact hlt
    obtain ⟨blk, off, rfl, -, -, c0, c1, c2⟩ := ct_at (hA2.out.rows.mono (sub_of_below hy.out)) hil
    have hC := (hA2.out.each l[i] (List.getElem_mem hil)).mono (sub_of_below hy.out)
    have hnext := Lib.hid (encCs_next l hil)
    have hok := hall.out l[i] (List.getElem_mem hil)
    generalize l[i] = ct at c0 c1 c2 hC hnext hok
    obtain ⟨kd, ky, cp, cl, cc, ca⟩ := ct
    simp only at c0 c1 c2 hok
    have hkd := key_small hok.1
    have hky := valid_size hok.2.2.1
    have hat := attr_all hok.2.2.2
    have hkz : kd.size ≤ 32 := by simpa using hkd
    have hyz : ky.size ≤ 200 := by simpa using hky
    have hpk1 := kind_few hkz
    have hpk2 := few210 hyz
    have hcl : cl = ca.length := by have := (len_of hC.rows).1; simpa using this
    have hcl20 : cl ≤ 20 := by rw [hcl]; exact hat.1
    have hpk3 := putN_few (n := ((cl : Nat) : Int)) (by omega) (by omega)
    have n0 : (0 : Int) ≤ (i : Int) := by omega
    have n1 : (i : Int) < (n : Int) := by omega
    replace hat := Lib.hid hat.2
    have hbx : Below wr.heap.size wr (wr.alloc (.cells #[.string kd, .string ky, .slice cp cl cc] 37)) := (Below.refl _ _).alloc (Nat.le_refl _) _
    have hX := Lib.hid (Own.new wr #[.string kd, .string ky, .slice cp cl cc] 37)
    have hyx := Lib.hid (hy.out.trans (hbx.mono hy.out.size))
    have hBx := Lib.hid (hB.out.below hbx)
    have hSr' := Lib.hid (hSr.below hbx hSr.lt)
    have hCx := Lib.hid (hC.mono (sub_of_below hbx))
    have hEC : encC ⟨kd, ky, cp, cl, cc, ca⟩ = putT kd.data.toList ++ (putT ky.data.toList ++ (putN ((cl : Nat) : Int) ++ encAs ca)) := by unfold encC encAs; rw [hcl]
    obtain ⟨Y, hY⟩ : ∃ Y, Hid (E0 ++ encCs (l.take i) = Y) := ⟨_, Lib.hid rfl⟩
    have hnx : Hid (E0 ++ encCs (l.take (i + 1)) = (((Y ++ putT kd.data.toList) ++ putT ky.data.toList) ++ putN ((cl : Nat) : Int)) ++ encAs ca) := Lib.hid (by rw [hnext.out, hEC, ← hY.out]; simp only [List.append_assoc])
    rw [hY.out] at hrn hBx
    replace hcl := Lib.hid hcl
    clear hbx hEC hok hnext hB hSr hC hY hkd hky
    go_wp2_with fail
    generalize wr.alloc (.cells #[.string kd, .string ky, .slice cp cl cc] 37) = wx at hX hyx hBx hSr' hCx ⊢
    obtain ⟨gc, hgc⟩ : ∃ g : Nat, g = wr.heap.size := ⟨_, rfl⟩
    rw [← hgc] at hX ⊢
    clear hgc c0 c1 c2 s0 hsl hy hbr
    obtain ⟨x0, x1, x2⟩ := own3x hX.out
    have hzx : w.heap.size ≤ wx.heap.size := Nat.le_trans hz2 hyx.out.size
    go_cut [5] (fun t5 wy => ∃ (a6 : Option Addr) (n6 c6 : Nat), t5 = .slice a6 n6 c6 ∧ n6 ≤ r + 252 ∧ Hid (n6 = ((Y ++ putT kd.data.toList) ++ putT ky.data.toList).length) ∧ Hid (OwnB w.heap.size (.slice a6 n6 c6) ((Y ++ putT kd.data.toList) ++ putT ky.data.toList) wy) ∧ Hid (Aft wx wy))
    case first =>
      have hKp : Hid (∀ u, Aft wx u → u.cell? ⟨gc, 0, none⟩ = some (.string kd) ∧ u.cell? ⟨gc, 1, none⟩ = some (.string ky)) :=
        Lib.hid fun u hb => ⟨cell_later hb x0, cell_later hb x1⟩
      have cA : Hid (∀ (u : World) (hb : Aft wx u), Calls Tryz.prog 69 #[.slice vb r vd, .string kd] u fun e u' => OutB u.heap.size (Y ++ putT kd.data.toList) e u' ∧ Aft u u') :=
        Lib.hid (fun u hb => putT_any vb r vd Y kd u (bv_of_bs (hBx.out.below hb)) (by omega) (by omega))
      have hl1 : (Y ++ putT kd.data.toList).length ≤ r + 42 := by rw [List.length_append, ← hrn.out]; omega
      have hl2 : ((Y ++ putT kd.data.toList) ++ putT ky.data.toList).length ≤ r + 252 := by rw [List.length_append]; omega
      replace hl1 := Lib.hid hl1
      replace hl2 := Lib.hid hl2
      clear x0 x1 x2
      go_region_held3 (fun u => u.cell? ⟨gc, 0, none⟩ = some (.string kd) ∧ u.cell? ⟨gc, 1, none⟩ = some (.string ky))
        (exact hKp.out _ (by repeat (first | assumption | exact Aft.refl _ | apply Aft.dr | apply Aft.alloc)))
        ((first | (go_at_call 69; (with_reducible refine (cA.out _ (by repeat (first | assumption | exact Aft.refl _ | apply Aft.dr | apply Aft.alloc))).mono ?_); rintro e u1 ⟨⟨a3, n3, c3, rfl, hn3, hB3⟩, hz0⟩; have hz1 : Aft wx u1 := Aft.next hz0 (by repeat (first | assumption | exact Aft.refl _ | apply Aft.dr | apply Aft.alloc)); have hlo1 : w.heap.size ≤ u1.heap.size := Nat.le_trans hzx hz1.size; have hn3l : n3 ≤ r + 42 := Nat.le_trans (Nat.le_of_eq hn3) hl1.out; have hB3c := bv_of_bs hB3; have cB : Hid (∀ (u : World) (hb : Aft u1 u), Calls Tryz.prog 69 #[.slice a3 n3 c3, .string ky] u fun e u' => OutB u.heap.size ((Y ++ putT kd.data.toList) ++ putT ky.data.toList) e u' ∧ Aft u u') := Lib.hid (fun u hb => putT_any a3 n3 c3 _ ky u (hB3c.mono (sub_of_below hb)) (by omega) (by omega)); replace hB3 := Lib.hid hB3; replace hn3 := Lib.hid hn3; replace hB3c := Lib.hid hB3c) | (go_at_call 69; (with_reducible refine (cB.out _ (by repeat (first | assumption | exact Aft.refl _ | apply Aft.dr | apply Aft.alloc))).mono ?_); rintro e u2 ⟨⟨a4, n4, c4, rfl, hn4', hB4'⟩, hz2'⟩; have hz3 : Aft u1 u2 := Aft.next hz2' (by repeat (first | assumption | exact Aft.refl _ | apply Aft.dr | apply Aft.alloc)); have hz4 : Aft wx u2 := Aft.next hz3 hz1; have hlo2 : w.heap.size ≤ u2.heap.size := Nat.le_trans hzx hz4.size; have hn4l : n4 ≤ r + 252 := Nat.le_trans (Nat.le_of_eq hn4') hl2.out; replace hB4' := Lib.hid hB4'; replace hn4' := Lib.hid hn4')))
      all_goals
        go_wp2
        go_meet
        exact ⟨_, _, _, rfl, hn4l, hn4', Lib.hid (bs_low hB4'.out (Nat.le_trans hzx (Below.size (B := wx.heap.size) (w := wx) (by repeat (first | assumption | exact Aft.refl _ | apply Aft.dr | apply Aft.alloc))))), Lib.hid hz4⟩
    case rest =>
      obtain ⟨a6, n6, c6, rfl, hn6l, hn6, hB6, hzc⟩ := hcut
      have hXc := hX.out.below hzc.out hX.out.lt
      have hyc := Lib.hid (hyx.out.trans (hzc.out.mono hyx.out.size))
      have hSc := hSr'.out.below hzc.out hSr'.out.lt
      have hCc := Lib.hid (hCx.out.mono (sub_of_below hzc.out))
      clear x0 x1 x2
      obtain ⟨x0, x1, x2⟩ := own3x hXc
      have hxl := hXc.lt
      have hzc2 : w.heap.size ≤ wc.heap.size := Nat.le_trans hz2 hyc.out.size
      have hPn := Lib.hid (putN_any a6 n6 c6 _ ((cl : Nat) : Int) wc (bv_of_bs hB6.out) (by omega) (by omega) (by omega))
      have hl3 : (((Y ++ putT kd.data.toList) ++ putT ky.data.toList) ++ putN ((cl : Nat) : Int)).length ≤ n6 + 10 := by rw [List.length_append, ← hn6.out]; omega
      obtain ⟨L1, hL1⟩ : ∃ L, Hid ((((Y ++ putT kd.data.toList) ++ putT ky.data.toList) ++ putN ((cl : Nat) : Int)) = L) := ⟨_, Lib.hid rfl⟩
      rw [hL1.out] at hPn hnx hl3
      replace hXc := Lib.hid hXc
      replace hSc := Lib.hid hSc
      clear hn6 hB6 hzc hX hyx hBx hSr' hCx hL1 hpk1 hpk2 hpk3
      go_wp2_with fail
      refine hPn.out.mono ?_
      clear hPn
      rintro e w4 ⟨⟨a7, n7, c7, rfl, hn7, hB7⟩, hb7⟩
      have hn7l : n7 ≤ r + 262 := by omega
      have hX4 := Lib.hid (hXc.out.below hb7 hXc.out.lt)
      have hy4 := Lib.hid (hyc.out.trans (hb7.mono hyc.out.size))
      have hS4 := Lib.hid (hSc.out.below hb7 hSc.out.lt)
      have hC4 := Lib.hid (hCc.out.mono (sub_of_below hb7))
      have hO4 := Lib.hid (bs_low hB7 hzc2)
      replace hn7 := Lib.hid hn7
      clear hb7 hB7 x0 x1 x2 hxl hXc hyc hSc hCc hl3
      obtain ⟨x0, x1, x2⟩ := own3x hX4.out
      have hxl := hX4.out.lt
      have hz4 : w.heap.size ≤ w4.heap.size := Nat.le_trans hz2 hy4.out.size
      go_wp2_with fail
      go_loopw [5, 41] (fun s5 s41 wq => ∃ (j : Nat) (ve : Option Addr) (q vf : Nat), j ≤ cl ∧ s41 = .int .i64 j ∧ s5 = .slice ve q vf ∧ q ≤ r + 262 + 4262 * j ∧ Hid (q = (L1 ++ encAs (ca.take j)).length) ∧ Hid (OwnB w.heap.size (.slice ve q vf) (L1 ++ encAs (ca.take j)) wq) ∧ Hid (Below w4.heap.size w4 wq)) (fun s5 s41 _ => cl - (intOf s41).toNat)
      case atStart => exact ⟨0, _, _, _, by omega, rfl, rfl, by omega, Lib.hid (by rw [List.take_zero]; unfold encAs; simpa using hn7.out), Lib.hid (by rw [List.take_zero]; unfold encAs; simpa using hO4.out), Lib.hid (Below.refl _ _)⟩
      case round =>
        obtain ⟨j, ve, q, vf, hj, rfl, rfl, hq, hqn, hBq, hyq⟩ := hrel
        have hXq := hX4.out.below hyq.out hX4.out.lt
        clear x0 x1 x2 hxl
        obtain ⟨x0, x1, x2⟩ := own3x hXq
        have hxl := hXq.lt
        by_cases hjlt : j < cl
        case neg =>
          obtain rfl : j = cl := by omega
          have hfull : ca.take j = ca := List.take_of_length_le (Nat.le_of_eq hcl.out.symm)
          rw [hfull, ← hnx.out] at hqn hBq
          have hyn := Lib.hid (hy4.out.trans (hyq.out.mono hy4.out.size))
          have hrq : q ≤ 10 + 85502 * (i + 1) := by omega
          go_wp2
          go_roundw
          case rel => exact ⟨i + 1, _, _, _, by omega, by go_num, rfl, hrq, hqn, hBq, hyn⟩
          case measure => simp [intOf]; omega
        have hjl : j < ca.length := by rw [← hcl.out]; exact hjlt
        obtain ⟨blk2, off2, e2, d0, d1, d2, d3, d4⟩ := ad_at (hC4.out.rows.mono (sub_of_below hyq.out)) hjl
        simp only at e2
        subst e2
        have hLv := (hC4.out.each ca[j] (List.getElem_mem hjl)).mono (sub_of_below hyq.out)
        have hnextA := Lib.hid (encAs_next ca hjl)
        have hokA := hat.out ca[j] (List.getElem_mem hjl)
        generalize ca[j] = ad at d0 d1 d2 d3 d4 hLv hnextA hokA
        obtain ⟨xn, xk, xm, xt, xp, xl, xc, xls⟩ := ad
        simp only at d0 d1 d2 d3 d4 hLv hokA
        have hEA : (encA ⟨xn, xk, xm, xt, xp, xl, xc, xls⟩).length ≤ 4262 := encA_few hokA.1 hokA.2
        have hEA2 : encA ⟨xn, xk, xm, xt, xp, xl, xc, xls⟩ = putT xn.data.toList ++ encV ⟨xk, xm, xt, xp, xl, xc, xls⟩ := rfl
        have hpk4 := kind_few (t := xn) hokA.1
        have hnm : xn.size ≤ 32 := hokA.1
        obtain ⟨Z, hZ⟩ : ∃ Z, Hid (L1 ++ encAs (ca.take j) = Z) := ⟨_, Lib.hid rfl⟩
        have hnxA : Hid (L1 ++ encAs (ca.take (j + 1)) = (Z ++ putT xn.data.toList) ++ encV ⟨xk, xm, xt, xp, xl, xc, xls⟩) := Lib.hid (by rw [hnextA.out, hEA2, ← hZ.out]; simp only [List.append_assoc])
        rw [hZ.out] at hqn hBq
        have hfin : (L1 ++ encAs (ca.take (j + 1))).length ≤ r + 262 + 4262 * (j + 1) := by rw [hnextA.out, ← List.append_assoc, hZ.out, List.length_append, ← hqn.out]; omega
        replace hfin := Lib.hid hfin
        replace hokA := Lib.hid hokA.2
        have m0 : (0 : Int) ≤ (j : Int) := by omega
        have m1 : (j : Int) < (cl : Int) := by omega
        clear hEA hEA2 hnextA hZ
        have hbx : Below wr.heap.size wr (wr.alloc (.cells #[.string xn, .int .i64 xk, .int .i64 xm, .string xt, .slice xp xl xc] 79)) := (Below.refl _ _).alloc (Nat.le_refl _) _
        have hV := Lib.hid (Own.new wr #[.string xn, .int .i64 xk, .int .i64 xm, .string xt, .slice xp xl xc] 79)
        have hyv := Lib.hid (hyq.out.trans (hbx.mono hyq.out.size))
        have hBv := Lib.hid (hBq.out.below hbx)
        have hLx := Lib.hid (hLv.mono (sub_of_below hbx))
        clear hbx hBq hXq hLv
        go_wp2_with fail
        generalize wr.alloc (.cells #[.string xn, .int .i64 xk, .int .i64 xm, .string xt, .slice xp xl xc] 79) = wv at hV hyv hBv hLx ⊢
        obtain ⟨ga, hga⟩ : ∃ g : Nat, g = wr.heap.size := ⟨_, rfl⟩
        rw [← hga] at hV ⊢
        clear hga d0 d1 d2 d3 d4 x0 x1 x2 hxl hyq
        obtain ⟨v0, v1, v2, v3, v4⟩ := own5x hV.out
        have hzv : w.heap.size ≤ wv.heap.size := Nat.le_trans hz4 hyv.out.size
        have hKp : Hid (∀ u, Aft wv u → u.cell? ⟨ga, 0, none⟩ = some (.string xn) ∧ u.cell? ⟨ga, 1, none⟩ = some (.int .i64 xk) ∧ u.cell? ⟨ga, 2, none⟩ = some (.int .i64 xm) ∧ u.cell? ⟨ga, 3, none⟩ = some (.string xt) ∧ u.cell? ⟨ga, 4, none⟩ = some (.slice xp xl xc)) :=
          Lib.hid fun u hb => ⟨cell_later hb v0, cell_later hb v1, cell_later hb v2, cell_later hb v3, cell_later hb v4⟩
        have cA : Hid (∀ (u : World) (hb : Aft wv u), Calls Tryz.prog 69 #[.slice ve q vf, .string xn] u fun e u' => OutB u.heap.size (Z ++ putT xn.data.toList) e u' ∧ Aft u u') :=
          Lib.hid (fun u hb => putT_any ve q vf Z xn u (bv_of_bs (hBv.out.below hb)) (by omega) (by omega))
        have hl1 : (Z ++ putT xn.data.toList).length ≤ q + 42 := by rw [List.length_append, ← hqn.out]; omega
        replace hl1 := Lib.hid hl1
        clear v0 v1 v2 v3 v4
        go_region_held3 (fun u => u.cell? ⟨ga, 0, none⟩ = some (.string xn) ∧ u.cell? ⟨ga, 1, none⟩ = some (.int .i64 xk) ∧ u.cell? ⟨ga, 2, none⟩ = some (.int .i64 xm) ∧ u.cell? ⟨ga, 3, none⟩ = some (.string xt) ∧ u.cell? ⟨ga, 4, none⟩ = some (.slice xp xl xc))
          (exact hKp.out _ (by repeat (first | assumption | exact Aft.refl _ | apply Aft.dr | apply Aft.alloc)))
          ((first | (go_at_call 69; (with_reducible refine (cA.out _ (by repeat (first | assumption | exact Aft.refl _ | apply Aft.dr | apply Aft.alloc))).mono ?_); rintro e u1 ⟨⟨a3, n3, c3, rfl, hn3, hB3⟩, hz0⟩; have hz1 : Aft wv u1 := Aft.next hz0 (by repeat (first | assumption | exact Aft.refl _ | apply Aft.dr | apply Aft.alloc)); have hn3l : n3 ≤ q + 42 := Nat.le_trans (Nat.le_of_eq hn3) hl1.out; have hB3c := bv_of_bs hB3; have cB : Hid (∀ (u : World) (hb : Aft u1 u), Calls Tryz.prog 70 #[.slice a3 n3 c3, .agg #[.int .i64 xk, .int .i64 xm, .string xt, .slice xp xl xc]] u fun e u' => OutB u.heap.size ((Z ++ putT xn.data.toList) ++ encV ⟨xk, xm, xt, xp, xl, xc, xls⟩) e u' ∧ Aft u u') := Lib.hid (fun u hb => putV_any xk xm xt xp xl xc xls a3 n3 c3 _ u (hB3c.mono (sub_of_below hb)) (by omega) hokA.out (hLx.out.mono (sub_of_below (Aft.next hb hz1)))); replace hB3 := Lib.hid hB3; replace hn3 := Lib.hid hn3; replace hB3c := Lib.hid hB3c) | (go_at_call 70; (with_reducible refine (cB.out _ (by repeat (first | assumption | exact Aft.refl _ | apply Aft.dr | apply Aft.alloc))).mono ?_); rintro e u2 ⟨⟨a4, n4, c4, rfl, hn4', hB4'⟩, hz2'⟩; have hz3 : Aft u1 u2 := Aft.next hz2' (by repeat (first | assumption | exact Aft.refl _ | apply Aft.dr | apply Aft.alloc)); have hz4x : Aft wv u2 := Aft.next hz3 hz1; replace hB4' := Lib.hid hB4'; replace hn4' := Lib.hid hn4')))
        all_goals
          have hB6 := Lib.hid (bs_low hB4'.out (Nat.le_trans hzv (Below.size (B := wv.heap.size) (w := wv) (by repeat (first | assumption | exact Aft.refl _ | apply Aft.dr | apply Aft.alloc)))))
          have hyn := Lib.hid (hyv.out.trans (Below.mono hz4x hyv.out.size))
          rw [← hnxA.out] at hn4' hB6
          have hn6l : n4 ≤ r + 262 + 4262 * (j + 1) := Nat.le_trans (Nat.le_of_eq hn4'.out) hfin.out
          go_wp2
          go_roundw
          case rel => exact ⟨j + 1, _, _, _, by omega, by go_num, rfl, hn6l, hn4', hB6, hyn⟩
          case measure => simp [intOf]; omega

end Go.Proofs.YtamkmdlfhlbbeaaGreatDoor.wire

namespace Go.Proofs.YtamkmdlfhlbbeaaGreatDoor.wire
open Go.RowKit Go.Sort Go.Proofs.YtamkmdlfhlbbeaaGreatDoor Go.Proofs.YtamkmdlfhlbbeaaGreatDoor.schema Go.Proofs.YtamkmdlfhlbbeaaGreatDoor.value Go.Proofs.YtamkmdlfhlbbeaaGreatDoor.text Go.Proofs.YtamkmdlfhlbbeaaGreatDoor.clause Go.Proofs.YtamkmdlfhlbbeaaGreatDoor.subj Go.Proofs.YtamkmdlfhlbbeaaGreatDoor.draw

attribute [local go_sem ↓] Go.wp_at_zero Go.wp_at_succ

set_option maxRecDepth 100000 in
set_option maxHeartbeats 16000000 in
theorem encode_ref (l : List CT) (va : Option Addr) (n vc : Nat) (w : World) (h : SAt w.cell? (.slice va n vc) l) (hT : STabs w) (hN : Nm l) :
    Calls Tryz.prog 27 #[.agg #[.slice va n vc]] w fun e w' => EncIs w.heap.size l e w' ∧ Below w.heap.size w w' := by
  have hn := (len_of h.rows).1
  simp only [List.length_map] at hn
  have hb0 : Below w.heap.size w (w.alloc (.cells #[.slice va n vc] 24)) := (Below.refl _ _).alloc (Nat.le_refl _) _
  have hSx := Lib.hid (Own.new w #[.slice va n vc] 24)
  have hA := Lib.hid (h.mono (sub_of_below hb0))
  have hChk := Lib.hid (scheck_ref l va n vc _ hA.out hN (hT.below hb0))
  replace hb0 := Lib.hid hb0
  replace hn := Lib.hid hn
  clear h hT
  go_enter Tryz.func27, Tryz.ntmps27
  go_wp2_with fail
  generalize w.alloc (.cells #[.slice va n vc] 24) = w0 at hb0 hSx hA hChk ⊢
  obtain ⟨gs, hgs⟩ : ∃ g : Nat, Hid (g = w.heap.size) := ⟨_, Lib.hid rfl⟩
  rw [← hgs.out] at hSx ⊢
  refine hChk.out.mono ?_
  clear hChk
  rintro e w1 ⟨rfl, hb1⟩
  have hS1 := Lib.hid (hSx.out.below hb1 hSx.out.lt)
  have hA1 := Lib.hid (hA.out.mono (sub_of_below hb1))
  have hB1 := Lib.hid (hb0.out.trans (hb1.mono hb0.out.size))
  have s0 := hS1.out.cell 0
  simp only [List.getElem?_toArray, List.getElem?_cons_zero] at s0
  have hsl := hS1.out.lt
  have hz1 := hB1.out.size
  clear hb1 hb0 hSx hA
  by_cases hs : subS l = 0
  case neg =>
    obtain ⟨z, hz⟩ : ∃ z, subS l = z := ⟨_, rfl⟩
    rw [hz] at hs ⊢
    have hs' : (z == 0) = false := by simpa using hs
    replace hz := Lib.hid hz
    go_wp2
    go_ret2
    exact ⟨Or.inr ⟨by rw [hz.out]; exact hs, by rw [hz.out]; rfl⟩, hB1.out⟩
  rw [hs]
  obtain ⟨h4, hall⟩ := sub_all hs
  have hn4 : n ≤ 4 := by rw [hn.out]; exact h4
  have hpk := putN_few (n := ((n : Nat) : Int)) (by omega) (by omega)
  have hP := Lib.hid (putN_ref none 0 0 [] ((n : Nat) : Int) w1 (BV.nil _) (by omega) (by omega) (by omega))
  have hES : encS l = putN ((n : Nat) : Int) ++ encCs l := by unfold encS encCs; rw [hn.out]
  obtain ⟨E0, hE0⟩ : ∃ E, Hid (putN ((n : Nat) : Int) = E) := ⟨_, Lib.hid rfl⟩
  rw [hE0.out] at hpk hP hES
  replace hES := Lib.hid hES
  replace hs := Lib.hid hs
  replace hall := Lib.hid hall
  clear h4
  go_wp2_with fail
  refine hP.out.mono ?_
  clear hP
  rintro e w2 ⟨⟨a2, n2, c2, rfl, hn2, hB2⟩, hb2⟩
  rw [List.nil_append] at hn2 hB2
  have hS2 := Lib.hid (hS1.out.below hb2 hS1.out.lt)
  have hA2 := Lib.hid (hA1.out.mono (sub_of_below hb2))
  have hB2' := Lib.hid (hB1.out.trans (hb2.mono hB1.out.size))
  have hO2 := Lib.hid (bs_low hB2 hz1)
  have hn2' : n2 ≤ 10 := by omega
  clear s0 hsl
  have s0 := hS2.out.cell 0
  simp only [List.getElem?_toArray, List.getElem?_cons_zero] at s0
  have hsl := hS2.out.lt
  have hz2 := hB2'.out.size
  replace hn2 := Lib.hid hn2
  replace hE0 := Lib.hid hE0
  replace hpk := Lib.hid hpk
  clear hb2 hB2 hS1 hA1 hB1
  go_wp2_with fail
  go_loopw [5, 6] (fun s5 s6 wr => ∃ (i : Nat) (vb : Option Addr) (r vd : Nat), i ≤ n ∧ s6 = .int .i64 i ∧ s5 = .slice vb r vd ∧ r ≤ 10 + 85502 * i ∧ Hid (r = (E0 ++ encCs (l.take i)).length) ∧ Hid (OwnB w.heap.size (.slice vb r vd) (E0 ++ encCs (l.take i)) wr) ∧ Hid (Below w2.heap.size w2 wr)) (fun s5 s6 _ => n - (intOf s6).toNat)
  case atStart => exact ⟨0, _, _, _, by omega, rfl, rfl, by omega, Lib.hid (by rw [List.take_zero]; unfold encCs; simpa using hn2.out), Lib.hid (by rw [List.take_zero]; unfold encCs; simpa using hO2.out), Lib.hid (Below.refl _ _)⟩
  case round =>
    obtain ⟨i, vb, r, vd, hi, rfl, rfl, hr, hrn, hB, hy⟩ := hrel
    have hbr := Lib.hid (hB2'.out.trans (hy.out.mono hz2))
    have hSr := hS2.out.below hy.out hS2.out.lt
    clear s0 hsl
    have s0 := hSr.cell 0
    simp only [List.getElem?_toArray, List.getElem?_cons_zero] at s0
    have hsl := hSr.lt
    have hzr := hbr.out.size
    by_cases hlt : i < n
    case neg =>
      obtain rfl : i = n := by omega
      have hfull : l.take i = l := List.take_of_length_le (Nat.le_of_eq hn.out.symm)
      rw [hfull, ← hES.out] at hrn hB
      go_wp2
      go_ret2
      exact ⟨Or.inl ⟨hs.out, _, _, _, rfl, hrn.out, hB.out⟩, hbr.out⟩
    have hil : i < l.length := by rw [← hn.out]; exact hlt
    obtain ⟨blk, off, rfl, -, -, c0, c1, c2⟩ := ct_at (hA2.out.rows.mono (sub_of_below hy.out)) hil
    have hC := (hA2.out.each l[i] (List.getElem_mem hil)).mono (sub_of_below hy.out)
    have hnext := Lib.hid (encCs_next l hil)
    have hok := hall.out l[i] (List.getElem_mem hil)
    generalize l[i] = ct at c0 c1 c2 hC hnext hok
    obtain ⟨kd, ky, cp, cl, cc, ca⟩ := ct
    simp only at c0 c1 c2 hok
    have hkd := key_small hok.1
    have hky := valid_size hok.2.2.1
    have hat := attr_all hok.2.2.2
    have hkz : kd.size ≤ 32 := by simpa using hkd
    have hyz : ky.size ≤ 200 := by simpa using hky
    have hpk1 := kind_few hkz
    have hpk2 := few210 hyz
    have hcl : cl = ca.length := by have := (len_of hC.rows).1; simpa using this
    have hcl20 : cl ≤ 20 := by rw [hcl]; exact hat.1
    have hpk3 := putN_few (n := ((cl : Nat) : Int)) (by omega) (by omega)
    have n0 : (0 : Int) ≤ (i : Int) := by omega
    have n1 : (i : Int) < (n : Int) := by omega
    replace hat := Lib.hid hat.2
    have hbx : Below wr.heap.size wr (wr.alloc (.cells #[.string kd, .string ky, .slice cp cl cc] 37)) := (Below.refl _ _).alloc (Nat.le_refl _) _
    have hX := Lib.hid (Own.new wr #[.string kd, .string ky, .slice cp cl cc] 37)
    have hyx := Lib.hid (hy.out.trans (hbx.mono hy.out.size))
    have hBx := Lib.hid (hB.out.below hbx)
    have hSr' := Lib.hid (hSr.below hbx hSr.lt)
    have hCx := Lib.hid (hC.mono (sub_of_below hbx))
    have hEC : encC ⟨kd, ky, cp, cl, cc, ca⟩ = putT kd.data.toList ++ (putT ky.data.toList ++ (putN ((cl : Nat) : Int) ++ encAs ca)) := by unfold encC encAs; rw [hcl]
    obtain ⟨Y, hY⟩ : ∃ Y, Hid (E0 ++ encCs (l.take i) = Y) := ⟨_, Lib.hid rfl⟩
    have hnx : Hid (E0 ++ encCs (l.take (i + 1)) = (((Y ++ putT kd.data.toList) ++ putT ky.data.toList) ++ putN ((cl : Nat) : Int)) ++ encAs ca) := Lib.hid (by rw [hnext.out, hEC, ← hY.out]; simp only [List.append_assoc])
    rw [hY.out] at hrn hBx
    replace hcl := Lib.hid hcl
    clear hbx hEC hok hnext hB hSr hC hY hkd hky
    go_wp2_with fail
    generalize wr.alloc (.cells #[.string kd, .string ky, .slice cp cl cc] 37) = wx at hX hyx hBx hSr' hCx ⊢
    obtain ⟨gc, hgc⟩ : ∃ g : Nat, g = wr.heap.size := ⟨_, rfl⟩
    rw [← hgc] at hX ⊢
    clear hgc c0 c1 c2 s0 hsl hy hbr
    obtain ⟨x0, x1, x2⟩ := own3x hX.out
    have hzx : w.heap.size ≤ wx.heap.size := Nat.le_trans hz2 hyx.out.size
    go_cut [5] (fun t5 wy => ∃ (a6 : Option Addr) (n6 c6 : Nat), t5 = .slice a6 n6 c6 ∧ n6 ≤ r + 262 ∧ Hid (n6 = (((Y ++ putT kd.data.toList) ++ putT ky.data.toList) ++ putN ((cl : Nat) : Int)).length) ∧ Hid (OwnB w.heap.size (.slice a6 n6 c6) (((Y ++ putT kd.data.toList) ++ putT ky.data.toList) ++ putN ((cl : Nat) : Int)) wy) ∧ Hid (Aft wx wy))
    case first =>
      have hKp : Hid (∀ u, Aft wx u → u.cell? ⟨gc, 0, none⟩ = some (.string kd) ∧ u.cell? ⟨gc, 1, none⟩ = some (.string ky) ∧ u.cell? ⟨gc, 2, none⟩ = some (.slice cp cl cc)) :=
        Lib.hid fun u hb => ⟨cell_later hb x0, cell_later hb x1, cell_later hb x2⟩
      have cA : Hid (∀ (u : World) (hb : Aft wx u), Calls Tryz.prog 56 #[.slice vb r vd, .string kd] u fun e u' => OutB u.heap.size (Y ++ putT kd.data.toList) e u' ∧ Aft u u') :=
        Lib.hid (fun u hb => putT_ref vb r vd Y kd u (bv_of_bs (hBx.out.below hb)) (by omega) (by omega))
      have hl1 : (Y ++ putT kd.data.toList).length ≤ r + 42 := by rw [List.length_append, ← hrn.out]; omega
      have hl2 : ((Y ++ putT kd.data.toList) ++ putT ky.data.toList).length ≤ r + 252 := by rw [List.length_append]; omega
      replace hl1 := Lib.hid hl1
      replace hl2 := Lib.hid hl2
      have hl3 : (((Y ++ putT kd.data.toList) ++ putT ky.data.toList) ++ putN ((cl : Nat) : Int)).length ≤ r + 262 := by rw [List.length_append]; have := hl2.out; omega
      replace hl3 := Lib.hid hl3
      clear x0 x1 x2
      go_region_held3 (fun u => u.cell? ⟨gc, 0, none⟩ = some (.string kd) ∧ u.cell? ⟨gc, 1, none⟩ = some (.string ky) ∧ u.cell? ⟨gc, 2, none⟩ = some (.slice cp cl cc))
        (exact hKp.out _ (by repeat (first | assumption | exact Aft.refl _ | apply Aft.dr | apply Aft.alloc)))
        ((first | (go_at_call 56; (with_reducible refine (cA.out _ (by repeat (first | assumption | exact Aft.refl _ | apply Aft.dr | apply Aft.alloc))).mono ?_); rintro e u1 ⟨⟨a3, n3, c3, rfl, hn3, hB3⟩, hz0⟩; have hz1 : Aft wx u1 := Aft.next hz0 (by repeat (first | assumption | exact Aft.refl _ | apply Aft.dr | apply Aft.alloc)); have hlo1 : w.heap.size ≤ u1.heap.size := Nat.le_trans hzx hz1.size; have hn3l : n3 ≤ r + 42 := Nat.le_trans (Nat.le_of_eq hn3) hl1.out; have hB3c := bv_of_bs hB3; have cB : Hid (∀ (u : World) (hb : Aft u1 u), Calls Tryz.prog 56 #[.slice a3 n3 c3, .string ky] u fun e u' => OutB u.heap.size ((Y ++ putT kd.data.toList) ++ putT ky.data.toList) e u' ∧ Aft u u') := Lib.hid (fun u hb => putT_ref a3 n3 c3 _ ky u (hB3c.mono (sub_of_below hb)) (by omega) (by omega)); replace hB3 := Lib.hid hB3; replace hn3 := Lib.hid hn3; replace hB3c := Lib.hid hB3c) | (go_at_call 56; (with_reducible refine (cB.out _ (by repeat (first | assumption | exact Aft.refl _ | apply Aft.dr | apply Aft.alloc))).mono ?_); rintro e u2 ⟨⟨a4, n4, c4, rfl, hn4', hB4'⟩, hz2'⟩; have hz3 : Aft u1 u2 := Aft.next hz2' (by repeat (first | assumption | exact Aft.refl _ | apply Aft.dr | apply Aft.alloc)); have hz4 : Aft wx u2 := Aft.next hz3 hz1; have hlo2 : w.heap.size ≤ u2.heap.size := Nat.le_trans hzx hz4.size; have hn4l : n4 ≤ r + 252 := Nat.le_trans (Nat.le_of_eq hn4') hl2.out; have hB4c := bv_of_bs hB4'; have cC : Hid (∀ (u : World) (hb : Aft u2 u), Calls Tryz.prog 55 #[.slice a4 n4 c4, .int .i64 cl] u fun e u' => OutB u.heap.size (((Y ++ putT kd.data.toList) ++ putT ky.data.toList) ++ putN ((cl : Nat) : Int)) e u' ∧ Aft u u') := Lib.hid (fun u hb => putN_ref a4 n4 c4 _ ((cl : Nat) : Int) u (hB4c.mono (sub_of_below hb)) (by omega) (by omega) (by omega)); replace hB4' := Lib.hid hB4'; replace hn4' := Lib.hid hn4'; replace hB4c := Lib.hid hB4c) | (go_at_call 55; (with_reducible refine (cC.out _ (by repeat (first | assumption | exact Aft.refl _ | apply Aft.dr | apply Aft.alloc))).mono ?_); rintro e u3 ⟨⟨a5, n5, c5, rfl, hn5', hB5'⟩, hz5'⟩; have hz5 : Aft u2 u3 := Aft.next hz5' (by repeat (first | assumption | exact Aft.refl _ | apply Aft.dr | apply Aft.alloc)); have hz6 : Aft wx u3 := Aft.next hz5 hz4; replace hn5' := Lib.hid hn5'; replace hB5' := Lib.hid hB5')))
      all_goals
        go_wp2
        go_meet
        exact ⟨_, _, _, rfl, Nat.le_trans (Nat.le_of_eq hn5'.out) hl3.out, hn5', Lib.hid (bs_low hB5'.out (Nat.le_trans hzx (Below.size (B := wx.heap.size) (w := wx) (by repeat (first | assumption | exact Aft.refl _ | apply Aft.dr | apply Aft.alloc))))), Lib.hid hz6⟩
    case rest =>
      obtain ⟨a7, n7, c7, rfl, hn7l, hn7, hO4, hzc⟩ := hcut
      have hX4 := Lib.hid (hX.out.below hzc.out hX.out.lt)
      have hy4 := Lib.hid (hyx.out.trans (hzc.out.mono hyx.out.size))
      have hS4 := Lib.hid (hSr'.out.below hzc.out hSr'.out.lt)
      have hC4 := Lib.hid (hCx.out.mono (sub_of_below hzc.out))
      obtain ⟨L1, hL1⟩ : ∃ L, Hid ((((Y ++ putT kd.data.toList) ++ putT ky.data.toList) ++ putN ((cl : Nat) : Int)) = L) := ⟨_, Lib.hid rfl⟩
      rw [hL1.out] at hnx hn7 hO4
      clear hzc hX hyx hBx hSr' hCx hL1 hpk1 hpk2 hpk3 x0 x1 x2
      obtain ⟨x0, x1, x2⟩ := own3x hX4.out
      have hxl := hX4.out.lt
      generalize wc = w4 at hX4 hy4 hS4 hC4 hO4 x0 x1 x2 hxl ⊢
      have hz4 : w.heap.size ≤ w4.heap.size := Nat.le_trans hz2 hy4.out.size
      go_wp2_with fail
      go_loopw [5, 8] (fun s5 s8 wq => ∃ (j : Nat) (ve : Option Addr) (q vf : Nat), j ≤ cl ∧ s8 = .int .i64 j ∧ s5 = .slice ve q vf ∧ q ≤ r + 262 + 4262 * j ∧ Hid (q = (L1 ++ encAs (ca.take j)).length) ∧ Hid (OwnB w.heap.size (.slice ve q vf) (L1 ++ encAs (ca.take j)) wq) ∧ Hid (Below w4.heap.size w4 wq)) (fun s5 s8 _ => cl - (intOf s8).toNat)
      case atStart => exact ⟨0, _, _, _, by omega, rfl, rfl, by omega, Lib.hid (by rw [List.take_zero]; unfold encAs; simpa using hn7.out), Lib.hid (by rw [List.take_zero]; unfold encAs; simpa using hO4.out), Lib.hid (Below.refl _ _)⟩
      case round =>
        obtain ⟨j, ve, q, vf, hj, rfl, rfl, hq, hqn, hBq, hyq⟩ := hrel
        have hXq := hX4.out.below hyq.out hX4.out.lt
        clear x0 x1 x2 hxl
        obtain ⟨x0, x1, x2⟩ := own3x hXq
        have hxl := hXq.lt
        by_cases hjlt : j < cl
        case neg =>
          obtain rfl : j = cl := by omega
          have hfull : ca.take j = ca := List.take_of_length_le (Nat.le_of_eq hcl.out.symm)
          rw [hfull, ← hnx.out] at hqn hBq
          have hyn := Lib.hid (hy4.out.trans (hyq.out.mono hy4.out.size))
          have hrq : q ≤ 10 + 85502 * (i + 1) := by omega
          go_wp2
          go_roundw
          case rel => exact ⟨i + 1, _, _, _, by omega, by go_num, rfl, hrq, hqn, hBq, hyn⟩
          case measure => simp [intOf]; omega
        have hjl : j < ca.length := by rw [← hcl.out]; exact hjlt
        obtain ⟨blk2, off2, e2, d0, d1, d2, d3, d4⟩ := ad_at (hC4.out.rows.mono (sub_of_below hyq.out)) hjl
        simp only at e2
        subst e2
        have hLv := (hC4.out.each ca[j] (List.getElem_mem hjl)).mono (sub_of_below hyq.out)
        have hnextA := Lib.hid (encAs_next ca hjl)
        have hokA := hat.out ca[j] (List.getElem_mem hjl)
        generalize ca[j] = ad at d0 d1 d2 d3 d4 hLv hnextA hokA
        obtain ⟨xn, xk, xm, xt, xp, xl, xc, xls⟩ := ad
        simp only at d0 d1 d2 d3 d4 hLv hokA
        have hEA : (encA ⟨xn, xk, xm, xt, xp, xl, xc, xls⟩).length ≤ 4262 := encA_few hokA.1 hokA.2
        have hEA2 : encA ⟨xn, xk, xm, xt, xp, xl, xc, xls⟩ = putT xn.data.toList ++ encV ⟨xk, xm, xt, xp, xl, xc, xls⟩ := rfl
        have hpk4 := kind_few (t := xn) hokA.1
        have hnm : xn.size ≤ 32 := hokA.1
        obtain ⟨Z, hZ⟩ : ∃ Z, Hid (L1 ++ encAs (ca.take j) = Z) := ⟨_, Lib.hid rfl⟩
        have hnxA : Hid (L1 ++ encAs (ca.take (j + 1)) = (Z ++ putT xn.data.toList) ++ encV ⟨xk, xm, xt, xp, xl, xc, xls⟩) := Lib.hid (by rw [hnextA.out, hEA2, ← hZ.out]; simp only [List.append_assoc])
        rw [hZ.out] at hqn hBq
        have hfin : (L1 ++ encAs (ca.take (j + 1))).length ≤ r + 262 + 4262 * (j + 1) := by rw [hnextA.out, ← List.append_assoc, hZ.out, List.length_append, ← hqn.out]; omega
        replace hfin := Lib.hid hfin
        replace hokA := Lib.hid hokA.2
        have m0 : (0 : Int) ≤ (j : Int) := by omega
        have m1 : (j : Int) < (cl : Int) := by omega
        clear hEA hEA2 hnextA hZ
        have hBv := hBq
        have hLx := Lib.hid hLv
        have hyv := hyq
        have hzv : w.heap.size ≤ wr.heap.size := Nat.le_trans hz4 hyv.out.size
        replace hXq := Lib.hid hXq
        clear hBq hLv hyq
        go_wp2_with fail
        have hKp : Hid (∀ u, Aft wr u → u.cell? ⟨gc, 2, none⟩ = some (.slice (some ⟨blk2, off2, none⟩) cl cc) ∧ u.cell? ⟨blk2, off2 + j * 5, none⟩ = some (.string xn) ∧ u.cell? ⟨blk2, off2 + j * 5 + 1, none⟩ = some (.int .i64 xk) ∧ u.cell? ⟨blk2, off2 + j * 5 + 2, none⟩ = some (.int .i64 xm) ∧ u.cell? ⟨blk2, off2 + j * 5 + 3, none⟩ = some (.string xt) ∧ u.cell? ⟨blk2, off2 + j * 5 + 4, none⟩ = some (.slice xp xl xc)) :=
          Lib.hid fun u hb => ⟨cell_later hb x2, cell_later hb d0, cell_later hb d1, cell_later hb d2, cell_later hb d3, cell_later hb d4⟩
        have cA : Hid (∀ (u : World) (hb : Aft wr u), Calls Tryz.prog 56 #[.slice ve q vf, .string xn] u fun e u' => OutB u.heap.size (Z ++ putT xn.data.toList) e u' ∧ Aft u u') :=
          Lib.hid (fun u hb => putT_ref ve q vf Z xn u (bv_of_bs (hBv.out.below hb)) (by omega) (by omega))
        have hl1 : (Z ++ putT xn.data.toList).length ≤ q + 42 := by rw [List.length_append, ← hqn.out]; omega
        replace hl1 := Lib.hid hl1
        clear x2 d0 d1 d2 d3 d4 x0 x1 hxl
        go_region_held3 (fun u => u.cell? ⟨gc, 2, none⟩ = some (.slice (some ⟨blk2, off2, none⟩) cl cc) ∧ u.cell? ⟨blk2, off2 + j * 5, none⟩ = some (.string xn) ∧ u.cell? ⟨blk2, off2 + j * 5 + 1, none⟩ = some (.int .i64 xk) ∧ u.cell? ⟨blk2, off2 + j * 5 + 2, none⟩ = some (.int .i64 xm) ∧ u.cell? ⟨blk2, off2 + j * 5 + 3, none⟩ = some (.string xt) ∧ u.cell? ⟨blk2, off2 + j * 5 + 4, none⟩ = some (.slice xp xl xc))
          (exact hKp.out _ (by repeat (first | assumption | exact Aft.refl _ | apply Aft.dr | apply Aft.alloc)))
          ((first | (go_at_call 56; (with_reducible refine (cA.out _ (by repeat (first | assumption | exact Aft.refl _ | apply Aft.dr | apply Aft.alloc))).mono ?_); rintro e u1 ⟨⟨a3, n3, c3, rfl, hn3, hB3⟩, hz0⟩; have hz1 : Aft wr u1 := Aft.next hz0 (by repeat (first | assumption | exact Aft.refl _ | apply Aft.dr | apply Aft.alloc)); have hn3l : n3 ≤ q + 42 := Nat.le_trans (Nat.le_of_eq hn3) hl1.out; have hB3c := bv_of_bs hB3; have cB : Hid (∀ (u : World) (hb : Aft u1 u), Calls Tryz.prog 57 #[.slice a3 n3 c3, .agg #[.int .i64 xk, .int .i64 xm, .string xt, .slice xp xl xc]] u fun e u' => OutB u.heap.size ((Z ++ putT xn.data.toList) ++ encV ⟨xk, xm, xt, xp, xl, xc, xls⟩) e u' ∧ Aft u u') := Lib.hid (fun u hb => putV_ref xk xm xt xp xl xc xls a3 n3 c3 _ u (hB3c.mono (sub_of_below hb)) (by omega) hokA.out (hLx.out.mono (sub_of_below (Aft.next hb hz1)))); replace hB3 := Lib.hid hB3; replace hn3 := Lib.hid hn3; replace hB3c := Lib.hid hB3c) | (go_at_call 57; (with_reducible refine (cB.out _ (by repeat (first | assumption | exact Aft.refl _ | apply Aft.dr | apply Aft.alloc))).mono ?_); rintro e u2 ⟨⟨a4, n4, c4, rfl, hn4', hB4'⟩, hz2'⟩; have hz3 : Aft u1 u2 := Aft.next hz2' (by repeat (first | assumption | exact Aft.refl _ | apply Aft.dr | apply Aft.alloc)); have hz4x : Aft wr u2 := Aft.next hz3 hz1; replace hB4' := Lib.hid hB4'; replace hn4' := Lib.hid hn4')))
        all_goals
          have hB6 := Lib.hid (bs_low hB4'.out (Nat.le_trans hzv (Below.size (B := wr.heap.size) (w := wr) (by repeat (first | assumption | exact Aft.refl _ | apply Aft.dr | apply Aft.alloc)))))
          have hyn := Lib.hid (hyv.out.trans (Below.mono hz4x hyv.out.size))
          rw [← hnxA.out] at hn4' hB6
          have hn6l : n4 ≤ r + 262 + 4262 * (j + 1) := Nat.le_trans (Nat.le_of_eq hn4'.out) hfin.out
          go_wp2
          go_roundw
          case rel => exact ⟨j + 1, _, _, _, by omega, by go_num, rfl, hn6l, hn4', hB6, hyn⟩
          case measure => simp [intOf]; omega

end Go.Proofs.YtamkmdlfhlbbeaaGreatDoor.wire
