/- Which values are valid, or the first error: the program's Check. -/
import Derived.Test.YthnjgbjckggjhaaGreatDoorKValE
namespace Go.Proofs.YthnjgbjckggjhaaGreatDoor.value
open Go.RowKit Go.Proofs.YthnjgbjckggjhaaGreatDoor.text

set_option maxRecDepth 100000 in
set_option maxHeartbeats 4000000 in
theorem check_any (v : VV) (t : ByteArray) (la : Option Addr) (lc : Nat) (ls : List ByteArray) (w : World) (hV : VOk w v t la ls) (hmax : ls.length ≤ 9223372036854775807) (ht : t.size < 4294967281) (hT : Tabs w) :
    Calls Tryz.prog 47 #[.agg #[.int .i64 v.k, .int .i64 v.n, .string t, .slice la ls.length lc]] w fun e w' => e = .returned (.int .i64 (checkS v)) ∧ Below w.heap.size w w' := by
  have hs1 := hV.shape
  replace hT := Lib.hid hT
  replace hV := Lib.hid hV
  have hO := Lib.hid (Own.new w #[.int .i64 v.k, .int .i64 v.n, .string t, .slice la ls.length lc] 42)
  have hB := Lib.hid (show Below w.heap.size w (w.alloc (.cells #[.int .i64 v.k, .int .i64 v.n, .string t, .slice la ls.length lc] 42)) from (Below.refl _ _).alloc (Nat.le_refl _) _)
  go_enter Tryz.func47, Tryz.ntmps47
  by_cases hk : v.k < 1 ∨ 5 < v.k
  · have hQ := Lib.hid (c_kind hk)
    clear hs1
    rcases hk with hk | hk
    all_goals
      go_wp2
      go_ret
      exact ⟨ret_i hQ.out, hB.out⟩
  have hk1 : 1 ≤ v.k := by omega
  have hk5 : v.k ≤ 5 := by omega
  go_wp2_with fail
  refine (shape_any v.k v.n t la ls.length lc _).mono ?_
  rintro e w1 ⟨rfl, hb1⟩
  have hO1' := Lib.hid (hO.out.below hb1 (by simp))
  obtain ⟨c0, c1, c2, c3⟩ := box4 hO1'.out
  have hT1 := Lib.hid ((hT.out.below hB.out).below hb1)
  have hV1 := Lib.hid ((hV.out.below hB.out).below hb1)
  have hB1 := Lib.hid (hB.out.trans (hb1.mono hB.out.size))
  rw [hs1]
  clear hb1 hO hs1 hB hT hV
  cases hsh : shapeS v with
  | false =>
    have hQ := Lib.hid (c_shape hk hsh)
    clear hsh
    go_wp2
    go_ret
    exact ⟨ret_i hQ.out, hB1.out⟩
  | true =>
    rcases (show v.k = 1 ∨ v.k = 2 ∨ v.k = 3 ∨ v.k = 4 ∨ v.k = 5 by omega) with h | h | h | h | h
    · have hQ := Lib.hid (c_1 hsh h)
      clear hsh
      rw [h] at c0
      clear h hk
      by_cases hn : v.n ≠ 0 ∧ v.n ≠ 1
      · rw [if_pos hn] at hQ
        obtain ⟨hn0, hn1⟩ := hn
        have e0 : (v.n != 0) = true := by simp [hn0]
        have e1 : (v.n != 1) = true := by simp [hn1]
        go_wp2
        go_ret
        exact ⟨ret_i hQ.out, hB1.out⟩
      · rw [if_neg hn] at hQ
        have hn : (v.n != 0) = false ∨ ((v.n != 0) = true ∧ (v.n != 1) = false) := by
          by_cases h0 : v.n = 0
          · exact Or.inl (by simp [h0])
          · by_cases h1 : v.n = 1
            · exact Or.inr ⟨by simp [h0], by simp [h1]⟩
            · exact absurd ⟨h0, h1⟩ hn
        rcases hn with e0 | ⟨e0, e1⟩
        all_goals
          go_wp2
          go_ret
          exact ⟨ret_i hQ.out, hB1.out⟩
    · have hQ := Lib.hid (c_2 hsh h)
      clear hsh
      rw [h] at c0
      clear h hk
      by_cases hn : v.n < -1099511627776 ∨ 1099511627776 < v.n
      · rw [if_pos hn] at hQ
        rcases hn with hn | hn
        all_goals
          go_wp2
          go_ret
          exact ⟨ret_i hQ.out, hB1.out⟩
      · rw [if_neg hn] at hQ
        go_wp2
        go_ret
        exact ⟨ret_i hQ.out, hB1.out⟩
    · have hQ := Lib.hid (c_3 hsh h)
      clear hsh
      rw [h] at c0
      clear h hk
      go_wp2_with fail
      refine (valid_any t _ hT1.out.runes).mono ?_
      rintro e w2 ⟨rfl, hb2⟩
      rw [hV1.out.text]
      replace hb2 := Lib.hid (hB1.out.trans (hb2.mono hB1.out.size))
      cases hv : validS v.t with
      | false =>
        rw [hv] at hQ
        clear hv
        go_wp2
        go_ret
        exact ⟨ret_i hQ.out, hb2.out⟩
      | true =>
        rw [hv] at hQ
        clear hv
        go_wp2
        go_ret
        exact ⟨ret_i hQ.out, hb2.out⟩
    · have hQ := Lib.hid (c_4 hsh h)
      clear hsh
      rw [h] at c0
      clear h hk
      go_wp2_with fail
      refine (parts_any t _ ht hT1.out).mono ?_
      rintro e w2 ⟨rfl, hb2⟩
      rw [hV1.out.text]
      have hz2 := hb2.size
      replace hb2 := Lib.hid (hB1.out.trans (hb2.mono hB1.out.size))
      have hz3 := hb2.out.size
      cases hv : verS v.t with
      | none =>
        rw [hv] at hQ
        rw [show verV v.t = .tuple #[.agg #[.int .i64 0, .int .i64 0, .int .i64 0], .bool false] by rw [verV, hv]]
        clear hv
        go_wp2
        go_ret
        exact ⟨ret_i hQ.out, (hb2.out.alloc hz3 _)⟩
      | some x =>
        obtain ⟨x, y, z⟩ := x
        rw [hv] at hQ
        rw [show verV v.t = .tuple #[.agg #[.int .i64 x, .int .i64 y, .int .i64 z], .bool true] by rw [verV, hv]]
        clear hv
        go_wp2
        go_ret
        exact ⟨ret_i hQ.out, (hb2.out.alloc hz3 _)⟩
    · have hQ := Lib.hid (c_5 hsh h)
      clear hsh
      have hO1 := Lib.hid (show Own w1 w.heap.size #[.int .i64 5, .int .i64 v.n, .string t, .slice la ls.length lc] 42 by have := hO1'.out; rw [h] at this; exact this)
      rw [h] at c0
      clear h hk hO1'
      have hll : v.l.length = ls.length := by rw [← hV1.out.list]; simp [lsL]
      have hlen : ls.length ≤ 9223372036854775807 := hmax
      by_cases hlong : 20 < ls.length
      · rw [l_long (l := v.l) (by omega)] at hQ
        clear hll
        go_wp2
        go_ret
        exact ⟨ret_i hQ.out, hB1.out⟩
      have hs : ¬ 20 < (lsL ls).length := by simp [lsL]; omega
      replace hs := Lib.hid hs
      rw [← hV1.out.list] at hQ
      clear hll
      obtain ⟨B, hBq⟩ : ∃ B, Hid (B = w.heap.size) := ⟨_, rfl⟩
      have hL := Lib.hid hV1.out.rows
      go_wp2
      go_loopw [66] (fun i wr => ∃ k : Nat, k ≤ ls.length ∧ i = .int .i64 k ∧ Hid (((lsL ls).drop k).all validS = (lsL ls).all validS) ∧ Hid (Below w1.heap.size w1 wr)) (fun i _ => ls.length - (intOf i).toNat)
      case atStart => exact ⟨0, Nat.zero_le _, rfl, rfl, Below.refl _ _⟩
      case round =>
        obtain ⟨k, hk, rfl, hA, hb⟩ := hrel
        by_cases hlt : k < ls.length
        · rcases hL.out with h0 | ⟨blk, off, rfl, hc⟩
          · rw [h0] at hlt; simp at hlt
          have hcell := sub_of_below hb.out _ _ (hc k hlt)
          clear hc
          cases hv : validS ls[k].data.toList with
          | false =>
            have hQ := Lib.hid (hQ.out.trans (l_bad hs.out (all_stop hlt hv hA.out)))
            go_wp2_with fail
            refine (valid_any ls[k] _ (hT1.out.below hb.out).runes).mono ?_
            rintro e w2 ⟨rfl, hb2⟩
            rw [hv]
            clear hv
            replace hb2 := Lib.hid (hb.out.trans (hb2.mono hb.out.size))
            go_wp2
            go_ret
            exact ⟨ret_i hQ.out, hB1.out.trans (hb2.out.mono hB1.out.size)⟩
          | true =>
            have hA2 := Lib.hid (all_step hlt hv hA.out)
            go_wp2_with fail
            refine (valid_any ls[k] _ (hT1.out.below hb.out).runes).mono ?_
            rintro e w2 ⟨rfl, hb2⟩
            rw [hv]
            clear hv
            replace hb2 := Lib.hid (hb.out.trans (hb2.mono hb.out.size))
            go_wp2
            go_roundw
            case rel => exact ⟨k + 1, by omega, by go_num, hA2.out, hb2.out⟩
            case measure => simp [intOf]; omega
        · have hV := Lib.hid (all_done hlt hA.out)
          clear hA
          obtain ⟨wo, rfl⟩ : ∃ wo : World, wo = wr := ⟨_, rfl⟩
          obtain ⟨c0, c1, c2, c3⟩ := box4 (hO1.out.below hb.out hO1.out.lt)
          go_wp2
          go_loopw [77] (fun i wx => ∃ j : Nat, j ≤ ls.length ∧ i = .int .i64 j ∧ Hid (ascL ((lsL ls).drop (j - 1)) = ascL (lsL ls)) ∧ Hid (Below w1.heap.size w1 wx)) (fun i _ => ls.length - (intOf i).toNat)
          case atStart => exact ⟨0, Nat.zero_le _, rfl, rfl, hb.out⟩
          case round =>
            clear c0 c1 c2 c3
            obtain ⟨j, hj, rfl, hAs, hb3⟩ := hrel
            obtain ⟨c0, c1, c2, c3⟩ := box4 (hO1.out.below hb3.out hO1.out.lt)
            by_cases hlj : j < ls.length
            · rcases Nat.eq_zero_or_pos j with rfl | hjp
              · rw [show ((0 : Nat) : Int) = 0 from rfl]
                go_wp2_with fail
                refine wp_region_quiet_lit (by kernel_rfl) (by kernel_rfl) ?_
                repeat (go_big_quiet_step (fail))
                refine wpQuiet_nil ?_
                intro _ hw'
                obtain ⟨nq, hw''⟩ := hw'
                subst hw''
                go_wp2
                go_roundw
                case rel => exact ⟨1, by omega, rfl, hAs.out, bel_drew hb3.out _⟩
                case measure => simp [intOf]; omega
              obtain ⟨i, rfl⟩ : ∃ i, j = i + 1 := ⟨j - 1, by omega⟩
              rcases hL.out with h0 | ⟨blk, off, rfl, hc⟩
              · rw [h0] at hlj; simp at hlj
              have d1 := sub_of_below hb3.out _ _ (hc (i + 1) hlj)
              have d0 := sub_of_below hb3.out _ _ (hc i (by omega))
              clear hc
              have n0 : (0 : Int) ≤ ((i + 1 : Nat) : Int) := Int.natCast_nonneg _
              have n1 : ((i + 1 : Nat) : Int) < (ls.length : Int) := by omega
              have n2 : IntKind.i64.wrap (((i + 1 : Nat) : Int) - 1) = (i : Int) := by rw [IntWalk.i64_in _ (by omega)]; omega
              have n3 : (0 : Int) ≤ (i : Int) := Int.natCast_nonneg _
              have n4 : (i : Int) < (ls.length : Int) := by omega
              have n5 : decide ((0 : Int) < ((i + 1 : Nat) : Int)) = true := decide_eq_true (by omega)
              have hAt := Lib.hid (asc_at (ls := ls) (k := i) hlj)
              have hAs' := Lib.hid (show ascL ((lsL ls).drop i) = ascL (lsL ls) from hAs.out)
              clear hAs
              cases hless : Op.bytesLess ls[i].data.toList ls[i + 1].data.toList with
              | true =>
                have hN := Lib.hid (show ascL ((lsL ls).drop (i + 1)) = ascL (lsL ls) by rw [← hAs'.out, hAt.out, hless]; rfl)
                have hb1 : Op.bytesLess ls[i].toList ls[i + 1].toList = true := by rw [ByteArray.toList_eq, ByteArray.toList_eq]; exact hless
                clear hless
                go_wp2_with fail
                refine wp_region_quiet_lit (by kernel_rfl) (by kernel_rfl) ?_
                repeat (go_big_quiet_step (fail))
                refine wpQuiet_nil ?_
                intro _ hw'
                obtain ⟨nq, hw''⟩ := hw'
                subst hw''
                go_wp2
                go_roundw
                case rel => exact ⟨i + 2, by omega, by go_num, hN.out, bel_drew hb3.out _⟩
                case measure => simp [intOf]; omega
              | false =>
                have hQ := Lib.hid (hQ.out.trans (l_order hs.out hV.out (by rw [← hAs'.out, hAt.out, hless]; rfl)))
                have hb1 : Op.bytesLess ls[i].toList ls[i + 1].toList = false := by rw [ByteArray.toList_eq, ByteArray.toList_eq]; exact hless
                clear hless
                go_wp2_with fail
                refine wp_region_quiet_lit (by kernel_rfl) (by kernel_rfl) ?_
                repeat (go_big_quiet_step (fail))
                refine wpQuiet_nil ?_
                intro _ hw'
                obtain ⟨nq, hw''⟩ := hw'
                subst hw''
                go_wp2
                go_ret
                exact ⟨ret_i hQ.out, hB1.out.trans ((bel_drew hb3.out _).mono hB1.out.size)⟩
            · have hQ := Lib.hid (hQ.out.trans (l_ok hs.out hV.out (by rw [← hAs.out]; exact asc_done (by omega))))
              go_wp2
              go_ret
              exact ⟨ret_i hQ.out, hB1.out.trans (hb3.out.mono hB1.out.size)⟩

end Go.Proofs.YthnjgbjckggjhaaGreatDoor.value

