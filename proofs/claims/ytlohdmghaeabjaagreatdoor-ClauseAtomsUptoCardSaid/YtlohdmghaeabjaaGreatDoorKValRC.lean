/- How two values compare: the reference's Compare. -/
import Derived.Test.YtlohdmghaeabjaaGreatDoorKValH
namespace Go.Proofs.YtlohdmghaeabjaaGreatDoor.value
open Go.RowKit Go.Proofs.YtlohdmghaeabjaaGreatDoor.text

/-- A call that leaves the world alone, in a quiet region behind a quiet region. -/
theorem quiet_again {P : Program} {f : FuncId} {args : Array Value} {w : World} {a n : Nat} {v : Value}
    (h : Calls P f args (w.drewN (a + n)) fun e w' => e = .returned v ∧ w' = w.drewN (a + n)) :
    Calls P f args (w.drewN (a + n)) fun e w'' => e = .returned v ∧ ∃ m, w'' = w.drewN (a + m) := h.mono fun _ _ ⟨he, hm⟩ => ⟨he, n, hm⟩

def signI (l g : Bool) : Int := if l then -1 else if g then 1 else 0
theorem sign_ref (l g : Bool) (w : World) : Calls Tryz.prog 80 #[.bool l, .bool g] w fun e w' => e = .returned (.int .i64 (signI l g)) ∧ w' = w := by
  cases l <;> cases g
  all_goals
    go_enter Tryz.func80, Tryz.ntmps80
    go_wp2
    go_ret
    exact ⟨rfl, rfl⟩
theorem signI_num (x y : Int) : signI (decide (x < y)) (decide (y < x)) = cmpI x y := by
  unfold signI cmpI
  by_cases h : x < y
  · simp [h]
  · by_cases h2 : y < x <;> simp [h, h2]
theorem signI_txt (s t : List UInt8) : signI (Op.bytesLess s t) (Op.bytesLess t s) = cmpT s t := by
  unfold signI cmpT
  rfl
theorem signI_txt2 (s t : List UInt8) : signI (Op.bytesLess s t) (!Op.bytesLess s t && !s == t) = cmpT s t := by
  rw [← signI_txt, less_tri t s, Bool.not_or]
theorem signI_ne {x y : Int} (h : x ≠ y) : signI (decide (x < y)) true = cmpI x y := by
  unfold signI cmpI
  by_cases h1 : x < y
  · simp [h1]
  · have h2 : y < x := by omega
    simp [h1, h2]

set_option maxRecDepth 100000 in
set_option maxHeartbeats 4000000 in
theorem compare_ref (a b : VV) (ta tb : ByteArray) (la lb : Option Addr) (ca cb : Nat) (xs ys : List ByteArray) (w : World) (hA : VOk w a ta la xs) (hB : VOk w b tb lb ys)
    (sa : ta.size ≤ 140737488355328) (sb : tb.size ≤ 140737488355328) (hT : Tabs w) :
    Calls Tryz.prog 51 #[.agg #[.int .i64 a.k, .int .i64 a.n, .string ta, .slice la xs.length ca], .agg #[.int .i64 b.k, .int .i64 b.n, .string tb, .slice lb ys.length cb]] w
      fun e w' => e = .returned (cmpR a b) ∧ Below w.heap.size w w' := by
  have eA := Lib.hid hA.text
  have eB := Lib.hid hB.text
  replace hT := Lib.hid hT
  replace hA := Lib.hid hA
  replace hB := Lib.hid hB
  have hOA := Lib.hid (show Own ((w.alloc (.cells #[.int .i64 a.k, .int .i64 a.n, .string ta, .slice la xs.length ca] 43)).alloc (.cells #[.int .i64 b.k, .int .i64 b.n, .string tb, .slice lb ys.length cb] 43)) w.heap.size #[.int .i64 a.k, .int .i64 a.n, .string ta, .slice la xs.length ca] 43 from (Own.new w _ _).alloc _)
  have hOB := Lib.hid (show Own ((w.alloc (.cells #[.int .i64 a.k, .int .i64 a.n, .string ta, .slice la xs.length ca] 43)).alloc (.cells #[.int .i64 b.k, .int .i64 b.n, .string tb, .slice lb ys.length cb] 43)) (w.heap.size + 1) #[.int .i64 b.k, .int .i64 b.n, .string tb, .slice lb ys.length cb] 43 from Own.new' (by simp))
  have hW := Lib.hid (show Below w.heap.size w ((w.alloc (.cells #[.int .i64 a.k, .int .i64 a.n, .string ta, .slice la xs.length ca] 43)).alloc (.cells #[.int .i64 b.k, .int .i64 b.n, .string tb, .slice lb ys.length cb] 43)) from ((Below.refl _ _).alloc (Nat.le_refl _) _).alloc (by simp) _)
  go_enter Tryz.func51, Tryz.ntmps51
  go_wp2_with fail
  refine (check_ref a ta la ca xs _ (hA.out.below hW.out) sa (hT.out.below hW.out)).mono ?_
  rintro e w1 ⟨rfl, hb1⟩
  have hOA1 := Lib.hid (hOA.out.below hb1 hOA.out.lt)
  have hOB1 := Lib.hid (hOB.out.below hb1 hOB.out.lt)
  have hW1 := Lib.hid (hW.out.trans (hb1.mono hW.out.size))
  clear hOA hOB hW hb1
  obtain ⟨a0, a1, a2, a3⟩ := box4 hOA1.out
  obtain ⟨b0, b1, b2, b3⟩ := box4 hOB1.out
  by_cases ea : checkS a = 0
  case neg =>
    have hQ := Lib.hid (cmpR_a (b := b) ea)
    have e1 : (checkS a != 0) = true := by simp [ea]
    clear ea
    generalize checkS a = ca at e1 hQ ⊢
    go_wp2
    go_ret2
    exact ⟨ret_v hQ.out, hW1.out⟩
  rw [ea]
  go_wp2_with fail
  refine (check_ref b tb lb cb ys _ (hB.out.below hW1.out) sb (hT.out.below hW1.out)).mono ?_
  rintro e w2 ⟨rfl, hb2⟩
  have hOA2 := Lib.hid (hOA1.out.below hb2 hOA1.out.lt)
  have hOB2 := Lib.hid (hOB1.out.below hb2 hOB1.out.lt)
  have hW2 := Lib.hid (hW1.out.trans (hb2.mono hW1.out.size))
  clear hOA1 hOB1 hW1 hb2 a0 a1 a2 a3 b0 b1 b2 b3
  obtain ⟨a0, a1, a2, a3⟩ := box4 hOA2.out
  obtain ⟨b0, b1, b2, b3⟩ := box4 hOB2.out
  by_cases eb : checkS b = 0
  case neg =>
    have hQ := Lib.hid (cmpR_b (b := b) ea eb)
    have e1 : (checkS b != 0) = true := by simp [eb]
    clear eb ea
    generalize checkS b = cb at e1 hQ ⊢
    go_wp2
    go_ret2
    exact ⟨ret_v hQ.out, hW2.out⟩
  rw [eb]
  have hways := two_ways ea eb
  clear ea eb
  rcases hways with ⟨hk, hQ⟩ | ⟨hk, hk2, hQ⟩ | ⟨hk, hk2, hQ⟩ | ⟨hk, hk2, hQ⟩ | ⟨hk, hk2, hQ⟩ | ⟨hk, hk2, x, y, z, x', y', z', hX, hY, hQ⟩
  · have e1 : (a.k != b.k) = true := by simp [hk]
    go_wp2
    go_ret2
    exact ⟨ret_v hQ.out, hW2.out⟩
  · rw [hk] at a0
    rw [hk2] at b0
    go_wp2
    go_ret2
    exact ⟨ret_v hQ.out, hW2.out⟩
  · rw [hk] at a0
    rw [hk2] at b0
    go_wp2
    go_ret2
    exact ⟨ret_v hQ.out, hW2.out⟩
  · rw [hk] at a0
    rw [hk2] at b0
    go_wp2_with fail
    refine (sign_ref _ _ _).mono ?_
    rintro e w3 ⟨rfl, rfl⟩
    rw [signI_num]
    go_wp2
    go_ret2
    exact ⟨ret_v hQ.out, hW2.out⟩
  · rw [hk] at a0
    rw [hk2] at b0
    go_wp2_with fail
    refine (sign_ref _ _ _).mono ?_
    rintro e w3 ⟨rfl, rfl⟩
    rw [ByteArray.toList_eq, ByteArray.toList_eq, signI_txt2, eA.out, eB.out]
    go_wp2
    go_ret2
    exact ⟨ret_v hQ.out, hW2.out⟩
  · rw [hk] at a0
    rw [hk2] at b0
    go_wp2_with fail
    refine (parts_ref ta _ sa).mono ?_
    rintro e w3 ⟨rfl, hb3⟩
    rw [eA.out, hX.out]
    have hOB3 := Lib.hid ((hOB2.out.below hb3 hOB2.out.lt).alloc (.cells #[.int .i64 x, .int .i64 y, .int .i64 z] 104))
    have hP3 := Lib.hid (Own.new w3 #[.int .i64 x, .int .i64 y, .int .i64 z] 104)
    have hW3 := Lib.hid ((hW2.out.trans (hb3.mono hW2.out.size)).alloc (by have := hb3.size; have := hW2.out.size; omega) (.cells #[.int .i64 x, .int .i64 y, .int .i64 z] 104))
    have hn := Lib.hid (show w.heap.size ≤ w3.heap.size by have := hb3.size; have := hW2.out.size; omega)
    clear hOA2 hOB2 hW2 a0 a1 a2 a3 b0 b1 b2 b3 hb3
    obtain ⟨b0, b1, b2, b3⟩ := box4 hOB3.out
    go_wp2_with fail
    refine (parts_ref tb _ sb).mono ?_
    rintro e w4 ⟨rfl, hb4⟩
    rw [eB.out, hY.out]
    have hP4 := Lib.hid ((hP3.out.below hb4 hP3.out.lt).alloc (.cells #[.int .i64 x', .int .i64 y', .int .i64 z'] 104))
    have hR4 := Lib.hid (Own.new w4 #[.int .i64 x', .int .i64 y', .int .i64 z'] 104)
    have hW4 := Lib.hid ((hW3.out.trans (hb4.mono hW3.out.size)).alloc (by have := hb4.size; have := hW3.out.size; omega) (.cells #[.int .i64 x', .int .i64 y', .int .i64 z'] 104))
    clear hOB3 hP3 hW3 b0 b1 b2 b3 hb4
    have hsz := hP4.out.lt
    have hsz2 := hR4.out.lt
    obtain ⟨w5, hw5⟩ : ∃ w5, Hid (w5 = w4.alloc (.cells #[.int .i64 x', .int .i64 y', .int .i64 z'] 104)) := ⟨_, rfl⟩
    rw [← hw5.out] at hP4 hR4 hW4
    go_wp2
    rw [← hw5.out]
    generalize w3.heap.size = A at hP4 hsz ⊢
    generalize w4.heap.size = B at hR4 hsz2 ⊢
    clear hw5
    go_loopw [12] (fun i wr => ∃ k : Nat, k ≤ 3 ∧ i = .int .i64 k ∧ Hid (Own wr A #[.int .i64 x, .int .i64 y, .int .i64 z] 104) ∧ Hid (Own wr B #[.int .i64 x', .int .i64 y', .int .i64 z'] 104) ∧ Hid (Below w.heap.size w wr) ∧ Hid ((1 ≤ k → x = x') ∧ (2 ≤ k → y = y') ∧ (3 ≤ k → z = z'))) (fun i _ => 3 - (intOf i).toNat)
    case atStart => exact ⟨0, by omega, rfl, hP4.out, hR4.out, hW4.out, ⟨fun h => absurd h (by omega), fun h => absurd h (by omega), fun h => absurd h (by omega)⟩⟩
    case round =>
      clear hP4 hR4 hW4 hsz hsz2
      obtain ⟨k, hk3, rfl, hP, hR, hW, hE⟩ := hrel
      obtain ⟨p0, p1, p2, -, -, -⟩ := own3 hP.out
      obtain ⟨q0, q1, q2, -, -, -⟩ := own3 hR.out
      rcases (show k = 0 ∨ k = 1 ∨ k = 2 ∨ k = 3 by omega) with rfl | rfl | rfl | rfl
      · rw [show ((0 : Nat) : Int) = 0 from rfl]
        by_cases he : x = x'
        · have q : (x != x') = false := by simp [he]
          have hE2 := Lib.hid (show (1 ≤ 1 → x = x') ∧ (2 ≤ 1 → y = y') ∧ (3 ≤ 1 → z = z') from ⟨fun _ => he, fun h => absurd h (by omega), fun h => absurd h (by omega)⟩)
          clear he
          go_wp2_with fail
          go_quiet (fail)
          go_wp2
          go_roundw
          case rel => exact ⟨1, by omega, by go_num, hP.out.drewN _, hR.out.drewN _, bel_drew hW.out _, hE2.out⟩
          case measure => simp [intOf]
        · have q : (x != x') = true := by simp [he]
          have hF := Lib.hid (show Ending.returned (.tuple #[.int .i64 (signI (decide (x < x')) true), .int .i64 0]) = .returned (cmpR a b) by
            rw [hQ.out, signI_ne he]
            skip
            skip
            simp [cmpV, he])
          clear he hE hQ hT hA hB hX hY
          go_wp2_with fail
          go_quiet (fail)
          go_wp2_with fail
          go_quiet (exact quiet_again (sign_ref _ _ _))
          go_wp2
          go_ret2
          exact ⟨hF.out, bel_drew (bel_drew hW.out _) _⟩
      · rw [show ((1 : Nat) : Int) = 1 from rfl]
        by_cases he : y = y'
        · have q : (y != y') = false := by simp [he]
          have hE2 := Lib.hid (show (1 ≤ 2 → x = x') ∧ (2 ≤ 2 → y = y') ∧ (3 ≤ 2 → z = z') from ⟨fun _ => hE.out.1 (by omega), fun h => he, fun h => absurd h (by omega)⟩)
          clear he
          go_wp2_with fail
          go_quiet (fail)
          go_wp2
          go_roundw
          case rel => exact ⟨2, by omega, by go_num, hP.out.drewN _, hR.out.drewN _, bel_drew hW.out _, hE2.out⟩
          case measure => simp [intOf]
        · have q : (y != y') = true := by simp [he]
          have hF := Lib.hid (show Ending.returned (.tuple #[.int .i64 (signI (decide (y < y')) true), .int .i64 0]) = .returned (cmpR a b) by
            rw [hQ.out, signI_ne he]
            have e1 := hE.out.1 (by omega)
            skip
            simp [cmpV, he, e1])
          clear he hE hQ hT hA hB hX hY
          go_wp2_with fail
          go_quiet (fail)
          go_wp2_with fail
          go_quiet (exact quiet_again (sign_ref _ _ _))
          go_wp2
          go_ret2
          exact ⟨hF.out, bel_drew (bel_drew hW.out _) _⟩
      · rw [show ((2 : Nat) : Int) = 2 from rfl]
        by_cases he : z = z'
        · have q : (z != z') = false := by simp [he]
          have hE2 := Lib.hid (show (1 ≤ 3 → x = x') ∧ (2 ≤ 3 → y = y') ∧ (3 ≤ 3 → z = z') from ⟨fun _ => hE.out.1 (by omega), fun h => hE.out.2.1 (by omega), fun h => he⟩)
          clear he
          go_wp2_with fail
          go_quiet (fail)
          go_wp2
          go_roundw
          case rel => exact ⟨3, by omega, by go_num, hP.out.drewN _, hR.out.drewN _, bel_drew hW.out _, hE2.out⟩
          case measure => simp [intOf]
        · have q : (z != z') = true := by simp [he]
          have hF := Lib.hid (show Ending.returned (.tuple #[.int .i64 (signI (decide (z < z')) true), .int .i64 0]) = .returned (cmpR a b) by
            rw [hQ.out, signI_ne he]
            have e1 := hE.out.1 (by omega)
            have e2 := hE.out.2.1 (by omega)
            simp [cmpV, e1, e2])
          clear he hE hQ hT hA hB hX hY
          go_wp2_with fail
          go_quiet (fail)
          go_wp2_with fail
          go_quiet (exact quiet_again (sign_ref _ _ _))
          go_wp2
          go_ret2
          exact ⟨hF.out, bel_drew (bel_drew hW.out _) _⟩
      · have hF := Lib.hid (show Ending.returned (.tuple #[.int .i64 0, .int .i64 0]) = .returned (cmpR a b) by
          rw [hQ.out]
          have e1 := hE.out.1 (by omega)
          have e2 := hE.out.2.1 (by omega)
          have e3 := hE.out.2.2 (by omega)
          simp [cmpV, e1, e2, e3, cmpI_eq])
        rw [show ((3 : Nat) : Int) = 3 from rfl]
        go_wp2
        go_ret2
        exact ⟨hF.out, hW.out⟩

end Go.Proofs.YtlohdmghaeabjaaGreatDoor.value

