/- Which metrics are valid, or the first error: the reference's Check. -/
import Derived.Test.YtnghpjijfdpmkaaDoorMetC
namespace Go.Proofs.YtnghpjijfdpmkaaDoor.metric
open Go.RowKit Go.Proofs.YtnghpjijfdpmkaaDoor Go.Proofs.YtnghpjijfdpmkaaDoor.text

theorem not_and {a b : Bool} (h : (a && b) = true) : a = true ∧ b = true := by simpa using h
set_option maxRecDepth 100000 in
set_option maxHeartbeats 4000000 in
theorem check_mr (m : MV) (s t : ByteArray) (w : World) (hs : s.data.toList = m.name) (ht : t.data.toList = m.below) (hsz : s.size ≤ maxLen) (htz : t.size ≤ maxLen) :
    Calls Tryd.prog 25 #[.agg #[.int .i64 m.k, .string s, .string t, .int .i64 m.win, .int .i64 m.cap, .int .i64 m.least, .int .i64 m.before]] w fun e w' => e = .returned (.int .i64 (chkM m)) ∧ Below w.heap.size w w' := by
  have hO := Lib.hid (Own.new w #[.int .i64 m.k, .string s, .string t, .int .i64 m.win, .int .i64 m.cap, .int .i64 m.least, .int .i64 m.before] 29)
  have hB := Lib.hid (show Below w.heap.size w (w.alloc (.cells #[.int .i64 m.k, .string s, .string t, .int .i64 m.win, .int .i64 m.cap, .int .i64 m.least, .int .i64 m.before] 29)) from (Below.refl _ _).alloc (Nat.le_refl _) _)
  replace hs := Lib.hid hs
  replace ht := Lib.hid ht
  replace hsz := Lib.hid hsz
  replace htz := Lib.hid htz
  go_enter Tryd.func25, Tryd.ntmps25
  by_cases hk : m.k < 1 ∨ 4 < m.k
  · have hQ := Lib.hid (m_kind hk)
    have hwi : (decide (1 ≤ m.k) && decide (m.k ≤ 4)) = false := by
      rcases hk with h | h
      · have : decide (1 ≤ m.k) = false := by simp; omega
        rw [this]; rfl
      · have : decide (m.k ≤ 4) = false := by simp; omega
        rw [this]; simp
    clear hk
    go_wp2_with fail
    refine (within_ref m.k 1 4 _).mono ?_
    rintro e w1 ⟨rfl, rfl⟩
    rw [hwi]
    clear hwi
    go_wp2
    go_ret
    exact ⟨ret_int hQ.out.symm, hB.out⟩
  have hwi : (decide (1 ≤ m.k) && decide (m.k ≤ 4)) = true := by simp; omega
  go_wp2_with fail
  refine (within_ref m.k 1 4 _).mono ?_
  rintro e w1 ⟨rfl, rfl⟩
  rw [hwi]
  clear hwi
  replace hk := Lib.hid hk
  generalize w.alloc (.cells _ 29) = w1 at hO hB ⊢
  obtain ⟨c0, c1, c2, c3, c4, c5, c6⟩ := box7 hO.out
  go_wp2_with fail
  refine (key_ref s _ hsz.out).mono ?_
  rintro e w3 ⟨rfl, hb3⟩
  have hO3 := Lib.hid (hO.out.below hb3 hO.out.lt)
  have hB3 := Lib.hid (hB.out.trans (hb3.mono hB.out.size))
  clear hb3 c0 c1 c2 c3 c4 c5 c6 hO hB
  obtain ⟨c0, c1, c2, c3, c4, c5, c6⟩ := box7 hO3.out
  rw [hs.out]
  cases hkn : keyS m.name with
  | false =>
    have hQ := Lib.hid (m_key hk.out (Or.inl hkn))
    clear hkn
    go_wp2
    go_ret
    exact ⟨ret_int hQ.out.symm, hB3.out⟩
  | true =>
    by_cases h4 : m.k = 4
    · have q4 : (m.k == 4) = true := by simp [h4]
      go_wp2_with fail
      refine (key_ref t _ htz.out).mono ?_
      rintro e w4 ⟨rfl, hb4⟩
      have hO4 := Lib.hid (hO3.out.below hb4 hO3.out.lt)
      have hB4 := Lib.hid (hB3.out.trans (hb4.mono hB3.out.size))
      clear hb4 c0 c1 c2 c3 c4 c5 c6 hO3 hB3
      obtain ⟨c0, c1, c2, c3, c4, c5, c6⟩ := box7 hO4.out
      rw [ht.out]
      cases hkb2 : keyS m.below with
      | false =>
        have hQ := Lib.hid (m_key hk.out (Or.inr ⟨h4, hkb2⟩))
        clear hkb2 hkn h4
        go_wp2
        go_ret
        exact ⟨ret_int hQ.out.symm, hB4.out⟩
      | true =>
        have hkk := Lib.hid (show ¬ (keyS m.name = false ∨ (m.k = 4 ∧ keyS m.below = false)) by rw [hkn, hkb2]; simp)
        clear hkb2 hkn
        rcases range_ways m with ⟨r1, hR⟩ | ⟨r1, r2, hR⟩ | ⟨r1, r2, r3, hR⟩ | ⟨r1, r2, r3, r4, hR⟩ | ⟨r1, r2, r3, r4, r5, hR⟩ | ⟨r1, r2, r3, r4, r5, r6, hR⟩ | ⟨r1, r2, r3, r4, r5, r6, r7, hR⟩ | ⟨r1, r2, r3, r4, r5, r6, r7, r8, hR⟩ | ⟨r1, r2, r3, r4, r5, r6, r7, r8, hR⟩
        · have e0 : (decide (1 ≤ m.win) && decide (m.win ≤ 68719476736)) = false := by
            rw [Bool.and_eq_false_iff]
            by_cases hh : 1 ≤ m.win
            · exact Or.inr (by simp; omega)
            · exact Or.inl (by simpa using hh)
          go_wp2_with fail
          refine (within_ref m.win 1 68719476736 _).mono ?_
          rintro e w9 ⟨rfl, rfl⟩
          rw [e0]
          clear e0
          have hQ := Lib.hid (m_range hk.out hkk.out hR.out)
          go_wp2
          go_ret
          exact ⟨ret_int hQ.out.symm, hB4.out⟩
        · have e0 : (decide (1 ≤ m.win) && decide (m.win ≤ 68719476736)) = false := by
            rw [Bool.and_eq_false_iff]
            by_cases hh : 1 ≤ m.win
            · exact Or.inr (by simp; omega)
            · exact Or.inl (by simpa using hh)
          go_wp2_with fail
          refine (within_ref m.win 1 68719476736 _).mono ?_
          rintro e w9 ⟨rfl, rfl⟩
          rw [e0]
          clear e0
          have hQ := Lib.hid (m_range hk.out hkk.out hR.out)
          go_wp2
          go_ret
          exact ⟨ret_int hQ.out.symm, hB4.out⟩
        · have e0 : (decide (1 ≤ m.win) && decide (m.win ≤ 68719476736)) = true := by simp; omega
          go_wp2_with fail
          refine (within_ref m.win 1 68719476736 _).mono ?_
          rintro e w9 ⟨rfl, rfl⟩
          rw [e0]
          clear e0
          have e1 : (decide (1 ≤ m.cap) && decide (m.cap ≤ 1048576)) = false := by
            rw [Bool.and_eq_false_iff]
            by_cases hh : 1 ≤ m.cap
            · exact Or.inr (by simp; omega)
            · exact Or.inl (by simpa using hh)
          go_wp2_with fail
          refine (within_ref m.cap 1 1048576 _).mono ?_
          rintro e w9 ⟨rfl, rfl⟩
          rw [e1]
          clear e1
          have hQ := Lib.hid (m_range hk.out hkk.out hR.out)
          go_wp2
          go_ret
          exact ⟨ret_int hQ.out.symm, hB4.out⟩
        · have e0 : (decide (1 ≤ m.win) && decide (m.win ≤ 68719476736)) = true := by simp; omega
          go_wp2_with fail
          refine (within_ref m.win 1 68719476736 _).mono ?_
          rintro e w9 ⟨rfl, rfl⟩
          rw [e0]
          clear e0
          have e1 : (decide (1 ≤ m.cap) && decide (m.cap ≤ 1048576)) = false := by
            rw [Bool.and_eq_false_iff]
            by_cases hh : 1 ≤ m.cap
            · exact Or.inr (by simp; omega)
            · exact Or.inl (by simpa using hh)
          go_wp2_with fail
          refine (within_ref m.cap 1 1048576 _).mono ?_
          rintro e w9 ⟨rfl, rfl⟩
          rw [e1]
          clear e1
          have hQ := Lib.hid (m_range hk.out hkk.out hR.out)
          go_wp2
          go_ret
          exact ⟨ret_int hQ.out.symm, hB4.out⟩
        · have e0 : (decide (1 ≤ m.win) && decide (m.win ≤ 68719476736)) = true := by simp; omega
          go_wp2_with fail
          refine (within_ref m.win 1 68719476736 _).mono ?_
          rintro e w9 ⟨rfl, rfl⟩
          rw [e0]
          clear e0
          have e1 : (decide (1 ≤ m.cap) && decide (m.cap ≤ 1048576)) = true := by simp; omega
          go_wp2_with fail
          refine (within_ref m.cap 1 1048576 _).mono ?_
          rintro e w9 ⟨rfl, rfl⟩
          rw [e1]
          clear e1
          have e2 : (decide ((-1099511627776) ≤ m.least) && decide (m.least ≤ 1099511627776)) = false := by
            rw [Bool.and_eq_false_iff]
            by_cases hh : (-1099511627776) ≤ m.least
            · exact Or.inr (by simp; omega)
            · exact Or.inl (by simpa using hh)
          go_wp2_with fail
          refine (within_ref m.least (-1099511627776) 1099511627776 _).mono ?_
          rintro e w9 ⟨rfl, rfl⟩
          rw [e2]
          clear e2
          have hQ := Lib.hid (m_range hk.out hkk.out hR.out)
          go_wp2
          go_ret
          exact ⟨ret_int hQ.out.symm, hB4.out⟩
        · have e0 : (decide (1 ≤ m.win) && decide (m.win ≤ 68719476736)) = true := by simp; omega
          go_wp2_with fail
          refine (within_ref m.win 1 68719476736 _).mono ?_
          rintro e w9 ⟨rfl, rfl⟩
          rw [e0]
          clear e0
          have e1 : (decide (1 ≤ m.cap) && decide (m.cap ≤ 1048576)) = true := by simp; omega
          go_wp2_with fail
          refine (within_ref m.cap 1 1048576 _).mono ?_
          rintro e w9 ⟨rfl, rfl⟩
          rw [e1]
          clear e1
          have e2 : (decide ((-1099511627776) ≤ m.least) && decide (m.least ≤ 1099511627776)) = false := by
            rw [Bool.and_eq_false_iff]
            by_cases hh : (-1099511627776) ≤ m.least
            · exact Or.inr (by simp; omega)
            · exact Or.inl (by simpa using hh)
          go_wp2_with fail
          refine (within_ref m.least (-1099511627776) 1099511627776 _).mono ?_
          rintro e w9 ⟨rfl, rfl⟩
          rw [e2]
          clear e2
          have hQ := Lib.hid (m_range hk.out hkk.out hR.out)
          go_wp2
          go_ret
          exact ⟨ret_int hQ.out.symm, hB4.out⟩
        · have e0 : (decide (1 ≤ m.win) && decide (m.win ≤ 68719476736)) = true := by simp; omega
          go_wp2_with fail
          refine (within_ref m.win 1 68719476736 _).mono ?_
          rintro e w9 ⟨rfl, rfl⟩
          rw [e0]
          clear e0
          have e1 : (decide (1 ≤ m.cap) && decide (m.cap ≤ 1048576)) = true := by simp; omega
          go_wp2_with fail
          refine (within_ref m.cap 1 1048576 _).mono ?_
          rintro e w9 ⟨rfl, rfl⟩
          rw [e1]
          clear e1
          have e2 : (decide ((-1099511627776) ≤ m.least) && decide (m.least ≤ 1099511627776)) = true := by simp; omega
          go_wp2_with fail
          refine (within_ref m.least (-1099511627776) 1099511627776 _).mono ?_
          rintro e w9 ⟨rfl, rfl⟩
          rw [e2]
          clear e2
          have e3 : (decide (0 ≤ m.before) && decide (m.before ≤ 68719476736)) = false := by
            rw [Bool.and_eq_false_iff]
            by_cases hh : 0 ≤ m.before
            · exact Or.inr (by simp; omega)
            · exact Or.inl (by simpa using hh)
          go_wp2_with fail
          refine (within_ref m.before 0 68719476736 _).mono ?_
          rintro e w9 ⟨rfl, rfl⟩
          rw [e3]
          clear e3
          have hQ := Lib.hid (m_range hk.out hkk.out hR.out)
          go_wp2
          go_ret
          exact ⟨ret_int hQ.out.symm, hB4.out⟩
        · have e0 : (decide (1 ≤ m.win) && decide (m.win ≤ 68719476736)) = true := by simp; omega
          go_wp2_with fail
          refine (within_ref m.win 1 68719476736 _).mono ?_
          rintro e w9 ⟨rfl, rfl⟩
          rw [e0]
          clear e0
          have e1 : (decide (1 ≤ m.cap) && decide (m.cap ≤ 1048576)) = true := by simp; omega
          go_wp2_with fail
          refine (within_ref m.cap 1 1048576 _).mono ?_
          rintro e w9 ⟨rfl, rfl⟩
          rw [e1]
          clear e1
          have e2 : (decide ((-1099511627776) ≤ m.least) && decide (m.least ≤ 1099511627776)) = true := by simp; omega
          go_wp2_with fail
          refine (within_ref m.least (-1099511627776) 1099511627776 _).mono ?_
          rintro e w9 ⟨rfl, rfl⟩
          rw [e2]
          clear e2
          have e3 : (decide (0 ≤ m.before) && decide (m.before ≤ 68719476736)) = false := by
            rw [Bool.and_eq_false_iff]
            by_cases hh : 0 ≤ m.before
            · exact Or.inr (by simp; omega)
            · exact Or.inl (by simpa using hh)
          go_wp2_with fail
          refine (within_ref m.before 0 68719476736 _).mono ?_
          rintro e w9 ⟨rfl, rfl⟩
          rw [e3]
          clear e3
          have hQ := Lib.hid (m_range hk.out hkk.out hR.out)
          go_wp2
          go_ret
          exact ⟨ret_int hQ.out.symm, hB4.out⟩
        · have e0 : (decide (1 ≤ m.win) && decide (m.win ≤ 68719476736)) = true := by simp; omega
          go_wp2_with fail
          refine (within_ref m.win 1 68719476736 _).mono ?_
          rintro e w9 ⟨rfl, rfl⟩
          rw [e0]
          clear e0
          have e1 : (decide (1 ≤ m.cap) && decide (m.cap ≤ 1048576)) = true := by simp; omega
          go_wp2_with fail
          refine (within_ref m.cap 1 1048576 _).mono ?_
          rintro e w9 ⟨rfl, rfl⟩
          rw [e1]
          clear e1
          have e2 : (decide ((-1099511627776) ≤ m.least) && decide (m.least ≤ 1099511627776)) = true := by simp; omega
          go_wp2_with fail
          refine (within_ref m.least (-1099511627776) 1099511627776 _).mono ?_
          rintro e w9 ⟨rfl, rfl⟩
          rw [e2]
          clear e2
          have e3 : (decide (0 ≤ m.before) && decide (m.before ≤ 68719476736)) = true := by simp; omega
          go_wp2_with fail
          refine (within_ref m.before 0 68719476736 _).mono ?_
          rintro e w9 ⟨rfl, rfl⟩
          rw [e3]
          clear e3
          have hQ := Lib.hid (m_ok hk.out hkk.out hR.out (by rintro (⟨e, -⟩ | ⟨e, -⟩) <;> omega))
          have q3 : (m.k == 3) = false := by simp; omega
          go_wp2
          go_ret
          exact ⟨ret_int hQ.out.symm, hB4.out⟩
    · have q4 : (m.k == 4) = false := by simp [h4]
      have hkk := Lib.hid (show ¬ (keyS m.name = false ∨ (m.k = 4 ∧ keyS m.below = false)) by rw [hkn]; simp [h4])
      replace h4 := Lib.hid h4
      clear hkn
      rcases range_ways m with ⟨r1, hR⟩ | ⟨r1, r2, hR⟩ | ⟨r1, r2, r3, hR⟩ | ⟨r1, r2, r3, r4, hR⟩ | ⟨r1, r2, r3, r4, r5, hR⟩ | ⟨r1, r2, r3, r4, r5, r6, hR⟩ | ⟨r1, r2, r3, r4, r5, r6, r7, hR⟩ | ⟨r1, r2, r3, r4, r5, r6, r7, r8, hR⟩ | ⟨r1, r2, r3, r4, r5, r6, r7, r8, hR⟩
      · have e0 : (decide (1 ≤ m.win) && decide (m.win ≤ 68719476736)) = false := by
          rw [Bool.and_eq_false_iff]
          by_cases hh : 1 ≤ m.win
          · exact Or.inr (by simp; omega)
          · exact Or.inl (by simpa using hh)
        go_wp2_with fail
        refine (within_ref m.win 1 68719476736 _).mono ?_
        rintro e w9 ⟨rfl, rfl⟩
        rw [e0]
        clear e0
        have hQ := Lib.hid (m_range hk.out hkk.out hR.out)
        go_wp2
        go_ret
        exact ⟨ret_int hQ.out.symm, hB3.out⟩
      · have e0 : (decide (1 ≤ m.win) && decide (m.win ≤ 68719476736)) = false := by
          rw [Bool.and_eq_false_iff]
          by_cases hh : 1 ≤ m.win
          · exact Or.inr (by simp; omega)
          · exact Or.inl (by simpa using hh)
        go_wp2_with fail
        refine (within_ref m.win 1 68719476736 _).mono ?_
        rintro e w9 ⟨rfl, rfl⟩
        rw [e0]
        clear e0
        have hQ := Lib.hid (m_range hk.out hkk.out hR.out)
        go_wp2
        go_ret
        exact ⟨ret_int hQ.out.symm, hB3.out⟩
      · have e0 : (decide (1 ≤ m.win) && decide (m.win ≤ 68719476736)) = true := by simp; omega
        go_wp2_with fail
        refine (within_ref m.win 1 68719476736 _).mono ?_
        rintro e w9 ⟨rfl, rfl⟩
        rw [e0]
        clear e0
        have e1 : (decide (1 ≤ m.cap) && decide (m.cap ≤ 1048576)) = false := by
          rw [Bool.and_eq_false_iff]
          by_cases hh : 1 ≤ m.cap
          · exact Or.inr (by simp; omega)
          · exact Or.inl (by simpa using hh)
        go_wp2_with fail
        refine (within_ref m.cap 1 1048576 _).mono ?_
        rintro e w9 ⟨rfl, rfl⟩
        rw [e1]
        clear e1
        have hQ := Lib.hid (m_range hk.out hkk.out hR.out)
        go_wp2
        go_ret
        exact ⟨ret_int hQ.out.symm, hB3.out⟩
      · have e0 : (decide (1 ≤ m.win) && decide (m.win ≤ 68719476736)) = true := by simp; omega
        go_wp2_with fail
        refine (within_ref m.win 1 68719476736 _).mono ?_
        rintro e w9 ⟨rfl, rfl⟩
        rw [e0]
        clear e0
        have e1 : (decide (1 ≤ m.cap) && decide (m.cap ≤ 1048576)) = false := by
          rw [Bool.and_eq_false_iff]
          by_cases hh : 1 ≤ m.cap
          · exact Or.inr (by simp; omega)
          · exact Or.inl (by simpa using hh)
        go_wp2_with fail
        refine (within_ref m.cap 1 1048576 _).mono ?_
        rintro e w9 ⟨rfl, rfl⟩
        rw [e1]
        clear e1
        have hQ := Lib.hid (m_range hk.out hkk.out hR.out)
        go_wp2
        go_ret
        exact ⟨ret_int hQ.out.symm, hB3.out⟩
      · have e0 : (decide (1 ≤ m.win) && decide (m.win ≤ 68719476736)) = true := by simp; omega
        go_wp2_with fail
        refine (within_ref m.win 1 68719476736 _).mono ?_
        rintro e w9 ⟨rfl, rfl⟩
        rw [e0]
        clear e0
        have e1 : (decide (1 ≤ m.cap) && decide (m.cap ≤ 1048576)) = true := by simp; omega
        go_wp2_with fail
        refine (within_ref m.cap 1 1048576 _).mono ?_
        rintro e w9 ⟨rfl, rfl⟩
        rw [e1]
        clear e1
        have e2 : (decide ((-1099511627776) ≤ m.least) && decide (m.least ≤ 1099511627776)) = false := by
          rw [Bool.and_eq_false_iff]
          by_cases hh : (-1099511627776) ≤ m.least
          · exact Or.inr (by simp; omega)
          · exact Or.inl (by simpa using hh)
        go_wp2_with fail
        refine (within_ref m.least (-1099511627776) 1099511627776 _).mono ?_
        rintro e w9 ⟨rfl, rfl⟩
        rw [e2]
        clear e2
        have hQ := Lib.hid (m_range hk.out hkk.out hR.out)
        go_wp2
        go_ret
        exact ⟨ret_int hQ.out.symm, hB3.out⟩
      · have e0 : (decide (1 ≤ m.win) && decide (m.win ≤ 68719476736)) = true := by simp; omega
        go_wp2_with fail
        refine (within_ref m.win 1 68719476736 _).mono ?_
        rintro e w9 ⟨rfl, rfl⟩
        rw [e0]
        clear e0
        have e1 : (decide (1 ≤ m.cap) && decide (m.cap ≤ 1048576)) = true := by simp; omega
        go_wp2_with fail
        refine (within_ref m.cap 1 1048576 _).mono ?_
        rintro e w9 ⟨rfl, rfl⟩
        rw [e1]
        clear e1
        have e2 : (decide ((-1099511627776) ≤ m.least) && decide (m.least ≤ 1099511627776)) = false := by
          rw [Bool.and_eq_false_iff]
          by_cases hh : (-1099511627776) ≤ m.least
          · exact Or.inr (by simp; omega)
          · exact Or.inl (by simpa using hh)
        go_wp2_with fail
        refine (within_ref m.least (-1099511627776) 1099511627776 _).mono ?_
        rintro e w9 ⟨rfl, rfl⟩
        rw [e2]
        clear e2
        have hQ := Lib.hid (m_range hk.out hkk.out hR.out)
        go_wp2
        go_ret
        exact ⟨ret_int hQ.out.symm, hB3.out⟩
      · have e0 : (decide (1 ≤ m.win) && decide (m.win ≤ 68719476736)) = true := by simp; omega
        go_wp2_with fail
        refine (within_ref m.win 1 68719476736 _).mono ?_
        rintro e w9 ⟨rfl, rfl⟩
        rw [e0]
        clear e0
        have e1 : (decide (1 ≤ m.cap) && decide (m.cap ≤ 1048576)) = true := by simp; omega
        go_wp2_with fail
        refine (within_ref m.cap 1 1048576 _).mono ?_
        rintro e w9 ⟨rfl, rfl⟩
        rw [e1]
        clear e1
        have e2 : (decide ((-1099511627776) ≤ m.least) && decide (m.least ≤ 1099511627776)) = true := by simp; omega
        go_wp2_with fail
        refine (within_ref m.least (-1099511627776) 1099511627776 _).mono ?_
        rintro e w9 ⟨rfl, rfl⟩
        rw [e2]
        clear e2
        have e3 : (decide (0 ≤ m.before) && decide (m.before ≤ 68719476736)) = false := by
          rw [Bool.and_eq_false_iff]
          by_cases hh : 0 ≤ m.before
          · exact Or.inr (by simp; omega)
          · exact Or.inl (by simpa using hh)
        go_wp2_with fail
        refine (within_ref m.before 0 68719476736 _).mono ?_
        rintro e w9 ⟨rfl, rfl⟩
        rw [e3]
        clear e3
        have hQ := Lib.hid (m_range hk.out hkk.out hR.out)
        go_wp2
        go_ret
        exact ⟨ret_int hQ.out.symm, hB3.out⟩
      · have e0 : (decide (1 ≤ m.win) && decide (m.win ≤ 68719476736)) = true := by simp; omega
        go_wp2_with fail
        refine (within_ref m.win 1 68719476736 _).mono ?_
        rintro e w9 ⟨rfl, rfl⟩
        rw [e0]
        clear e0
        have e1 : (decide (1 ≤ m.cap) && decide (m.cap ≤ 1048576)) = true := by simp; omega
        go_wp2_with fail
        refine (within_ref m.cap 1 1048576 _).mono ?_
        rintro e w9 ⟨rfl, rfl⟩
        rw [e1]
        clear e1
        have e2 : (decide ((-1099511627776) ≤ m.least) && decide (m.least ≤ 1099511627776)) = true := by simp; omega
        go_wp2_with fail
        refine (within_ref m.least (-1099511627776) 1099511627776 _).mono ?_
        rintro e w9 ⟨rfl, rfl⟩
        rw [e2]
        clear e2
        have e3 : (decide (0 ≤ m.before) && decide (m.before ≤ 68719476736)) = false := by
          rw [Bool.and_eq_false_iff]
          by_cases hh : 0 ≤ m.before
          · exact Or.inr (by simp; omega)
          · exact Or.inl (by simpa using hh)
        go_wp2_with fail
        refine (within_ref m.before 0 68719476736 _).mono ?_
        rintro e w9 ⟨rfl, rfl⟩
        rw [e3]
        clear e3
        have hQ := Lib.hid (m_range hk.out hkk.out hR.out)
        go_wp2
        go_ret
        exact ⟨ret_int hQ.out.symm, hB3.out⟩
      · have e0 : (decide (1 ≤ m.win) && decide (m.win ≤ 68719476736)) = true := by simp; omega
        go_wp2_with fail
        refine (within_ref m.win 1 68719476736 _).mono ?_
        rintro e w9 ⟨rfl, rfl⟩
        rw [e0]
        clear e0
        have e1 : (decide (1 ≤ m.cap) && decide (m.cap ≤ 1048576)) = true := by simp; omega
        go_wp2_with fail
        refine (within_ref m.cap 1 1048576 _).mono ?_
        rintro e w9 ⟨rfl, rfl⟩
        rw [e1]
        clear e1
        have e2 : (decide ((-1099511627776) ≤ m.least) && decide (m.least ≤ 1099511627776)) = true := by simp; omega
        go_wp2_with fail
        refine (within_ref m.least (-1099511627776) 1099511627776 _).mono ?_
        rintro e w9 ⟨rfl, rfl⟩
        rw [e2]
        clear e2
        have e3 : (decide (0 ≤ m.before) && decide (m.before ≤ 68719476736)) = true := by simp; omega
        go_wp2_with fail
        refine (within_ref m.before 0 68719476736 _).mono ?_
        rintro e w9 ⟨rfl, rfl⟩
        rw [e3]
        clear e3
        rcases value.empty_ways t with ⟨z1, z2, z3, hZ⟩ | ⟨z1, z2, z3, hZ⟩
        · have hbe : m.below = [] := by rw [← ht.out, ← ByteArray.toList_eq]; exact z2
          replace hbe := Lib.hid hbe
          by_cases h3 : m.k = 3
          · have q3 : (m.k == 3) = true := by simp [h3]
            by_cases hc : m.cap = 1
            · have hQ := Lib.hid (m_ok hk.out hkk.out hR.out (by rintro (⟨-, e⟩ | ⟨-, e⟩); exact e hbe.out; exact e hc))
              have qc : (m.cap != 1) = false := by simp [hc]
              replace hc := Lib.hid hc
              replace h3 := Lib.hid h3
              go_wp2
              go_ret
              exact ⟨ret_int hQ.out.symm, hB3.out⟩
            · have hQ := Lib.hid (m_shape hk.out hkk.out hR.out (Or.inr ⟨h3, hc⟩))
              have qc : (m.cap != 1) = true := by simp [hc]
              replace h3 := Lib.hid h3
              go_wp2
              go_ret
              exact ⟨ret_int hQ.out.symm, hB3.out⟩
          · have q3 : (m.k == 3) = false := by simp [h3]
            have hQ := Lib.hid (m_ok hk.out hkk.out hR.out (by rintro (⟨-, e⟩ | ⟨e, -⟩); exact e hbe.out; exact h3 e))
            go_wp2
            go_ret
            exact ⟨ret_int hQ.out.symm, hB3.out⟩
        · have hbe : m.below ≠ [] := by rw [← ht.out, ← ByteArray.toList_eq]; exact z2
          have hQ := Lib.hid (m_shape hk.out hkk.out hR.out (Or.inl ⟨h4.out, hbe⟩))
          clear hbe
          go_wp2
          go_ret
          exact ⟨ret_int hQ.out.symm, hB3.out⟩

end Go.Proofs.YtnghpjijfdpmkaaDoor.metric

