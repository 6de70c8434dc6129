/- Which metrics are valid, or the first error: the program's Check. -/
import Derived.Test.YtnghpjijfdpmkaaDoorMetC
namespace Go.Proofs.YtnghpjijfdpmkaaDoor.metric
open Go.RowKit Go.Proofs.YtnghpjijfdpmkaaDoor Go.Proofs.YtnghpjijfdpmkaaDoor.text

set_option maxRecDepth 100000 in
set_option maxHeartbeats 4000000 in
theorem check_m (m : MV) (s t : ByteArray) (w : World) (hs : s.data.toList = m.name) (ht : t.data.toList = m.below) (hT : NTabs w) :
    Calls Tryd.prog 21 #[.agg #[.int .i64 m.k, .string s, .string t, .int .i64 m.win, .int .i64 m.cap, .int .i64 m.least, .int .i64 m.before]] w fun e w' => e = .returned (.int .i64 (chkM m)) ∧ Below w.heap.size w w' := by
  replace hT := Lib.hid hT
  have hO := Lib.hid (Own.new w #[.int .i64 m.k, .string s, .string t, .int .i64 m.win, .int .i64 m.cap, .int .i64 m.least, .int .i64 m.before] 29)
  have hB := Lib.hid (show Below w.heap.size w (w.alloc (.cells #[.int .i64 m.k, .string s, .string t, .int .i64 m.win, .int .i64 m.cap, .int .i64 m.least, .int .i64 m.before] 29)) from (Below.refl _ _).alloc (Nat.le_refl _) _)
  replace hs := Lib.hid hs
  replace ht := Lib.hid ht
  go_enter Tryd.func21, Tryd.ntmps21
  go_wp2_with fail
  generalize w.alloc (.cells _ 29) = w1 at hO hB ⊢
  obtain ⟨c0, c1, c2, c3, c4, c5, c6⟩ := box7 hO.out
  have hlt := hO.out.lt
  have hBs := Lib.hid hB.out.size
  rcases lookV_agg m.k with ⟨nm, F, hlv, hkb, hk1, hk4⟩ | ⟨nm, hlv, hkb, hk⟩
  rotate_left
  · have hQ := Lib.hid (m_kind hk)
    clear hk
    have hlk := Lib.hid (show (Instr.lookup 72 (.map (some w1.heap.size)) (.int .i64 m.k) true).run Tryd.prog (w1.alloc (.map kinds4 4)).drew = .ok (.tuple #[.agg #[.string nm, .nilFunc], .bool false]) (w1.alloc (.map kinds4 4)).drew by have e := look_kind m.k (w1.alloc (.map kinds4 4)).drew w1.heap.size true (heap_alloc_new w1 _); rw [hlv, hkb] at e; exact e)
    have hlk2 := Lib.hid (show (Instr.lookup 72 (.map (some w1.heap.size)) (.int .i64 m.k) true).run Tryd.prog ((w1.alloc (.map kinds4 4)).alloc (.cells #[.string ⟨#[]⟩, .nilFunc] 76)).drew = .ok (.tuple #[.agg #[.string nm, .nilFunc], .bool false]) ((w1.alloc (.map kinds4 4)).alloc (.cells #[.string ⟨#[]⟩, .nilFunc] 76)).drew by have e := look_kind m.k ((w1.alloc (.map kinds4 4)).alloc (.cells #[.string ⟨#[]⟩, .nilFunc] 76)).drew w1.heap.size true (heap_two w1 _ _); rw [hlv, hkb] at e; exact e)
    have hlk4 := Lib.hid (show (Instr.lookup 72 (.map (some (w1.heap.size + 1))) (.int .i64 m.k) true).run Tryd.prog ((w1.alloc (.cells #[.string ⟨#[]⟩, .nilFunc] 76)).alloc (.map kinds4 4)).drew = .ok (.tuple #[.agg #[.string nm, .nilFunc], .bool false]) ((w1.alloc (.cells #[.string ⟨#[]⟩, .nilFunc] 76)).alloc (.map kinds4 4)).drew by have e := look_kind m.k ((w1.alloc (.cells #[.string ⟨#[]⟩, .nilFunc] 76)).alloc (.map kinds4 4)).drew (w1.heap.size + 1) true (heap_one w1 _ _); rw [hlv, hkb] at e; exact e)
    clear hlv hkb
    go_region_held3 (fun w' => w'.cell? ⟨w.heap.size, 0, none⟩ = some (.int .i64 m.k)) (first | go_keep | exact d0 | exact d1)
      ((go_at_call 36; refine (kinds_any _).mono ?_; rintro e u1 ⟨rfl, rfl⟩; have hlk1 := hlk.out; have hlk3 := hlk2.out; have hlk5 := hlk4.out; have d0 : (w1.alloc (.map kinds4 4)).drew.cell? ⟨w.heap.size, 0, none⟩ = some (.int .i64 m.k) := (hO.out.alloc _).drew.cell 0; have d1 : ((w1.alloc (.cells #[.string ⟨#[]⟩, .nilFunc] 76)).alloc (.map kinds4 4)).drew.cell? ⟨w.heap.size, 0, none⟩ = some (.int .i64 m.k) := (own_two hO.out _ _).drew.cell 0))
    all_goals
      go_wp2
      go_ret
      exact ⟨ret_int hQ.out.symm, (below_two hB.out hBs.out _ _).drew⟩
  · have hk : ¬ (m.k < 1 ∨ 4 < m.k) := by omega
    replace hk := Lib.hid hk
    have hlk := Lib.hid (show (Instr.lookup 72 (.map (some w1.heap.size)) (.int .i64 m.k) true).run Tryd.prog (w1.alloc (.map kinds4 4)).drew = .ok (.tuple #[.agg #[.string nm, .func (Fn.func F) #[] #[]], .bool true]) (w1.alloc (.map kinds4 4)).drew by have e := look_kind m.k (w1.alloc (.map kinds4 4)).drew w1.heap.size true (heap_alloc_new w1 _); rw [hlv, hkb] at e; exact e)
    have hlk2 := Lib.hid (show (Instr.lookup 72 (.map (some w1.heap.size)) (.int .i64 m.k) true).run Tryd.prog ((w1.alloc (.map kinds4 4)).alloc (.cells #[.string ⟨#[]⟩, .nilFunc] 76)).drew = .ok (.tuple #[.agg #[.string nm, .func (Fn.func F) #[] #[]], .bool true]) ((w1.alloc (.map kinds4 4)).alloc (.cells #[.string ⟨#[]⟩, .nilFunc] 76)).drew by have e := look_kind m.k ((w1.alloc (.map kinds4 4)).alloc (.cells #[.string ⟨#[]⟩, .nilFunc] 76)).drew w1.heap.size true (heap_two w1 _ _); rw [hlv, hkb] at e; exact e)
    have hlk4 := Lib.hid (show (Instr.lookup 72 (.map (some (w1.heap.size + 1))) (.int .i64 m.k) true).run Tryd.prog ((w1.alloc (.cells #[.string ⟨#[]⟩, .nilFunc] 76)).alloc (.map kinds4 4)).drew = .ok (.tuple #[.agg #[.string nm, .func (Fn.func F) #[] #[]], .bool true]) ((w1.alloc (.cells #[.string ⟨#[]⟩, .nilFunc] 76)).alloc (.map kinds4 4)).drew by have e := look_kind m.k ((w1.alloc (.cells #[.string ⟨#[]⟩, .nilFunc] 76)).alloc (.map kinds4 4)).drew (w1.heap.size + 1) true (heap_one w1 _ _); rw [hlv, hkb] at e; exact e)
    clear hlv hkb
    go_region_held3 (fun w' => w'.cell? ⟨w.heap.size, 0, none⟩ = some (.int .i64 m.k)) (first | go_keep | exact d0 | exact d1)
      ((go_at_call 36; refine (kinds_any _).mono ?_; rintro e u1 ⟨rfl, rfl⟩; have hlk1 := hlk.out; have hlk3 := hlk2.out; have hlk5 := hlk4.out; have d0 : (w1.alloc (.map kinds4 4)).drew.cell? ⟨w.heap.size, 0, none⟩ = some (.int .i64 m.k) := (hO.out.alloc _).drew.cell 0; have d1 : ((w1.alloc (.cells #[.string ⟨#[]⟩, .nilFunc] 76)).alloc (.map kinds4 4)).drew.cell? ⟨w.heap.size, 0, none⟩ = some (.int .i64 m.k) := (own_two hO.out _ _).drew.cell 0))
    all_goals
      go_wp2_with fail
      refine (key_any s _ (hT.out.below ((below_two hB.out hBs.out _ _).drew)).space).mono ?_
      rintro e w3 ⟨rfl, hb3⟩
      have hO3 := Lib.hid ((own_two hO.out _ _).drew.below hb3 (by simp; omega))
      have hB3 := Lib.hid ((below_two hB.out hBs.out _ _).drew.trans (hb3.mono (by have := hBs.out; simp; omega)))
      clear hb3
      clear c0 c1 c2 c3 c4 c5 c6 hlt
      obtain ⟨c0, c1, c2, c3, c4, c5, c6⟩ := box7 hO3.out
      rw [hs.out]
      cases hkn : keyS m.name with
      | false =>
        have hQ := Lib.hid (m_key hk.out (Or.inl hkn))
        clear hkn
        go_wp2
        go_ret
        exact ⟨ret_int hQ.out.symm, hB3.out⟩
      | true =>
        by_cases h4 : m.k = 4
        · have q4 : (m.k == 4) = true := by simp [h4]
          go_wp2_with fail
          refine (key_any t _ (hT.out.below hB3.out).space).mono ?_
          rintro e w4 ⟨rfl, hb4⟩
          have hO4 := Lib.hid (hO3.out.below hb4 hO3.out.lt)
          have hB4 := Lib.hid (hB3.out.trans (hb4.mono hB3.out.size))
          clear hb4 c0 c1 c2 c3 c4 c5 c6 hO3 hB3
          obtain ⟨c0, c1, c2, c3, c4, c5, c6⟩ := box7 hO4.out
          rw [ht.out]
          cases hkb2 : keyS m.below with
          | false =>
            have hQ := Lib.hid (m_key hk.out (Or.inr ⟨h4, hkb2⟩))
            clear hkb2 hkn h4
            go_wp2
            go_ret
            exact ⟨ret_int hQ.out.symm, hB4.out⟩
          | true =>
            have hkk := Lib.hid (show ¬ (keyS m.name = false ∨ (m.k = 4 ∧ keyS m.below = false)) by rw [hkn, hkb2]; simp)
            clear hkb2 hkn
            rcases range_ways m with ⟨r1, hR⟩ | ⟨r1, r2, hR⟩ | ⟨r1, r2, r3, hR⟩ | ⟨r1, r2, r3, r4, hR⟩ | ⟨r1, r2, r3, r4, r5, hR⟩ | ⟨r1, r2, r3, r4, r5, r6, hR⟩ | ⟨r1, r2, r3, r4, r5, r6, r7, hR⟩ | ⟨r1, r2, r3, r4, r5, r6, r7, r8, hR⟩ | ⟨r1, r2, r3, r4, r5, r6, r7, r8, hR⟩
            rotate_right
            all_goals try (have hQ := Lib.hid (m_range hk.out hkk.out hR.out); go_wp2; go_ret; exact ⟨ret_int hQ.out.symm, hB4.out⟩)
            have hQ := Lib.hid (m_ok hk.out hkk.out hR.out (by rintro (⟨e, -⟩ | ⟨e, -⟩) <;> omega))
            have q3 : (m.k == 3) = false := by simp; omega
            go_wp2
            go_ret
            exact ⟨ret_int hQ.out.symm, hB4.out⟩
        · have q4 : (m.k == 4) = false := by simp [h4]
          have hkk := Lib.hid (show ¬ (keyS m.name = false ∨ (m.k = 4 ∧ keyS m.below = false)) by rw [hkn]; simp [h4])
          replace h4 := Lib.hid h4
          clear hkn
          rcases range_ways m with ⟨r1, hR⟩ | ⟨r1, r2, hR⟩ | ⟨r1, r2, r3, hR⟩ | ⟨r1, r2, r3, r4, hR⟩ | ⟨r1, r2, r3, r4, r5, hR⟩ | ⟨r1, r2, r3, r4, r5, r6, hR⟩ | ⟨r1, r2, r3, r4, r5, r6, r7, hR⟩ | ⟨r1, r2, r3, r4, r5, r6, r7, r8, hR⟩ | ⟨r1, r2, r3, r4, r5, r6, r7, r8, hR⟩
          rotate_right
          all_goals try (have hQ := Lib.hid (m_range hk.out hkk.out hR.out); go_wp2; go_ret; exact ⟨ret_int hQ.out.symm, hB3.out⟩)
          rcases value.empty_ways t with ⟨z1, z2, z3, hZ⟩ | ⟨z1, z2, z3, hZ⟩
          · have hbe : m.below = [] := by rw [← ht.out, ← ByteArray.toList_eq]; exact z2
            replace hbe := Lib.hid hbe
            by_cases h3 : m.k = 3
            · have q3 : (m.k == 3) = true := by simp [h3]
              by_cases hc : m.cap = 1
              · have hQ := Lib.hid (m_ok hk.out hkk.out hR.out (by rintro (⟨-, e⟩ | ⟨-, e⟩); exact e hbe.out; exact e hc))
                have qc : (m.cap != 1) = false := by simp [hc]
                replace hc := Lib.hid hc
                replace h3 := Lib.hid h3
                go_wp2
                go_ret
                exact ⟨ret_int hQ.out.symm, hB3.out⟩
              · have hQ := Lib.hid (m_shape hk.out hkk.out hR.out (Or.inr ⟨h3, hc⟩))
                have qc : (m.cap != 1) = true := by simp [hc]
                replace h3 := Lib.hid h3
                go_wp2
                go_ret
                exact ⟨ret_int hQ.out.symm, hB3.out⟩
            · have q3 : (m.k == 3) = false := by simp [h3]
              have hQ := Lib.hid (m_ok hk.out hkk.out hR.out (by rintro (⟨-, e⟩ | ⟨e, -⟩); exact e hbe.out; exact h3 e))
              go_wp2
              go_ret
              exact ⟨ret_int hQ.out.symm, hB3.out⟩
          · have hbe : m.below ≠ [] := by rw [← ht.out, ← ByteArray.toList_eq]; exact z2
            have hQ := Lib.hid (m_shape hk.out hkk.out hR.out (Or.inl ⟨h4.out, hbe⟩))
            clear hbe
            go_wp2
            go_ret
            exact ⟨ret_int hQ.out.symm, hB3.out⟩

end Go.Proofs.YtnghpjijfdpmkaaDoor.metric

