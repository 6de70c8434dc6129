/- The reference's reader: a number. The reference's reader: a count, a text, the end. The reference's reader: a text. The reference's numbers and texts as bytes, and its reader made. -/
import Derived.Test.YtamkmdlfhlbbeaaGreatDoorKJ11
namespace Go.Proofs.YtamkmdlfhlbbeaaGreatDoor.wire
open Go.RowKit Go.Proofs.YtamkmdlfhlbbeaaGreatDoor Go.Proofs.YtamkmdlfhlbbeaaGreatDoor.draw

/-- The reference's reader: its block, and what is left to read. -/
def RdR (M : Mem) (g : Nat) (w : World) : St → Prop
  | none => ∃ a n c t e, Own w g #[.slice a n c, .int .i64 t, .int .i64 e] 137 ∧ e ≠ 0
  | some l => ∃ a n c at_ B, Own w g #[.slice a n c, .int .i64 (at_ : Nat), .int .i64 0] 137 ∧ BV M (.slice a n c) B ∧ at_ ≤ n ∧ l = B.drop at_
theorem RdR.lt {M : Mem} {g : Nat} {w : World} {s : St} (h : RdR M g w s) : g < w.heap.size := by
  cases s with
  | none => obtain ⟨a, n, c, t, e, h1, -⟩ := h; exact h1.lt
  | some l => obtain ⟨a, n, c, t, B, h1, -⟩ := h; exact h1.lt
theorem RdR.kept {M : Mem} {g : Nat} {w u : World} {s : St} {r : Option Nat} (h : RdR M g w s) (hg : w.grownBy u r) (hr : r ≠ some g) : RdR M g u s := by
  cases s with
  | none => obtain ⟨a, n, c, t, e, h1, h2⟩ := h; exact ⟨a, n, c, t, e, h1.kept hg hr, h2⟩
  | some l => obtain ⟨a, n, c, t, B, h1, h2, h3⟩ := h; exact ⟨a, n, c, t, B, h1.kept hg hr, h2, h3⟩
theorem RdR.below {M : Mem} {g : Nat} {w u : World} {s : St} (h : RdR M g w s) (hb : Below w.heap.size w u) : RdR M g u s := h.kept (grown_of_below hb none) (by simp)
theorem RdR.err {M : Mem} {g : Nat} {w : World} (h : RdR M g w none) : ∃ e : Int, w.cell? ⟨g, 2, none⟩ = some (.int .i64 e) ∧ e ≠ 0 := by
  obtain ⟨a, n, c, t, e, h1, h2⟩ := h
  exact ⟨e, h1.cell 2, h2⟩
theorem RdR.ok {M : Mem} {g : Nat} {w : World} {l : List UInt8} (h : RdR M g w (some l)) : w.cell? ⟨g, 2, none⟩ = some (.int .i64 0) := by
  obtain ⟨a, n, c, t, B, h1, -⟩ := h
  exact h1.cell 2
def ReadR (M : Mem) (g : Nat) (w : World) (P : Ending → World → Prop) (s : St) (e : Ending) (w' : World) : Prop := P e w' ∧ RdR M g w' s ∧ w.grownBy w' (some g)

set_option maxHeartbeats 1000000 in
theorem fail_ref (M : Mem) (g : Nat) (w : World) (s : St) (e : Int) (he : e ≠ 0) (h : RdR M g w s) :
    Calls Tryz.prog 103 #[.pointer (some ⟨g, 0, none⟩), .int .i64 e] w (ReadR M g w (fun r _ => r = .returned (.tuple #[])) none) := by
  have hl := h.lt
  cases s with
  | none =>
    obtain ⟨a, n, c, t, e', h1, h2⟩ := h
    have c1 := h1.cell 2
    simp only [List.getElem?_toArray, List.getElem?_cons_succ, List.getElem?_cons_zero] at c1
    have hne : ¬ (e' = 0) := h2
    go_enter Tryz.func103, Tryz.ntmps103
    go_wp2
    first | go_end0 | refine bodyPost_ret (results_none rfl _ _ _) rfl ?_
    exact ⟨rfl, ⟨a, n, c, t, e', h1, h2⟩, grown_refl _ _⟩
  | some l =>
    obtain ⟨a, n, c, t, B, h1, h2, h3⟩ := h
    have c1 := h1.cell 2
    have f1 := h1.free 2
    simp only [List.getElem?_toArray, List.getElem?_cons_succ, List.getElem?_cons_zero] at c1
    go_enter Tryz.func103, Tryz.ntmps103
    go_wp2
    first | go_end0 | refine bodyPost_ret (results_none rfl _ _ _) rfl ?_
    exact ⟨rfl, ⟨a, n, c, t, e, h1.set 2 _, he⟩, grown_setCell _ _ _ _⟩

set_option maxRecDepth 100000 in
set_option maxHeartbeats 4000000 in
theorem number_ref (M : Mem) (g : Nat) (w : World) (s : St) (hM : Sub M (but g w)) (h : RdR M g w s) :
    Calls Tryz.prog 102 #[.pointer (some ⟨g, 0, none⟩)] w (ReadR M g w (fun e _ => e = .returned (.int .i64 (rdN s).1)) (rdN s).2) := by
  have hl := h.lt
  cases s with
  | none =>
    obtain ⟨a, n, c, t, e', h1, h2⟩ := h
    have c1 := h1.cell 2
    simp only [List.getElem?_toArray, List.getElem?_cons_succ, List.getElem?_cons_zero] at c1
    have hne : ¬ (e' = 0) := h2
    have hne' : (e' == 0) = false := by simpa using h2
    go_enter Tryz.func102, Tryz.ntmps102
    go_wp2
    go_loopw [3, 4] (fun s3 s4 wr => ∃ u i : Int, s3 = .int .u64 u ∧ s4 = .int .i64 i ∧ wr = w) (fun _ _ _ => 0)
    case atStart => exact ⟨_, _, rfl, rfl, rfl⟩
    case round =>
      obtain ⟨u, i, rfl, rfl, rfl⟩ := hrel
      go_wp2
      go_ret
      exact ⟨rfl, ⟨a, n, c, t, e', h1, h2⟩, grown_refl _ _⟩
  | some l =>
    obtain ⟨a, n, c, t, B, h1, h2, ht, hlB⟩ := h
    obtain ⟨hn, hnc, hcm⟩ := h2.len
    have c0 := h1.cell 0
    have c1 := h1.cell 1
    have c2 := h1.cell 2
    have f1 := h1.free 1
    simp only [List.getElem?_toArray, List.getElem?_cons_succ, List.getElem?_cons_zero] at c0 c1 c2
    have hmx : (n : Int) ≤ 9223372036854775807 := by unfold maxLen at hcm; omega
    have hll : l.length = n - t := by rw [hlB, List.length_drop, hn]
    replace hn := Lib.hid hn
    have hV := Lib.hid h2
    replace hlB := Lib.hid hlB
    clear h2
    go_enter Tryz.func102, Tryz.ntmps102
    go_wp2
    go_loopw [3, 4] (fun s3 s4 wr => ∃ (i u q : Nat), t + i ≤ n ∧ i ≤ 9 ∧ s4 = .int .i64 i ∧ s3 = .int .u64 u ∧ Hid (u < 128 ^ i ∧ rdGo i u (l.drop i) = rdGo 0 0 l) ∧ wr = w.drewN q) (fun _ s4 _ => n - (intOf s4).toNat)
    case atStart => exact ⟨0, 0, 0, by omega, by omega, rfl, rfl, Lib.hid ⟨by decide, rfl⟩, rfl⟩
    case round =>
      obtain ⟨i, u, q, hi, hi9, rfl, rfl, hR, rfl⟩ := hrel
      have hlq : g < (w.drewN q).heap.size := hl
      have c0q : (w.drewN q).cell? ⟨g, 0, none⟩ = _ := c0
      have c1q : (w.drewN q).cell? ⟨g, 1, none⟩ = _ := c1
      have c2q : (w.drewN q).cell? ⟨g, 2, none⟩ = _ := c2
      have f1q : (w.drewN q).frozen? ⟨g, 1, none⟩ = _ := f1
      by_cases hlt : t + i < n
      case neg =>
        have hB := Lib.hid (rdN_bad (l := l) (by rw [← hR.out.2, List.drop_of_length_le (show l.length ≤ i by omega)]; rfl))
        have hge : (n : Int) ≤ (t : Int) + (i : Int) := by omega
        have hRd : ∀ q', Hid (RdR M g (w.drewN q') (some l)) := fun q' => Lib.hid ⟨_, n, c, t, B, h1, hV.out, ht, hlB.out⟩
        go_wp2
        go_quiet (fail)
        go_wp2_with fail
        refine (fail_ref M g _ (some l) 16 (by decide) (hRd _).out).mono ?_
        rintro e w' ⟨rfl, hw1, hw2⟩
        replace hw1 := Lib.hid hw1
        have hw3 := Lib.hid (grown_trans (grown_drewN w (q + nq) _) hw2)
        clear hw2 c0q c1q c2q f1q hRd
        go_wp2
        go_ret
        rw [hB.out]
        exact ⟨rfl, hw1.out, hw3.out⟩
      have hil : i < l.length := by omega
      have hE := hR.out.2
      rw [List.drop_eq_getElem_cons hil, rdGo] at hE
      rcases hV.out.cell with rfl | ⟨blk, off, rfl, hc⟩
      · have := hn.out; simp at this; omega
      have hx := but_sub _ _ _ _ (hM _ _ (hc (t + i) (by have := hn.out; omega)))
      have hxe : l[i] = B[t + i]'(by have := hn.out; omega) := by
        have h0 := hlB.out
        subst h0
        rw [List.getElem_drop]
      rw [← hxe] at hx
      clear hc hxe
      generalize l[i] = x at hE hx
      have n0 : (0 : Int) ≤ (t : Int) + (i : Int) := by omega
      have n1 : (t : Int) + (i : Int) < (n : Int) := by omega
      have n2 : ¬ (n : Int) ≤ (t : Int) + (i : Int) := by omega
      have n3 : ((t : Int) + (i : Int)).toNat = t + i := by omega
      have hRd : ∀ q', Hid (RdR M g (w.drewN q') (some l)) := fun q' => Lib.hid ⟨_, n, c, t, B, h1, hV.out, ht, hlB.out⟩
      by_cases hq1 : i = 9 ∧ 1 < x.toNat
      · rw [if_pos hq1] at hE
        have hB := Lib.hid (rdN_bad hE.symm)
        obtain ⟨rfl, hx1⟩ := hq1
        have hx2 : (1 : Int) < (x.toNat : Int) := by omega
        clear hE
        go_wp2
        go_quiet (fail)
        go_wp2
        go_quiet (fail)
        go_wp2_with fail
        refine (fail_ref M g _ (some l) 3 (by decide) (hRd _).out).mono ?_
        rintro e w' ⟨rfl, hw1, hw2⟩
        replace hw1 := Lib.hid hw1
        have hw3 := Lib.hid (grown_trans (grown_drewN w _ _) hw2)
        clear hw2 c0q c1q c2q f1q hRd
        go_wp2
        go_ret
        rw [hB.out]
        exact ⟨rfl, hw1.out, hw3.out⟩
      rw [if_neg hq1] at hE
      by_cases hq2 : 128 ≤ x.toNat
      · rw [if_pos hq2] at hE
        have hi8 : i ≤ 8 := by omega
        have hx2 : (127 : Int) < (x.toNat : Int) := by omega
        have hi9' : ¬ (i : Int) = 9 := by omega
        have hS := or_step (x := x) hR.out.1 (Nat.lt_trans (step_few hi8) (by decide)) hi9
        have hz := Lib.hid (step_sum (x := x.toNat) hR.out.1)
        have hE2 := Lib.hid hE.symm
        generalize u + x.toNat % 128 * 128 ^ i = z at hS hz hE2
        have hn7 : (0 : Int) ≤ 7 * (i : Int) := by omega
        have hw7 : IntKind.u64.wrap (7 * (i : Int)) = 7 * (i : Int) := wraps_u64 _ (by omega) (by omega)
        clear hE hRd
        replace hq1 := Lib.hid hq1
        replace hR := Lib.hid hR
        go_wp2
        go_quiet (fail)
        go_wp2
        go_quiet (fail)
        go_wp2
        refine ⟨⟨i + 1, z, _, by omega, by omega, rfl, rfl, Lib.hid ⟨hz.out, hE2.out.symm⟩, rfl⟩, ?_⟩
        simp [intOf]
        omega
      rw [if_neg hq2] at hE
      have hx2 : ¬ (127 : Int) < (x.toNat : Int) := by omega
      obtain ⟨hb1, hb2⟩ := last_few hR.out.1 (show x.toNat < 128 by omega) hi9 hq1
      have hS := or_last (x := x) hR.out.1 (by omega) hb1 hi9
      have hw7 : IntKind.u64.wrap (7 * (i : Int)) = 7 * (i : Int) := wraps_u64 _ (by omega) (by omega)
      by_cases hq3 : x.toNat = 0 ∧ 0 < i
      · rw [if_pos hq3] at hE
        have hB := Lib.hid (rdN_bad hE.symm)
        have hx0 : (x.toNat : Int) = 0 := by omega
        have hi0 : (0 : Int) < (i : Int) := by omega
        rw [hx0] at hx
        clear hE hS hb1 hb2
        replace hq1 := Lib.hid hq1
        replace hR := Lib.hid hR
        replace hq3 := Lib.hid hq3
        rcases Nat.lt_or_ge i 9 with h9 | h9
        · have hi9' : ¬ (i : Int) = 9 := by omega
          go_wp2
          go_quiet (fail)
          go_wp2
          go_quiet (fail)
          go_wp2_with fail
          refine (fail_ref M g _ (some l) 1 (by decide) (hRd _).out).mono ?_
          rintro e w' ⟨rfl, hw1, hw2⟩
          replace hw1 := Lib.hid hw1
          have hw3 := Lib.hid (grown_trans (grown_drewN w _ _) hw2)
          clear hw2 c0q c1q c2q f1q hRd
          go_wp2
          go_ret
          rw [hB.out]
          exact ⟨rfl, hw1.out, hw3.out⟩
        · obtain rfl : i = 9 := by omega
          clear h9 hi9 hi0
          go_wp2
          go_quiet (fail)
          go_wp2
          go_quiet (fail)
          go_wp2_with fail
          refine (fail_ref M g _ (some l) 1 (by decide) (hRd _).out).mono ?_
          rintro e w' ⟨rfl, hw1, hw2⟩
          replace hw1 := Lib.hid hw1
          have hw3 := Lib.hid (grown_trans (grown_drewN w _ _) hw2)
          clear hw2 c0q c1q c2q f1q hRd
          go_wp2
          go_ret
          rw [hB.out]
          exact ⟨rfl, hw1.out, hw3.out⟩
      rw [if_neg hq3] at hE
      have hG := Lib.hid (rdN_good hE.symm)
      generalize u + x.toNat * 128 ^ i = z at hS hG hb2
      have hZ := and_one hb2
      have hn7 : (0 : Int) ≤ 7 * (i : Int) := by omega
      have hDr : (B.drop t).drop (i + 1) = B.drop (t + (i + 1)) := List.drop_drop
      rw [← hlB.out] at hDr
      have hFin : ∀ q', RdR M g ((w.drewN q').setCell ⟨g, 1, none⟩ (.int .i64 ((t : Int) + ((i : Int) + 1)))) (some (l.drop (i + 1))) := fun q' => by
        rw [show ((t : Int) + ((i : Int) + 1)) = ((t + (i + 1) : Nat) : Int) by omega]
        exact ⟨_, n, c, t + (i + 1), B, Own.set (w := w.drewN q') h1 1 _, hV.out, by omega, hDr⟩
      have hov : (t : Int) + ((i : Int) + 1) ≤ (n : Int) := by omega
      replace hFin := Lib.hid hFin
      clear hE hb1
      replace hR := Lib.hid hR
      replace hV := Lib.hid hV
      replace hDr := Lib.hid hDr
      have hsg : IntKind.u64.signed = false := rfl
      rcases Nat.lt_or_ge i 9 with h9 | h9
      · have hi9' : ¬ (i : Int) = 9 := by omega
        replace hq1 := Lib.hid hq1
        by_cases hi0 : (0 : Int) < (i : Int)
        · have hx0 : ¬ (x.toNat : Int) = 0 := by omega
          replace hq3 := Lib.hid hq3
          rcases Nat.mod_two_eq_zero_or_one z with hz2 | hz2
          · have hZ0 : bits BinOp.and IntKind.u64 (z : Int) 1 = 0 := by rw [hZ, hz2]; rfl
            have hU := unzz_even hb2 hz2
            replace hz2 := Lib.hid hz2
            clear hZ hb2
            go_wp2
            go_quiet (fail)
            go_wp2
            go_quiet (fail)
            go_wp2
            all_goals
              go_ret
              rw [hG.out, ← hU]
              exact ⟨rfl, hFin.out _, grown_trans (grown_drewN w _ _) (grown_setCell _ _ _ _)⟩
          · have hZ0 : bits BinOp.and IntKind.u64 (z : Int) 1 = 1 := by rw [hZ, hz2]; rfl
            have hU := unzz_odd hb2 hz2
            replace hz2 := Lib.hid hz2
            clear hZ hb2
            go_wp2
            go_quiet (fail)
            go_wp2
            go_quiet (fail)
            go_wp2
            all_goals
              go_ret
              rw [hG.out, ← hU]
              exact ⟨rfl, hFin.out _, grown_trans (grown_drewN w _ _) (grown_setCell _ _ _ _)⟩
        · replace hq3 := Lib.hid hq3
          rcases Nat.mod_two_eq_zero_or_one z with hz2 | hz2
          · have hZ0 : bits BinOp.and IntKind.u64 (z : Int) 1 = 0 := by rw [hZ, hz2]; rfl
            have hU := unzz_even hb2 hz2
            replace hz2 := Lib.hid hz2
            clear hZ hb2
            go_wp2
            go_quiet (fail)
            go_wp2
            go_quiet (fail)
            go_wp2
            all_goals
              go_ret
              rw [hG.out, ← hU]
              exact ⟨rfl, hFin.out _, grown_trans (grown_drewN w _ _) (grown_setCell _ _ _ _)⟩
          · have hZ0 : bits BinOp.and IntKind.u64 (z : Int) 1 = 1 := by rw [hZ, hz2]; rfl
            have hU := unzz_odd hb2 hz2
            replace hz2 := Lib.hid hz2
            clear hZ hb2
            go_wp2
            go_quiet (fail)
            go_wp2
            go_quiet (fail)
            go_wp2
            all_goals
              go_ret
              rw [hG.out, ← hU]
              exact ⟨rfl, hFin.out _, grown_trans (grown_drewN w _ _) (grown_setCell _ _ _ _)⟩
      · obtain rfl : i = 9 := by omega
        have hx0 : ¬ (x.toNat : Int) = 0 := by omega
        have hx1 : ¬ (1 : Int) < (x.toNat : Int) := by omega
        replace hq3 := Lib.hid hq3
        replace hq1 := Lib.hid hq1
        have e63 : (2 : Int) ^ (7 * 9) = 9223372036854775808 := by decide
        rw [e63] at hS
        clear h9 hi9
        rcases Nat.mod_two_eq_zero_or_one z with hz2 | hz2
        · have hZ0 : bits BinOp.and IntKind.u64 (z : Int) 1 = 0 := by rw [hZ, hz2]; rfl
          have hU := unzz_even hb2 hz2
          replace hz2 := Lib.hid hz2
          clear hZ hb2
          go_wp2
          go_quiet (fail)
          go_wp2
          go_quiet (fail)
          go_wp2
          all_goals
            go_ret
            rw [hG.out, ← hU]
            exact ⟨rfl, hFin.out _, grown_trans (grown_drewN w _ _) (grown_setCell _ _ _ _)⟩
        · have hZ0 : bits BinOp.and IntKind.u64 (z : Int) 1 = 1 := by rw [hZ, hz2]; rfl
          have hU := unzz_odd hb2 hz2
          replace hz2 := Lib.hid hz2
          clear hZ hb2
          go_wp2
          go_quiet (fail)
          go_wp2
          go_quiet (fail)
          go_wp2
          all_goals
            go_ret
            rw [hG.out, ← hU]
            exact ⟨rfl, hFin.out _, grown_trans (grown_drewN w _ _) (grown_setCell _ _ _ _)⟩

end Go.Proofs.YtamkmdlfhlbbeaaGreatDoor.wire

namespace Go.Proofs.YtamkmdlfhlbbeaaGreatDoor.wire
open Go.RowKit Go.Proofs.YtamkmdlfhlbbeaaGreatDoor Go.Proofs.YtamkmdlfhlbbeaaGreatDoor.draw Go.Proofs.YtamkmdlfhlbbeaaGreatDoor.text

theorem RdR.drewN {M : Mem} {g : Nat} {w : World} {s : St} (h : RdR M g w s) (q : Nat) : RdR M g (w.drewN q) s := by
  cases s with
  | none => exact h
  | some l => obtain ⟨a, n, c, t, B, h1, h2, h3⟩ := h; exact ⟨a, n, c, t, B, h1, h2, h3⟩

set_option maxRecDepth 100000 in
set_option maxHeartbeats 4000000 in
theorem end_ref (M : Mem) (g : Nat) (w : World) (s : St) (h : RdR M g w s) :
    Calls Tryz.prog 67 #[.pointer (some ⟨g, 0, none⟩)] w fun e w' => (∃ r : Int, e = .returned (.int .i64 r) ∧ (r = 0 ↔ s = some [])) ∧ ∃ q, w' = w.drewN q := by
  cases s with
  | none =>
    obtain ⟨a, n, c, t, e', h1, h2⟩ := h
    have c1 := h1.cell 2
    simp only [List.getElem?_toArray, List.getElem?_cons_succ, List.getElem?_cons_zero] at c1
    have hne : ¬ (e' = 0) := h2
    have hne' : (e' == 0) = false := by simpa using h2
    go_enter Tryz.func67, Tryz.ntmps67
    go_wp2
    go_quiet (fail)
    go_wp2
    go_ret
    exact ⟨⟨_, rfl, by simp [hne]⟩, _, rfl⟩
  | some l =>
    obtain ⟨a, n, c, t, B, h1, h2, ht, hlB⟩ := h
    have hln := h2.len
    have c0 := h1.cell 0
    have c1 := h1.cell 1
    have c2 := h1.cell 2
    simp only [List.getElem?_toArray, List.getElem?_cons_succ, List.getElem?_cons_zero] at c0 c1 c2
    have hll : l.length = n - t := by rw [hlB, List.length_drop, hln.1]
    by_cases hk : t < n
    · have hk1 : (t : Int) < (n : Int) := by omega
      have hq : ¬ (some l : St) = some [] := fun e => by injection e with e; subst e; simp at hll; omega
      replace hq := Lib.hid hq
      clear hln h2 hll hlB
      go_enter Tryz.func67, Tryz.ntmps67
      go_wp2
      go_quiet (fail)
      go_wp2
      go_ret
      exact ⟨⟨_, rfl, by simp [hq.out]⟩, _, rfl⟩
    · obtain rfl : l = [] := List.eq_nil_of_length_eq_zero (by omega)
      have hk1 : ¬ (t : Int) < (n : Int) := by omega
      clear hln h2 hll hlB
      go_enter Tryz.func67, Tryz.ntmps67
      go_wp2
      go_quiet (fail)
      go_wp2
      go_ret
      exact ⟨⟨_, rfl, by simp⟩, _, rfl⟩

set_option maxRecDepth 100000 in
set_option maxHeartbeats 4000000 in
theorem count_ref (M : Mem) (g : Nat) (w : World) (s : St) (hM : Sub M (but g w)) (most : Int) (hm : 0 ≤ most) (h : RdR M g w s) :
    Calls Tryz.prog 64 #[.pointer (some ⟨g, 0, none⟩), .int .i64 most] w (ReadR M g w (fun r _ => r = .returned (.int .i64 (rdLen most s).1)) (rdLen most s).2) := by
  have hN := Lib.hid (number_ref M g w s hM h)
  clear h
  go_enter Tryz.func64, Tryz.ntmps64
  go_wp2_with fail
  refine hN.out.mono ?_
  clear hN
  rintro e1 w1 ⟨rfl, h1, hg1⟩
  cases hq : (rdN s).2 with
  | none =>
    rw [hq] at h1
    have hz := rdN_zero hq
    have hL := Lib.hid (rdLen_fail (m := most) hq)
    rw [hz]
    obtain ⟨e', c1, hne⟩ := h1.err
    have hne' : (e' == 0) = false := by simpa using hne
    have hl1 := h1.lt
    replace h1 := Lib.hid h1
    replace hg1 := Lib.hid hg1
    have hm0 : ¬ most < 0 := by omega
    clear hq hz
    go_wp2
    go_ret
    rw [hL.out]
    exact ⟨rfl, h1.out, hg1.out⟩
  | some r =>
    rw [hq] at h1
    have hp : rdN s = ((rdN s).1, some r) := by rw [← hq]
    obtain ⟨n, hn⟩ : ∃ n, (rdN s).1 = n := ⟨_, rfl⟩
    rw [hn] at hp ⊢
    have hl1 := h1.lt
    have c1 := h1.ok
    by_cases hb : n < 0 ∨ most < n
    · have hL := Lib.hid (rdLen_bad hp hb)
      have hF := fun e he => Lib.hid (fail_ref M g w1 (some r) e he h1)
      replace hg1 := Lib.hid hg1
      clear hp hn hq
      by_cases hn0 : n < 0
      · have hF1 := hF 3 (by decide)
        clear hF hb
        go_wp2_with fail
        refine hF1.out.mono ?_
        clear hF1
        rintro e2 w2 ⟨rfl, h2, hg2⟩
        obtain ⟨e', c1, hne⟩ := h2.err
        have hne' : (e' == 0) = false := by simpa using hne
        have hl2 := h2.lt
        have hG := Lib.hid (grown_trans hg1.out hg2)
        replace h2 := Lib.hid h2
        clear hg2
        go_wp2
        go_ret
        rw [hL.out]
        exact ⟨rfl, h2.out, hG.out⟩
      · have hn1 : most < n := by omega
        have hF1 := hF 5 (by decide)
        clear hF hb
        go_wp2_with fail
        refine hF1.out.mono ?_
        clear hF1
        rintro e2 w2 ⟨rfl, h2, hg2⟩
        obtain ⟨e', c1, hne⟩ := h2.err
        have hne' : (e' == 0) = false := by simpa using hne
        have hl2 := h2.lt
        have hG := Lib.hid (grown_trans hg1.out hg2)
        replace h2 := Lib.hid h2
        clear hg2
        go_wp2
        go_ret
        rw [hL.out]
        exact ⟨rfl, h2.out, hG.out⟩
    · have hL := Lib.hid (rdLen_good hp hb)
      have hn0 : ¬ n < 0 := by omega
      have hn1 : ¬ most < n := by omega
      have hnn : n = (n.toNat : Int) := by omega
      replace h1 := Lib.hid h1
      replace hg1 := Lib.hid hg1
      replace hnn := Lib.hid hnn
      clear hp hn hq hb
      go_wp2
      go_ret
      rw [hL.out]
      exact ⟨by rw [← hnn.out]; rfl, h1.out, hg1.out⟩

end Go.Proofs.YtamkmdlfhlbbeaaGreatDoor.wire

namespace Go.Proofs.YtamkmdlfhlbbeaaGreatDoor.wire
open Go.RowKit Go.Proofs.YtamkmdlfhlbbeaaGreatDoor Go.Proofs.YtamkmdlfhlbbeaaGreatDoor.draw Go.Proofs.YtamkmdlfhlbbeaaGreatDoor.text

theorem RdR.at {M : Mem} {g : Nat} {w : World} {s : St} (h : RdR M g w s) : ∃ t : Int, w.cell? ⟨g, 1, none⟩ = some (.int .i64 t) ∧ w.frozen? ⟨g, 1, none⟩ = false := by
  cases s with
  | none => obtain ⟨a, n, c, t, e, h1, h2⟩ := h; exact ⟨t, h1.cell 1, h1.free 1⟩
  | some l => obtain ⟨a, n, c, t, B, h1, h2, h3⟩ := h; exact ⟨t, h1.cell 1, h1.free 1⟩
theorem RdR.back {M : Mem} {g : Nat} {w : World} (h : RdR M g w none) (t : Int) : RdR M g (w.setCell ⟨g, 1, none⟩ (.int .i64 t)) none := by
  obtain ⟨a, n, c, t', e, h1, h2⟩ := h
  exact ⟨a, n, c, t, e, h1.set 1 _, h2⟩
theorem BV.cut {m : Mem} {a : Option Addr} {n c : Nat} {l : List UInt8} (h : BV m (.slice a n c) l) {k : Nat} (hk : k ≤ n) : BV m (.slice a k c) (l.take k) := by
  have hl := h.len
  refine ⟨a, c, by rw [List.length_map, List.length_take, Nat.min_eq_left (by omega)], by rw [List.length_map, List.length_take]; omega, by omega, ?_⟩
  rcases h.cell with rfl | ⟨blk, off, rfl, hc⟩
  · exact Or.inl (by simp)
  · refine Or.inr ⟨blk, off, rfl, fun i r hr j x hx => ?_⟩
    rw [List.map_take, List.getElem?_take] at hr
    split at hr
    · rw [List.getElem?_map] at hr
      obtain ⟨u, hu, rfl⟩ := Option.map_eq_some_iff.1 hr
      obtain ⟨hlt, rfl⟩ := List.getElem?_eq_some_iff.1 hu
      match j, hx with
      | 0, hx =>
        injection hx with hx
        subst hx
        have := hc i hlt
        rw [← this]
        congr 2
        omega
      | j + 1, hx => simp [byteRow] at hx
    · cases hr
theorem rdT_bad {m : Int} {s : St} (h : rdLen m s = (0, none)) : rdT m s = ([], none) := by rw [rdT_tk, h]; rfl

set_option maxRecDepth 100000 in
set_option maxHeartbeats 8000000 in
theorem rtext_ref (M : Mem) (g : Nat) (w : World) (s : St) (hM : Sub M (but g w)) (most : Int) (_hm : 0 ≤ most) (h : RdR M g w s) :
    Calls Tryz.prog 65 #[.pointer (some ⟨g, 0, none⟩), .int .i64 most] w (ReadR M g w (fun r _ => r = .returned (.string ⟨(rdT most s).1.toArray⟩)) (rdT most s).2) := by
  have hN := Lib.hid (number_ref M g w s hM h)
  obtain ⟨t0, d0, -⟩ := h.at
  have hl := h.lt
  clear h
  go_enter Tryz.func65, Tryz.ntmps65
  go_wp2_with fail
  refine hN.out.mono ?_
  clear hN d0 hl
  rintro e1 w1 ⟨rfl, h1, hg1⟩
  cases hq : (rdN s).2 with
  | none =>
    rw [hq] at h1
    have hz := rdN_zero hq
    have hL := Lib.hid (rdT_bad (rdLen_fail (m := most) hq))
    rw [hz]
    obtain ⟨e', c1, hne⟩ := h1.err
    obtain ⟨t1, d1, f1⟩ := h1.at
    have hne' : (e' == 0) = false := by simpa using hne
    have hl1 := h1.lt
    have hD := Lib.hid (h1.back t0)
    have hG := Lib.hid (grown_trans hg1 (grown_setCell w1 g 1 (.int .i64 t0)))
    clear hq hz h1 hg1
    go_wp2
    go_ret
    rw [hL.out]
    exact ⟨rfl, hD.out, hG.out⟩
  | some r =>
    rw [hq] at h1
    have hp : rdN s = ((rdN s).1, some r) := by rw [← hq]
    obtain ⟨n, hn⟩ : ∃ n, (rdN s).1 = n := ⟨_, rfl⟩
    rw [hn] at hp ⊢
    have hl1 := h1.lt
    have c1 := h1.ok
    by_cases hb : n < 0 ∨ most < n
    · have hL := Lib.hid (rdT_bad (rdLen_bad hp hb))
      have hF := fun e he => Lib.hid (fail_ref M g w1 (some r) e he h1)
      replace hg1 := Lib.hid hg1
      clear hp hn hq h1
      by_cases hn0 : n < 0
      · have hF1 := hF 3 (by decide)
        clear hF hb
        go_wp2_with fail
        refine hF1.out.mono ?_
        clear hF1
        rintro e2 w2 ⟨rfl, h2, hg2⟩
        obtain ⟨t1, d1, f1⟩ := h2.at
        have hl2 := h2.lt
        have hD := Lib.hid (h2.back t0)
        have hG := Lib.hid (grown_trans (grown_trans hg1.out hg2) (grown_setCell w2 g 1 (.int .i64 t0)))
        clear hg2 h2
        go_wp2
        go_ret
        rw [hL.out]
        exact ⟨rfl, hD.out, hG.out⟩
      · have hn1 : most < n := by omega
        have hF1 := hF 4 (by decide)
        clear hF hb
        go_wp2_with fail
        refine hF1.out.mono ?_
        clear hF1
        rintro e2 w2 ⟨rfl, h2, hg2⟩
        obtain ⟨t1, d1, f1⟩ := h2.at
        have hl2 := h2.lt
        have hD := Lib.hid (h2.back t0)
        have hG := Lib.hid (grown_trans (grown_trans hg1.out hg2) (grown_setCell w2 g 1 (.int .i64 t0)))
        clear hg2 h2
        go_wp2
        go_ret
        rw [hL.out]
        exact ⟨rfl, hD.out, hG.out⟩
    · have hL := rdLen_good hp hb
      have hn0 : ¬ n < 0 := by omega
      have hn1 : ¬ most < n := by omega
      obtain ⟨k, rfl⟩ : ∃ k : Nat, n = (k : Int) := ⟨n.toNat, by omega⟩
      have hT : rdT most s = tk k (some r) := by rw [rdT_tk, hL]; simp
      clear hL hp hn hq hb
      have h1' := h1
      obtain ⟨a, m, c, t, B, o1, hV, ht, hrB⟩ := h1'
      obtain ⟨hmB, hmc, hcm⟩ := hV.len
      have d0 := o1.cell 0
      have d1 := o1.cell 1
      have f1 := o1.free 1
      simp only [List.getElem?_toArray, List.getElem?_cons_succ, List.getElem?_cons_zero] at d0 d1
      have hmx : (m : Int) ≤ 9223372036854775807 := by unfold maxLen at hcm; omega
      have hrl : r.length = m - t := by rw [hrB, List.length_drop, hmB]
      have hmt : IntKind.i64.wrap ((m : Int) - (t : Int)) = (m : Int) - (t : Int) := IntWalk.i64_in _ (by omega)
      have htm : (t : Int) ≤ (m : Int) := by omega
      replace hmB := Lib.hid hmB
      by_cases hk : m - t < k
      · have hS : rdT most s = ([], none) := hT.trans (if_pos (by omega))
        have hkk : (m : Int) - (t : Int) < (k : Int) := by omega
        have hRd : ∀ q', Hid (RdR M g (w1.drewN q') (some r)) := fun q' => Lib.hid (h1.drewN q')
        replace hS := Lib.hid hS
        replace hT := Lib.hid hT
        replace hrl := Lib.hid hrl
        replace hrB := Lib.hid hrB
        replace hg1 := Lib.hid hg1
        clear h1
        go_wp2
        go_quiet (fail)
        go_wp2_with fail
        refine (fail_ref M g _ (some r) 16 (by decide) (hRd _).out).mono ?_
        rintro e2 w2 ⟨rfl, h2, hg2⟩
        obtain ⟨t1, d1', f1'⟩ := h2.at
        have hl2 := h2.lt
        have hD := Lib.hid (h2.back t0)
        have hG := Lib.hid (grown_trans (grown_trans (grown_trans hg1.out (grown_drewN w1 _ _)) hg2) (grown_setCell w2 g 1 (.int .i64 t0)))
        clear hg2 h2 d0 d1 f1 c1 hRd
        go_wp2
        go_ret
        rw [hS.out]
        exact ⟨rfl, hD.out, hG.out⟩
      · have hS : rdT most s = (r.take k, some (r.drop k)) := hT.trans (if_neg (by omega))
        have hkk : ¬ (m : Int) - (t : Int) < (k : Int) := by omega
        have e1 : IntKind.i64.wrap ((t : Int) + (k : Int) - (k : Int)) = (t : Int) := by rw [Int.add_sub_cancel]; exact IntWalk.i64_in _ (by omega)
        have e2 : ((t : Int) + (k : Int)).toNat = t + k := by omega
        have e3 : (0 : Int) ≤ (t : Int) := by omega
        have e4 : (t : Int) ≤ (t : Int) + (k : Int) := by omega
        have e5 : (t : Int) + (k : Int) ≤ (c : Int) := by omega
        have e6 : (t : Int) + (k : Int) ≤ (m : Int) := by omega
        have e7 : t + k - t = k := by omega
        have hC : t = c → Hid (∀ u : World, Sub M u.cell? → (convert 25 9 (.slice a k 0)).run Tryz.prog u = .ok (.string ⟨(r.take k).toArray⟩) u) := fun e => Lib.hid fun u hu => by
          have h0 := BV.cut (hV.dropC (by omega)) (k := k) (by omega)
          rw [← e, ← hrB] at h0
          exact conv_bv (h0.mono hu)
        have hN : ¬ t = c → Hid (∀ u : World, Sub M u.cell? → (convert 25 9 (.slice (a.map (·.add t)) k (c - t))).run Tryz.prog u = .ok (.string ⟨(r.take k).toArray⟩) u) := fun e => Lib.hid fun u hu => by
          have h0 := BV.cut (hV.dropN (k := t) (by omega) e) (k := k) (by omega)
          rw [← hrB] at h0
          exact conv_bv (h0.mono hu)
        have hFin : ∀ q' q2, RdR M g (((w1.drewN q').setCell ⟨g, 1, none⟩ (.int .i64 ((t : Int) + (k : Int)))).drewN q2) (some (r.drop k)) := fun q' q2 => by
          refine RdR.drewN ?_ _
          rw [show ((t : Int) + (k : Int)) = ((t + k : Nat) : Int) by omega]
          exact ⟨a, m, c, t + k, B, Own.set (w := w1.drewN q') o1 1 _, hV, by omega, by rw [hrB, List.drop_drop]⟩
        have hM1 : Sub M (but g w1) := hM.trans (sub_of_grown hg1)
        have hsub : ∀ q' q2, Sub M ((((w1.drewN q').setCell ⟨g, 1, none⟩ (.int .i64 ((t : Int) + (k : Int)))).drewN q2).cell?) := fun q' q2 =>
          hM1.trans (Sub.trans (but_set (w := w1.drewN q') (g := g) (o := 1)) (but_sub _ _))
        replace hS := Lib.hid hS
        replace hg1 := Lib.hid hg1
        replace hFin := Lib.hid hFin
        replace hsub := Lib.hid hsub
        replace hV := Lib.hid hV
        replace hrB := Lib.hid hrB
        replace hrl := Lib.hid hrl
        have o1h := Lib.hid o1
        clear hT
        go_wp2
        go_quiet (fail)
        go_wp2_with fail
        have o2 := Own.set (w := w1.drewN nq) o1h.out 1 (.int .i64 ((t : Int) + (k : Int)))
        have b0 := o2.cell 0
        have b1 := o2.cell 1
        simp only [List.setIfInBounds_toArray, List.set_cons_zero, List.set_cons_succ, List.getElem?_toArray, List.getElem?_cons_succ, List.getElem?_cons_zero] at b0 b1
        have b2 := o2.lt
        have hend := Lib.hid (fun q2 => hFin.out nq q2)
        have hgr := Lib.hid (grown_trans (grown_trans hg1.out (grown_drewN w1 nq (some g))) (grown_setCell (w1.drewN nq) g 1 (.int .i64 ((t : Int) + (k : Int)))))
        obtain ⟨T, hTx⟩ : ∃ T : ByteArray, Hid (T = ⟨(r.take k).toArray⟩) := ⟨_, Lib.hid rfl⟩
        rw [← hTx.out] at hC hN
        by_cases htc : t = c
        · have hcv := fun q2 => (hC htc).out _ (hsub.out nq q2)
          clear hC hN hsub hFin d0 d1 c1 f1 o2
          generalize World.setCell (w1.drewN nq) ⟨g, 1, none⟩ (.int .i64 ((t : Int) + (k : Int))) = w2 at b0 b1 b2 hcv hend hgr ⊢
          go_quiet (fail)
          go_wp2
          go_ret
          rw [hS.out, ← hTx.out]
          exact ⟨rfl, hend.out _, grown_trans hgr.out (grown_drewN w2 _ _)⟩
        · have hcv := fun q2 => (hN htc).out _ (hsub.out nq q2)
          clear hC hN hsub hFin d0 d1 c1 f1 o2
          generalize World.setCell (w1.drewN nq) ⟨g, 1, none⟩ (.int .i64 ((t : Int) + (k : Int))) = w2 at b0 b1 b2 hcv hend hgr ⊢
          go_quiet (fail)
          go_wp2
          go_ret
          rw [hS.out, ← hTx.out]
          exact ⟨rfl, hend.out _, grown_trans hgr.out (grown_drewN w2 _ _)⟩

end Go.Proofs.YtamkmdlfhlbbeaaGreatDoor.wire

namespace Go.Proofs.YtamkmdlfhlbbeaaGreatDoor.wire
open Go.RowKit Go.Proofs.YtamkmdlfhlbbeaaGreatDoor Go.Proofs.YtamkmdlfhlbbeaaGreatDoor.draw Go.Proofs.YtamkmdlfhlbbeaaGreatDoor.text Go.Proofs.YtamkmdlfhlbbeaaGreatDoor.subj

set_option maxRecDepth 100000 in
set_option maxHeartbeats 4000000 in
theorem putN_ref (a : Option Addr) (m c : Nat) (l : List UInt8) (n : Int) (w : World) (h : BV w.cell? (.slice a m c) l) (hm : m ≤ 1073741824) (h1 : -9223372036854775808 ≤ n) (h2 : n ≤ 9223372036854775807) :
    Calls Tryz.prog 55 #[.slice a m c, .int .i64 n] w fun e w' => OutB w.heap.size (l ++ putN n) e w' ∧ Below w.heap.size w w' := by
  have hsg : IntKind.u64.signed = false := rfl
  have hZ : (n < 0 ∧ bits BinOp.xor IntKind.u64 IntKind.u64.max (IntKind.u64.wrap (IntKind.u64.wrap n * 2)) = (zz n : Int)) ∨ (¬ n < 0 ∧ n * 2 = (zz n : Int)) := by
    by_cases hn : n < 0
    · exact Or.inl ⟨hn, zz_neg h1 hn⟩
    · exact Or.inr ⟨hn, by unfold zz; rw [if_neg hn]; omega⟩
  have hz := Lib.hid (zz_lt h1 (by omega))
  unfold putN
  generalize zz n = z at hZ hz
  have hml := Lib.hid h.len.1
  have hV := Lib.hid h
  have hB0 := Lib.hid (bs_nil w.heap.size w)
  clear h
  go_enter Tryz.func55, Tryz.ntmps55
  go_wp2_with (at_builtin; refine wpList_append_bytes rfl _ _ rfl w.heap.size _ 0 _ [] rfl hB0.out rfl a m c l rfl hV.out (by omega) (by omega) ?_; intro va vc w1 hB1 hl1 hb1; simp only [Nat.zero_add, List.nil_append] at hB1 hl1 ⊢; replace hb1 := Lib.hid hb1; replace hB1 := Lib.hid hB1; replace hl1 := Lib.hid hl1; clear hB0; (rcases hZ with ⟨hn, hZ⟩ | ⟨hn, hZ⟩))
  all_goals
    replace hZ := Lib.hid hZ
    go_loopw [0, 5] (fun s0 s5 wr => ∃ (u : Nat) (va : Option Addr) (k vc : Nat) (acc : List UInt8), s5 = .int .u64 u ∧ s0 = .slice va (m + k) vc ∧ Hid (k = acc.length ∧ acc ++ grp u = grp z ∧ u < 18446744073709551616) ∧ Hid (BS w.heap.size (.slice va (m + k) vc) (l ++ acc) wr) ∧ Hid (Below w.heap.size w wr)) (fun _ s5 _ => (intOf s5).toNat)
    case atStart => exact ⟨z, va, 0, vc, [], (by first | rfl | rw [hZ.out]), rfl, Lib.hid ⟨rfl, rfl, hz.out⟩, (by rw [List.append_nil]; exact hB1), hb1⟩
    case round =>
      obtain ⟨u, va, k, vc, acc, rfl, rfl, hA, hB, hb⟩ := hrel
      have hm := hA.out.1
      have hG := hA.out.2.1
      have hu64 := hA.out.2.2
      have hfew : k ≤ 9 := by
        have h3 := grp_few hz.out
        have h4 := grp_pos u
        rw [← hG, List.length_append] at h3
        omega
      have hs0 := hb.out.size
      have hmk := Lib.hid (show m + k = (l ++ acc).length by rw [List.length_append, ← hm, ← hml.out])
      replace hm := Lib.hid hm
      by_cases hlt : u < 128
      · have hu : ¬ (127 : Int) < (u : Int) := by omega
        have hE := Lib.hid (show (l ++ acc) ++ [UInt8.ofNat u] = l ++ grp z by rw [← hG, grp_lt hlt]; simp)
        have hc := byte_last hlt
        clear hG
        replace hA := Lib.hid hA
        go_wp2_with (at_builtin; refine wpList_append_byte rfl _ _ rfl w.heap.size va (m + k) vc (l ++ acc) (UInt8.ofNat u) rfl hB.out hmk.out rfl rfl (by omega) (by omega) ?_; intro g cap w2 hB2 hb2 hlt2; replace hB2 := Lib.hid hB2; have hb3 := Lib.hid (hb.out.trans hb2); clear hb2)
        go_ret
        exact ⟨⟨_, _, _, rfl, by rw [← hE.out, List.length_append, ← hmk.out]; rfl, by rw [← hE.out]; exact hB2.out⟩, hb3.out⟩
      · have hu : (127 : Int) < (u : Int) := by omega
        have hE := Lib.hid (show (acc ++ [UInt8.ofNat (u % 128 + 128)]) ++ grp (u / 128) = grp z by rw [← hG, grp_ge hlt]; simp)
        have hc := byte_moreR' u hu64
        clear hG
        replace hA := Lib.hid hA
        go_wp2_with (at_builtin; refine wpList_append_byte rfl _ _ rfl w.heap.size va (m + k) vc (l ++ acc) (UInt8.ofNat (u % 128 + 128)) rfl hB.out hmk.out rfl rfl (by omega) (by omega) ?_; intro g cap w2 hB2 hb2 hlt2; replace hB2 := Lib.hid hB2; have hb3 := Lib.hid (hb.out.trans hb2); clear hb2)
        refine ⟨⟨u / 128, _, k + 1, _, acc ++ [UInt8.ofNat (u % 128 + 128)], by simp, rfl, Lib.hid ⟨by rw [List.length_append, ← hm.out]; rfl, hE.out, by omega⟩, Lib.hid (by rw [← List.append_assoc]; exact hB2.out), hb3⟩, ?_⟩
        simp only [intOf]
        omega

set_option maxRecDepth 100000 in
set_option maxHeartbeats 4000000 in
theorem putT_ref (a : Option Addr) (m c : Nat) (l : List UInt8) (t : ByteArray) (w : World) (h : BV w.cell? (.slice a m c) l) (hm : m ≤ 1073741824) (ht : t.size ≤ 1073741824) :
    Calls Tryz.prog 56 #[.slice a m c, .string t] w fun e w' => OutB w.heap.size (l ++ putT t.data.toList) e w' ∧ Below w.heap.size w w' := by
  have hG := Lib.hid (putN_ref a m c l (t.size : Int) w h hm (by omega) (by omega))
  have hf := putN_few (n := (t.size : Int)) (by omega) (by omega)
  have hml := h.len.1
  have hP : l ++ putT t.data.toList = (l ++ putN (t.size : Int)) ++ t.data.toList := by unfold putT; simp
  have hL : (l ++ putN (t.size : Int)).length ≤ m + 10 := by rw [List.length_append]; omega
  rw [hP]
  clear h hP hml hf
  generalize l ++ putN (t.size : Int) = L at hG hL
  go_enter Tryz.func56, Tryz.ntmps56
  go_wp2_with fail
  refine hG.out.mono ?_
  clear hG
  rintro e w1 ⟨⟨a1, n1, c1, rfl, hn1, hB1⟩, hb1⟩
  have hs := hb1.size
  have hn1' : n1 ≤ m + 10 := by omega
  replace hb1 := Lib.hid hb1
  replace hB1 := Lib.hid hB1
  replace hn1 := Lib.hid hn1
  go_wp2_with (at_builtin; refine wpList_append_text rfl _ _ rfl w.heap.size a1 n1 c1 L rfl hB1.out hn1.out t rfl (by omega) (by omega) ?_; intro va vc w2 hB2 hn2 hb2; have hb3 := Lib.hid (hb1.out.trans hb2); replace hB2 := Lib.hid hB2; replace hn2 := Lib.hid hn2; clear hb2)
  go_ret
  exact ⟨⟨_, _, _, rfl, hn2.out, hB2.out⟩, hb3.out⟩

set_option maxRecDepth 100000 in
set_option maxHeartbeats 4000000 in
theorem new_ref (a : Option Addr) (m c : Nat) (l : List UInt8) (w : World) (h : BV w.cell? (.slice a m c) l) :
    Calls Tryz.prog 63 #[.slice a m c] w fun e w' => ∃ g, e = .returned (.pointer (some ⟨g, 0, none⟩)) ∧ w.heap.size ≤ g ∧ RdR (but g w') g w' (some l) ∧ Below w.heap.size w w' := by
  have hO := Lib.hid (Own.new w #[.slice a m c, .int .i64 0, .int .i64 0] 137)
  have hb := Lib.hid ((Below.refl w.heap.size w).alloc (Nat.le_refl _) (.cells #[.slice a m c, .int .i64 0, .int .i64 0] 137))
  have hV : BV (but w.heap.size w) (.slice a m c) l := RowsAt.mono (fun p v hp => by
    have := World.block_lt_of_cell? w _ hp
    unfold but
    rw [if_neg (by omega)]
    exact hp) h
  have hV2 := Lib.hid (hV.mono (sub_of_grown (grown_of_below hb.out (some w.heap.size))))
  have hV1 := Lib.hid h
  clear h hV
  go_enter Tryz.func63, Tryz.ntmps63
  go_wp2
  go_ret
  exact ⟨_, rfl, Nat.le_refl _, ⟨a, m, c, 0, l, hO.out, hV2.out, by omega, rfl⟩, hb.out⟩

end Go.Proofs.YtamkmdlfhlbbeaaGreatDoor.wire
