/- The reference's Print of chapter 34. -/
import Derived.Test.YtnghpjijfdpmkaaDoorMetF
import Derived.Deep.RegionWith
import Derived.Deep.DeepCutAuto
import Derived.KernelRfl
import Derived.Deep.QuietTactic
import Derived.BigQuiet
namespace Go.Proofs.YtnghpjijfdpmkaaDoor.metric
open Go.RowKit Go.Proofs.YtnghpjijfdpmkaaDoor Go.Proofs.YtnghpjijfdpmkaaDoor.text

theorem quiet_again {P : Program} {f : FuncId} {args : Array Value} {w : World} {a n : Nat} {v : Value}
    (h : Calls P f args (w.drewN (a + n)) fun e w' => e = .returned v ∧ w' = w.drewN (a + n)) :
    Calls P f args (w.drewN (a + n)) fun e w'' => e = .returned v ∧ ∃ m, w'' = w.drewN (a + m) := h.mono fun _ _ ⟨he, hm⟩ => ⟨he, n, hm⟩
theorem word_cell (w : World) (K : Nat) (h1 : 1 ≤ K) (h4 : K ≤ 4) : (w.alloc (.cells #[.string ⟨#[]⟩, .string ⟨#[115, 117, 109]⟩, .string ⟨#[99, 111, 117, 110, 116]⟩, .string ⟨#[115, 104, 97, 114, 101]⟩, .string ⟨#[114, 97, 116, 105, 111]⟩] 9)).drew.cell? ⟨w.heap.size, K, none⟩ = some (.string ⟨(kindW K).toArray⟩) := by
  have h := (Own.new w #[.string ⟨#[]⟩, .string ⟨#[115, 117, 109]⟩, .string ⟨#[99, 111, 117, 110, 116]⟩, .string ⟨#[115, 104, 97, 114, 101]⟩, .string ⟨#[114, 97, 116, 105, 111]⟩] 9).cell K
  rcases (show K = 1 ∨ K = 2 ∨ K = 3 ∨ K = 4 by omega) with rfl | rfl | rfl | rfl <;> exact h
theorem str_size {x : ByteArray} {l : List UInt8} {n : Nat} (h : x = ⟨l.toArray⟩) (hl : l.length ≤ n) : x.size ≤ n := by
  rw [h]; show l.toArray.size ≤ n; simpa using hl
theorem bytes_size {x : ByteArray} {l : List UInt8} {n : Nat} (h : x.data.toList = l) (hl : l.length ≤ n) : x.size ≤ n := by
  have : x.data.toList.length = x.size := by rw [Array.length_toList]; rfl
  rw [h] at this; omega
theorem named (x : ByteArray) : ∃ z, Hid (z = x) := ⟨x, Lib.hid rfl⟩
theorem ret_eq {a b : Value} (h : a = b) : Ending.returned b = .returned a := by rw [h]
theorem app_l (a b : ByteArray) : (a ++ b).data.toList = a.data.toList ++ b.data.toList := by simp [ByteArray.data_append]
theorem of_list {x : ByteArray} {l : List UInt8} (h : x.data.toList = l) : x = ⟨l.toArray⟩ := by
  apply ByteArray.ext; rw [← h]
theorem list_of {x : ByteArray} {l : List UInt8} (h : x = ⟨l.toArray⟩) : x.data.toList = l := by rw [h]
theorem bel_dr {B : Nat} {a w : World} (h : Below B a w) (n : Nat) : Below B a (w.drewN n) := h.trans ⟨rfl, rfl, rfl, Nat.le_refl _, fun _ _ => rfl⟩
theorem own_dr {w : World} {b : Nat} {xs : Array Value} {t : TypeId} (h : Own w b xs t) (n : Nat) : Own (w.drewN n) b xs t := h
theorem kindW_len (K : Nat) : (kindW K).length ≤ 5 := by unfold kindW; split <;> decide

set_option maxRecDepth 100000 in
set_option maxHeartbeats 16000000 in
theorem print_mr (m : MV) (s t : ByteArray) (w : World) (hs : s.data.toList = m.name) (ht : t.data.toList = m.below) (hsz : s.size ≤ maxLen) (htz : t.size ≤ maxLen) :
    Calls Tryd.prog 11 #[.agg #[.int .i64 m.k, .string s, .string t, .int .i64 m.win, .int .i64 m.cap, .int .i64 m.least, .int .i64 m.before]] w fun e w' => e = .returned (printV m) ∧ Below w.heap.size w w' := by
  have hO := Lib.hid (Own.new w #[.int .i64 m.k, .string s, .string t, .int .i64 m.win, .int .i64 m.cap, .int .i64 m.least, .int .i64 m.before] 29)
  have hB := Lib.hid (show Below w.heap.size w (w.alloc (.cells #[.int .i64 m.k, .string s, .string t, .int .i64 m.win, .int .i64 m.cap, .int .i64 m.least, .int .i64 m.before] 29)) from (Below.refl _ _).alloc (Nat.le_refl _) _)
  replace hs := Lib.hid hs
  replace ht := Lib.hid ht
  replace hsz := Lib.hid hsz
  replace htz := Lib.hid htz
  go_enter Tryd.func11, Tryd.ntmps11
  go_wp2_with fail
  refine (check_mr m s t _ hs.out ht.out hsz.out htz.out).mono ?_
  rintro e w1 ⟨rfl, hb1⟩
  have hO1 := Lib.hid (hO.out.below hb1 hO.out.lt)
  have hB1 := Lib.hid (hB.out.trans (hb1.mono hB.out.size))
  clear hb1 hO hB
  by_cases ea : chkM m = 0
  case neg =>
    have hQ := Lib.hid (printV_bad ea)
    have e1 : (chkM m != 0) = true := by simp [ea]
    clear ea
    generalize chkM m = c at e1 hQ ⊢
    go_wp2
    go_ret2
    exact ⟨ret_eq hQ.out, hB1.out⟩
  have hM := mok ea
  have hPV := Lib.hid (printV_ok ea)
  rw [ea]
  clear ea
  obtain ⟨K, hK⟩ : ∃ K : Nat, m.k = (K : Int) := ⟨m.k.toNat, by have := hM.k; omega⟩
  have hK1 : 1 ≤ K := by have := hM.k; omega
  have hK4 : K ≤ 4 := by have := hM.k; omega
  rw [hK] at hO1 ⊢
  obtain ⟨kw, hkw⟩ : ∃ x : ByteArray, Hid (x = ⟨(kindW K).toArray⟩) := ⟨⟨(kindW K).toArray⟩, rfl⟩
  obtain ⟨nW, hnW⟩ : ∃ x : ByteArray, Hid (x = ⟨(Lib.itoa m.win).toArray⟩) := ⟨⟨(Lib.itoa m.win).toArray⟩, rfl⟩
  obtain ⟨nC, hnC⟩ : ∃ x : ByteArray, Hid (x = ⟨(Lib.itoa m.cap).toArray⟩) := ⟨⟨(Lib.itoa m.cap).toArray⟩, rfl⟩
  obtain ⟨nL, hnL⟩ : ∃ x : ByteArray, Hid (x = ⟨(Lib.itoa m.least).toArray⟩) := ⟨⟨(Lib.itoa m.least).toArray⟩, rfl⟩
  obtain ⟨nB, hnB⟩ : ∃ x : ByteArray, Hid (x = ⟨(Lib.itoa m.before).toArray⟩) := ⟨⟨(Lib.itoa m.before).toArray⟩, rfl⟩
  have zK := str_size hkw.out (kindW_len K)
  have zW := str_size hnW.out (itoa_14 (by have := hM.win; omega) (by have := hM.win; omega))
  have zC := str_size hnC.out (itoa_14 (by have := hM.cap; omega) (by have := hM.cap; omega))
  have zL := str_size hnL.out (itoa_14 hM.least.1 hM.least.2)
  have zB := str_size hnB.out (itoa_14 (by have := hM.before; omega) (by have := hM.before; omega))
  have zS := bytes_size hs.out (key_len hM.name).1
  have qW := Lib.hid (number_q m.win nW hnW.out (by have := hM.win; omega) (by have := hM.win; omega))
  have qC := Lib.hid (number_q m.cap nC hnC.out (by have := hM.cap; omega) (by have := hM.cap; omega))
  have qL := Lib.hid (number_q m.least nL hnL.out hM.least.1 hM.least.2)
  have qB := Lib.hid (number_q m.before nB hnB.out (by have := hM.before; omega) (by have := hM.before; omega))
  replace hM := Lib.hid hM
  replace hK := Lib.hid hK
  obtain ⟨c0, c1, c2, c3, c4, c5, c6⟩ := box7 hO1.out
  have hlt := hO1.out.lt
  have ck := word_cell w1 K hK1 hK4
  rw [← hkw.out] at ck
  have n0 : (0 : Int) ≤ (K : Int) := Int.natCast_nonneg _
  have n1 : (K : Int) < 5 := by omega
  replace ck := Lib.hid ck
  have g1 : ¬ 9223372036854775807 < kw.size + 4 := by omega
  have g2 : ¬ 9223372036854775807 < kw.size + 4 + s.size := by omega
  go_upto_region 4 with fail
  go_cut [5] (fun s5 wx => s5 = .string (kw ++ (⟨#[32, 111, 102, 32]⟩ : ByteArray) ++ s) ∧ wx = (w1.alloc (.cells #[.string ⟨#[]⟩, .string ⟨#[115, 117, 109]⟩, .string ⟨#[99, 111, 117, 110, 116]⟩, .string ⟨#[115, 104, 97, 114, 101]⟩, .string ⟨#[114, 97, 116, 105, 111]⟩] 9)).drew)
  case first =>
    go_region_with ((go_at_call 31; refine (kinds_ref _).mono ?_; rintro e u1 ⟨rfl, rfl⟩; have ck1 := ck.out; have d0 : (w1.alloc (.cells #[.string ⟨#[]⟩, .string ⟨#[115, 117, 109]⟩, .string ⟨#[99, 111, 117, 110, 116]⟩, .string ⟨#[115, 104, 97, 114, 101]⟩, .string ⟨#[114, 97, 116, 105, 111]⟩] 9)).drew.cell? ⟨w.heap.size, 0, none⟩ = some (.int .i64 K) := (hO1.out.alloc _).drew.cell 0; have d1 : (w1.alloc (.cells #[.string ⟨#[]⟩, .string ⟨#[115, 117, 109]⟩, .string ⟨#[99, 111, 117, 110, 116]⟩, .string ⟨#[115, 104, 97, 114, 101]⟩, .string ⟨#[114, 97, 116, 105, 111]⟩] 9)).drew.cell? ⟨w.heap.size, 1, none⟩ = some (.string s) := (hO1.out.alloc _).drew.cell 1))
    all_goals
      go_wp2_with fail
      go_meet
      exact ⟨rfl, rfl⟩
  obtain ⟨rfl, rfl⟩ := hcut
  have hO2 := Lib.hid (show Own (w1.alloc (.cells #[.string ⟨#[]⟩, .string ⟨#[115, 117, 109]⟩, .string ⟨#[99, 111, 117, 110, 116]⟩, .string ⟨#[115, 104, 97, 114, 101]⟩, .string ⟨#[114, 97, 116, 105, 111]⟩] 9)).drew _ _ _ from (hO1.out.alloc _).drew)
  have hB2 := Lib.hid (show Below w.heap.size w (w1.alloc (.cells #[.string ⟨#[]⟩, .string ⟨#[115, 117, 109]⟩, .string ⟨#[99, 111, 117, 110, 116]⟩, .string ⟨#[115, 104, 97, 114, 101]⟩, .string ⟨#[114, 97, 116, 105, 111]⟩] 9)).drew from bel_dr (hB1.out.alloc hB1.out.size _) 1)
  clear ck hO1 hB1 c0 c1 c2 c3 c4 c5 c6 n0 n1 g1 g2
  generalize (w1.alloc (.cells #[.string ⟨#[]⟩, .string ⟨#[115, 117, 109]⟩, .string ⟨#[99, 111, 117, 110, 116]⟩, .string ⟨#[115, 104, 97, 114, 101]⟩, .string ⟨#[114, 97, 116, 105, 111]⟩] 9)).drew = w2 at hO2 hB2 ⊢
  obtain ⟨c0, c1, c2, c3, c4, c5, c6⟩ := box7 hO2.out
  obtain ⟨z1, hz1⟩ := named (kw ++ (⟨#[32, 111, 102, 32]⟩ : ByteArray) ++ s)
  rw [← hz1.out]
  have v1 : z1.size ≤ 41 := by rw [hz1.out, ByteArray.size_append, ByteArray.size_append]; show kw.size + 4 + s.size ≤ 41; omega
  have y1 := Lib.hid (show z1.data.toList = kindW m.k.toNat ++ [32, 111, 102, 32] ++ m.name from by rw [hz1.out, app_l, app_l, list_of hkw.out, hs.out, hK.out]; rfl)
  clear hz1 zK zS hkw
  by_cases h4 : K = 4
  case pos =>
    have k4 : ((K : Int) == 4) = true := by simp [h4]
    have hp4 := Lib.hid (show m.k = 4 from by rw [hK.out, h4]; rfl)
    have zT := bytes_size ht.out (key_len (hM.out.below hp4.out)).1
    have g5 : ¬ 9223372036854775807 < z1.size + 4 := by omega
    have g6 : ¬ 9223372036854775807 < z1.size + 4 + t.size := by omega
    obtain ⟨z2, hz2⟩ := named (z1 ++ (⟨#[32, 116, 111, 32]⟩ : ByteArray) ++ t)
    have y2 := Lib.hid (show z2.data.toList = z1.data.toList ++ [32, 116, 111, 32] ++ m.below from by rw [hz2.out, app_l, app_l, ht.out])
    have v2 : z2.size ≤ 77 := by rw [hz2.out, ByteArray.size_append, ByteArray.size_append]; show z1.size + 4 + t.size ≤ 77; omega
    go_wp2_with fail
    rw [← hz2.out]
    clear hz2 g5 g6 zT
    have g1 : ¬ 9223372036854775807 < z2.size + 8 := by omega
    have g2 : ¬ 9223372036854775807 < z2.size + 8 + nW.size := by omega
    have g3 : ¬ 9223372036854775807 < z2.size + 8 + nW.size + 5 := by omega
    have g4 : ¬ 9223372036854775807 < z2.size + 8 + nW.size + 5 + nC.size := by omega
    go_wp2_with fail
    refine wp_region_quiet_lit (by kernel_rfl) (by kernel_rfl) ?_
    repeat (go_big_quiet_step (first | with_reducible exact Calls.quiet_of_same (qW.out _) | with_reducible exact Calls.quiet_of_same (qC.out _)))
    refine wpQuiet_nil ?_
    intro _ hw'
    obtain ⟨nq, hw''⟩ := hw'
    subst hw''
    clear g1 g2 g3 g4
    obtain ⟨z3, hz3⟩ := named (z2 ++ (⟨#[32, 119, 105, 116, 104, 105, 110, 32]⟩ : ByteArray) ++ nW ++ (⟨#[32, 99, 97, 112, 32]⟩ : ByteArray) ++ nC)
    rw [← hz3.out]
    have v3 : z3.size ≤ 118 := by rw [hz3.out, ByteArray.size_append, ByteArray.size_append, ByteArray.size_append, ByteArray.size_append]; show z2.size + 8 + nW.size + 5 + nC.size ≤ 118; omega
    have y3 := Lib.hid (show z3.data.toList = z2.data.toList ++ [32, 119, 105, 116, 104, 105, 110, 32] ++ Lib.itoa m.win ++ [32, 99, 97, 112, 32] ++ Lib.itoa m.cap from by rw [hz3.out, app_l, app_l, app_l, app_l, list_of hnW.out, list_of hnC.out])
    clear hz3
    have hO3 := Lib.hid (own_dr hO2.out nq)
    have hB3 := Lib.hid (bel_dr hB2.out nq)
    clear c0 c1 c2 c3 c4 c5 c6 hO2 hB2
    generalize w2.drewN nq = w3 at hO3 hB3 ⊢
    obtain ⟨c0, c1, c2, c3, c4, c5, c6⟩ := box7 hO3.out
    by_cases hl : m.least = -1099511627776
    case pos =>
      have k5 : (m.least != -1099511627776) = false := by rw [hl]; rfl
      have hpl := Lib.hid hl
      by_cases hb : m.before = 0
      case pos =>
        have k6 : (m.before != 0) = false := by rw [hb]; rfl
        have hpb := Lib.hid hb
        clear hl hb
        have hz : z3 = (⟨(printM m).toArray⟩ : ByteArray) := of_list (by
          rw [y3.out, y2.out, y1.out]
          simp [printM, wordsM, joinW, hp4.out, hpl.out, hpb.out])
        replace hz := Lib.hid hz
        go_wp2_with (fail)
        go_ret2
        exact ⟨ret_eq (hPV.out.trans (by rw [hz.out]; rfl)), hB3.out⟩
      case neg =>
        have k6 : (m.before != 0) = true := by simp [hb]
        have hpb := Lib.hid hb
        have g3 : ¬ 9223372036854775807 < z3.size + 8 := by omega
        have g4 : ¬ 9223372036854775807 < z3.size + 8 + nB.size := by omega
        clear hl hb
        have hz : z3 ++ (⟨#[32, 98, 101, 102, 111, 114, 101, 32]⟩ : ByteArray) ++ nB = (⟨(printM m).toArray⟩ : ByteArray) := of_list (by
          rw [app_l, app_l, y3.out, y2.out, y1.out, list_of hnB.out]
          simp [printM, wordsM, joinW, hp4.out, hpl.out, hpb.out])
        replace hz := Lib.hid hz
        go_wp2_with ((first | (with_reducible refine (qL.out _).mono ?_) | (with_reducible refine (qB.out _).mono ?_)); (rintro e u ⟨rfl, rfl⟩))
        go_ret2
        exact ⟨ret_eq (hPV.out.trans (by rw [hz.out]; rfl)), hB3.out⟩
    case neg =>
      have k5 : (m.least != -1099511627776) = true := by simp [hl]
      have hpl := Lib.hid hl
      have g1 : ¬ 9223372036854775807 < z3.size + 7 := by omega
      have g2 : ¬ 9223372036854775807 < z3.size + 7 + nL.size := by omega
      by_cases hb : m.before = 0
      case pos =>
        have k6 : (m.before != 0) = false := by rw [hb]; rfl
        have hpb := Lib.hid hb
        clear hl hb
        have hz : z3 ++ (⟨#[32, 108, 101, 97, 115, 116, 32]⟩ : ByteArray) ++ nL = (⟨(printM m).toArray⟩ : ByteArray) := of_list (by
          rw [app_l, app_l, y3.out, y2.out, y1.out, list_of hnL.out]
          simp [printM, wordsM, joinW, hp4.out, hpl.out, hpb.out])
        replace hz := Lib.hid hz
        go_wp2_with ((first | (with_reducible refine (qL.out _).mono ?_) | (with_reducible refine (qB.out _).mono ?_)); (rintro e u ⟨rfl, rfl⟩))
        go_ret2
        exact ⟨ret_eq (hPV.out.trans (by rw [hz.out]; rfl)), hB3.out⟩
      case neg =>
        have k6 : (m.before != 0) = true := by simp [hb]
        have hpb := Lib.hid hb
        have g3 : ¬ 9223372036854775807 < z3.size + 7 + nL.size + 8 := by omega
        have g4 : ¬ 9223372036854775807 < z3.size + 7 + nL.size + 8 + nB.size := by omega
        clear hl hb
        have hz : z3 ++ (⟨#[32, 108, 101, 97, 115, 116, 32]⟩ : ByteArray) ++ nL ++ (⟨#[32, 98, 101, 102, 111, 114, 101, 32]⟩ : ByteArray) ++ nB = (⟨(printM m).toArray⟩ : ByteArray) := of_list (by
          rw [app_l, app_l, app_l, app_l, y3.out, y2.out, y1.out, list_of hnL.out, list_of hnB.out]
          simp [printM, wordsM, joinW, hp4.out, hpl.out, hpb.out])
        replace hz := Lib.hid hz
        go_wp2_with ((first | (with_reducible refine (qL.out _).mono ?_) | (with_reducible refine (qB.out _).mono ?_)); (rintro e u ⟨rfl, rfl⟩))
        go_ret2
        exact ⟨ret_eq (hPV.out.trans (by rw [hz.out]; rfl)), hB3.out⟩
  case neg =>
    have k4 : ((K : Int) == 4) = false := by simp; omega
    have hp4 := Lib.hid (show ¬ m.k = 4 from by rw [hK.out]; omega)
    have g1 : ¬ 9223372036854775807 < z1.size + 8 := by omega
    have g2 : ¬ 9223372036854775807 < z1.size + 8 + nW.size := by omega
    have g3 : ¬ 9223372036854775807 < z1.size + 8 + nW.size + 5 := by omega
    have g4 : ¬ 9223372036854775807 < z1.size + 8 + nW.size + 5 + nC.size := by omega
    go_wp2_with fail
    refine wp_region_quiet_lit (by kernel_rfl) (by kernel_rfl) ?_
    repeat (go_big_quiet_step (first | with_reducible exact Calls.quiet_of_same (qW.out _) | with_reducible exact Calls.quiet_of_same (qC.out _)))
    refine wpQuiet_nil ?_
    intro _ hw'
    obtain ⟨nq, hw''⟩ := hw'
    subst hw''
    clear g1 g2 g3 g4
    obtain ⟨z3, hz3⟩ := named (z1 ++ (⟨#[32, 119, 105, 116, 104, 105, 110, 32]⟩ : ByteArray) ++ nW ++ (⟨#[32, 99, 97, 112, 32]⟩ : ByteArray) ++ nC)
    rw [← hz3.out]
    have v3 : z3.size ≤ 118 := by rw [hz3.out, ByteArray.size_append, ByteArray.size_append, ByteArray.size_append, ByteArray.size_append]; show z1.size + 8 + nW.size + 5 + nC.size ≤ 118; omega
    have y3 := Lib.hid (show z3.data.toList = z1.data.toList ++ [32, 119, 105, 116, 104, 105, 110, 32] ++ Lib.itoa m.win ++ [32, 99, 97, 112, 32] ++ Lib.itoa m.cap from by rw [hz3.out, app_l, app_l, app_l, app_l, list_of hnW.out, list_of hnC.out])
    clear hz3
    have hO3 := Lib.hid (own_dr hO2.out nq)
    have hB3 := Lib.hid (bel_dr hB2.out nq)
    clear c0 c1 c2 c3 c4 c5 c6 hO2 hB2
    generalize w2.drewN nq = w3 at hO3 hB3 ⊢
    obtain ⟨c0, c1, c2, c3, c4, c5, c6⟩ := box7 hO3.out
    by_cases hl : m.least = -1099511627776
    case pos =>
      have k5 : (m.least != -1099511627776) = false := by rw [hl]; rfl
      have hpl := Lib.hid hl
      by_cases hb : m.before = 0
      case pos =>
        have k6 : (m.before != 0) = false := by rw [hb]; rfl
        have hpb := Lib.hid hb
        clear hl hb
        have hz : z3 = (⟨(printM m).toArray⟩ : ByteArray) := of_list (by
          rw [y3.out, y1.out]
          simp [printM, wordsM, joinW, hp4.out, hpl.out, hpb.out])
        replace hz := Lib.hid hz
        go_wp2_with (fail)
        go_ret2
        exact ⟨ret_eq (hPV.out.trans (by rw [hz.out]; rfl)), hB3.out⟩
      case neg =>
        have k6 : (m.before != 0) = true := by simp [hb]
        have hpb := Lib.hid hb
        have g3 : ¬ 9223372036854775807 < z3.size + 8 := by omega
        have g4 : ¬ 9223372036854775807 < z3.size + 8 + nB.size := by omega
        clear hl hb
        have hz : z3 ++ (⟨#[32, 98, 101, 102, 111, 114, 101, 32]⟩ : ByteArray) ++ nB = (⟨(printM m).toArray⟩ : ByteArray) := of_list (by
          rw [app_l, app_l, y3.out, y1.out, list_of hnB.out]
          simp [printM, wordsM, joinW, hp4.out, hpl.out, hpb.out])
        replace hz := Lib.hid hz
        go_wp2_with ((first | (with_reducible refine (qL.out _).mono ?_) | (with_reducible refine (qB.out _).mono ?_)); (rintro e u ⟨rfl, rfl⟩))
        go_ret2
        exact ⟨ret_eq (hPV.out.trans (by rw [hz.out]; rfl)), hB3.out⟩
    case neg =>
      have k5 : (m.least != -1099511627776) = true := by simp [hl]
      have hpl := Lib.hid hl
      have g1 : ¬ 9223372036854775807 < z3.size + 7 := by omega
      have g2 : ¬ 9223372036854775807 < z3.size + 7 + nL.size := by omega
      by_cases hb : m.before = 0
      case pos =>
        have k6 : (m.before != 0) = false := by rw [hb]; rfl
        have hpb := Lib.hid hb
        clear hl hb
        have hz : z3 ++ (⟨#[32, 108, 101, 97, 115, 116, 32]⟩ : ByteArray) ++ nL = (⟨(printM m).toArray⟩ : ByteArray) := of_list (by
          rw [app_l, app_l, y3.out, y1.out, list_of hnL.out]
          simp [printM, wordsM, joinW, hp4.out, hpl.out, hpb.out])
        replace hz := Lib.hid hz
        go_wp2_with ((first | (with_reducible refine (qL.out _).mono ?_) | (with_reducible refine (qB.out _).mono ?_)); (rintro e u ⟨rfl, rfl⟩))
        go_ret2
        exact ⟨ret_eq (hPV.out.trans (by rw [hz.out]; rfl)), hB3.out⟩
      case neg =>
        have k6 : (m.before != 0) = true := by simp [hb]
        have hpb := Lib.hid hb
        have g3 : ¬ 9223372036854775807 < z3.size + 7 + nL.size + 8 := by omega
        have g4 : ¬ 9223372036854775807 < z3.size + 7 + nL.size + 8 + nB.size := by omega
        clear hl hb
        have hz : z3 ++ (⟨#[32, 108, 101, 97, 115, 116, 32]⟩ : ByteArray) ++ nL ++ (⟨#[32, 98, 101, 102, 111, 114, 101, 32]⟩ : ByteArray) ++ nB = (⟨(printM m).toArray⟩ : ByteArray) := of_list (by
          rw [app_l, app_l, app_l, app_l, y3.out, y1.out, list_of hnL.out, list_of hnB.out]
          simp [printM, wordsM, joinW, hp4.out, hpl.out, hpb.out])
        replace hz := Lib.hid hz
        go_wp2_with ((first | (with_reducible refine (qL.out _).mono ?_) | (with_reducible refine (qB.out _).mono ?_)); (rintro e u ⟨rfl, rfl⟩))
        go_ret2
        exact ⟨ret_eq (hPV.out.trans (by rw [hz.out]; rfl)), hB3.out⟩

end Go.Proofs.YtnghpjijfdpmkaaDoor.metric

