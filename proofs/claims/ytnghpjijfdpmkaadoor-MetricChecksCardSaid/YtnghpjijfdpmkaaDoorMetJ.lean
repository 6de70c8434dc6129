/- The program's Print of chapter 34. -/
import Derived.Test.YtnghpjijfdpmkaaDoorMetI
import Derived.Deep.RegionWith
import Derived.Deep.RegionLaw
import Derived.Deep.DeepCutAuto
import Derived.KernelRfl
namespace Go.Proofs.YtnghpjijfdpmkaaDoor.metric
open Go.RowKit Go.Proofs.YtnghpjijfdpmkaaDoor Go.Proofs.YtnghpjijfdpmkaaDoor.text Go.Proofs.YtnghpjijfdpmkaaDoor.value

set_option maxRecDepth 100000 in
theorem field_kind (x : ByteArray) (F : FuncId) (W : World) : (Instr.field 76 (.agg #[.string x, .func (Fn.func F) #[] #[]]) 0).run Tryd.prog W = .ok (.string x) W := by
  simp [Instr.field, run_underlying Tryd.underlying76]
  rfl

set_option maxRecDepth 100000 in
set_option maxHeartbeats 16000000 in
theorem print_m (m : MV) (s t : ByteArray) (w : World) (hs : s.data.toList = m.name) (ht : t.data.toList = m.below) (hT : NTabs w) :
    Calls Tryd.prog 24 #[.agg #[.int .i64 m.k, .string s, .string t, .int .i64 m.win, .int .i64 m.cap, .int .i64 m.least, .int .i64 m.before]] w fun e w' => e = .returned (printV m) ∧ Below w.heap.size w w' := by
  replace hT := Lib.hid hT
  have hO := Lib.hid (Own.new w #[.int .i64 m.k, .string s, .string t, .int .i64 m.win, .int .i64 m.cap, .int .i64 m.least, .int .i64 m.before] 29)
  have hB := Lib.hid (show Below w.heap.size w (w.alloc (.cells #[.int .i64 m.k, .string s, .string t, .int .i64 m.win, .int .i64 m.cap, .int .i64 m.least, .int .i64 m.before] 29)) from (Below.refl _ _).alloc (Nat.le_refl _) _)
  replace hs := Lib.hid hs
  replace ht := Lib.hid ht
  obtain ⟨i0, hi, hz0, hz1, hz2⟩ := info_parts infoStrI
  go_enter Tryd.func24, Tryd.ntmps24
  go_wp2_with fail
  refine (check_m m s t _ hs.out ht.out (hT.out.below hB.out)).mono ?_
  rintro e w1 ⟨rfl, hb1⟩
  have hO1 := Lib.hid (hO.out.below hb1 hO.out.lt)
  have hB1 := Lib.hid (hB.out.trans (hb1.mono hB.out.size))
  clear hb1 hO hB
  by_cases ea : chkM m = 0
  case neg =>
    have hQ := Lib.hid (printV_bad ea)
    have e1 : (chkM m != 0) = true := by simp [ea]
    clear ea
    generalize chkM m = c at e1 hQ ⊢
    go_wp2
    go_ret2
    exact ⟨ret_eq hQ.out, hB1.out⟩
  have hM := mok ea
  have hPV := Lib.hid (printV_ok ea)
  rw [ea]
  clear ea
  have hk14 := hM.k
  obtain ⟨kw, hkw⟩ := named (⟨(kindW m.k.toNat).toArray⟩ : ByteArray)
  obtain ⟨F, hF⟩ := lookV_word hM.k.1 hM.k.2
  rw [← hkw.out] at hF
  have hlk := Lib.hid (show (Instr.lookup 72 (.map (some w1.heap.size)) (.int .i64 m.k) false).run Tryd.prog (w1.alloc (.map kinds4 4)).drew = .ok (.agg #[.string kw, .func (Fn.func F) #[] #[]]) (w1.alloc (.map kinds4 4)).drew by
    have := look_kind m.k (w1.alloc (.map kinds4 4)).drew w1.heap.size false (heap_alloc_new w1 _)
    rw [this, hF]; rfl)
  obtain ⟨c0, c1, c2, c3, c4, c5, c6⟩ := box7 hO1.out
  have hlt := hO1.out.lt
  have hfd := field_kind kw F
  replace hM := Lib.hid hM
  clear hF hk14
  go_upto_region 4 with fail
  go_cut [5] (fun s5 wx => PRow w #[.int .i64 m.k, .string s, .string t, .int .i64 m.win, .int .i64 m.cap, .int .i64 m.least, .int .i64 m.before] [kw, (⟨#[111, 102]⟩ : ByteArray), s] s5 wx)
  case first =>
    go_region_with ((go_at_call 36; refine (kinds_any _).mono ?_; rintro e u1 ⟨rfl, rfl⟩; have hlk1 := hlk.out; have d0 : (w1.alloc (.map kinds4 4)).drew.cell? ⟨w.heap.size, 0, none⟩ = some (.int .i64 m.k) := (hO1.out.alloc _).drew.cell 0; have d1 : (w1.alloc (.map kinds4 4)).drew.cell? ⟨w.heap.size, 1, none⟩ = some (.string s) := (hO1.out.alloc _).drew.cell 1))
    all_goals
      go_wp2_with fail
      go_meet
      exact PRow.start hO1.out hB1.out
  have hP0 := Lib.hid hcut
  clear hcut hlk hfd c0 c1 c2 c3 c4 c5 c6 hlt hO1 hB1
  have nq : ∀ (n : Int) (x : ByteArray), x = ⟨(Lib.itoa n).toArray⟩ → -1099511627776 ≤ n → n ≤ 1099511627776 → ∀ u, NTabs u → Calls Tryd.prog 53 #[.int .i64 n] u fun e w' => e = .returned (.string x) ∧ Below u.heap.size u w' := fun n x hx h0 h1 u hu => by rw [hx]; exact number_m n u (by omega) (by omega) hu
  obtain ⟨nW, hnW⟩ := named (⟨(Lib.itoa m.win).toArray⟩ : ByteArray)
  obtain ⟨nC, hnC⟩ := named (⟨(Lib.itoa m.cap).toArray⟩ : ByteArray)
  obtain ⟨nL, hnL⟩ := named (⟨(Lib.itoa m.least).toArray⟩ : ByteArray)
  obtain ⟨nB, hnB⟩ := named (⟨(Lib.itoa m.before).toArray⟩ : ByteArray)
  have bM := hM.out
  have qW := Lib.hid (nq m.win nW hnW.out (by have := bM.win; omega) (by have := bM.win; omega))
  have qC := Lib.hid (nq m.cap nC hnC.out (by have := bM.cap; omega) (by have := bM.cap; omega))
  have qL := Lib.hid (nq m.least nL hnL.out bM.least.1 bM.least.2)
  have qB := Lib.hid (nq m.before nB hnB.out (by have := bM.before; omega) (by have := bM.before; omega))
  have hlen := Lib.hid (printM_len bM)
  have ek := Lib.hid (list_of hkw.out)
  have eW := Lib.hid (list_of hnW.out)
  have eC := Lib.hid (list_of hnC.out)
  have eL := Lib.hid (list_of hnL.out)
  have eB := Lib.hid (list_of hnB.out)
  clear nq bM hkw hnW hnC hnL hnB hM
  obtain ⟨c0, c1, c2, c3, c4, c5, c6⟩ := box7 hP0.out.box
  by_cases h4 : m.k = 4
  case pos =>
    have k4 : (m.k == 4) = true := by simp [h4]
    have hp4 := Lib.hid h4
    clear h4
    go_upto_region 7 with (at_builtin; refine wpList_append_own _ rfl _ _ 33 rfl (w.heap.size + 1) 9 i0 (.string ⟨#[]⟩) 1 16 Tryd.underlying33 hi hz0 hz1 hz2 rfl (by decide) _ _ _ rfl (hP0.out.row.alloc _) ⟨wc.heap.size, 0, none⟩ 2 2 [.string (⟨#[116, 111]⟩ : ByteArray), .string t] rfl rfl (World.news_of_block (cs := #[.string (⟨#[116, 111]⟩ : ByteArray), .string t]) (t := 9) (fr := (0, 0)) (heap_alloc_new wc _)) (by simp [Value.oneCell']) (Nat.le_of_ble_eq_true rfl) (Nat.le_of_ble_eq_true rfl) (by have := hP0.out.size; simp; omega) ?_; intro v1 w2 hown hgrow hnil; clear hnil; have hP1 := Lib.hid (hP0.out.append (news := [(⟨#[116, 111]⟩ : ByteArray), t]) rfl hown hgrow); clear hown hgrow; obtain ⟨c0, c1, c2, c3, c4, c5, c6⟩ := box7 hP1.out.box)
    go_cut [5] (fun s5 wx => PRow w #[.int .i64 m.k, .string s, .string t, .int .i64 m.win, .int .i64 m.cap, .int .i64 m.least, .int .i64 m.before] ([kw, (⟨#[111, 102]⟩ : ByteArray), s] ++ [(⟨#[116, 111]⟩ : ByteArray), t] ++ [(⟨#[119, 105, 116, 104, 105, 110]⟩ : ByteArray), nW, (⟨#[99, 97, 112]⟩ : ByteArray), nC]) s5 wx)
    case first =>
      have hPd := Lib.hid hP1.out.drew
      go_region_law ((first | (refine step_append_lies _ (by rfl) _ _ _ (by rfl) (w.heap.size + 1) 9 i0 (.string ⟨#[]⟩) 1 16 Tryd.underlying33 hi hz0 hz1 hz2 rfl (by decide) _ _ _ (by rfl) (hQ2.out.row.alloc _) ⟨x2.heap.size, 0, none⟩ 4 4 [.string (⟨#[119, 105, 116, 104, 105, 110]⟩ : ByteArray), .string nW, .string (⟨#[99, 97, 112]⟩ : ByteArray), .string nC] (by rfl) (by rfl) (World.news_of_block (cs := #[.string (⟨#[119, 105, 116, 104, 105, 110]⟩ : ByteArray), .string nW, .string (⟨#[99, 97, 112]⟩ : ByteArray), .string nC]) (t := 9) (fr := (0, 0)) (heap_alloc_new x2 _)) (by simp [Value.oneCell']) (by decide) (Nat.le_of_ble_eq_true rfl) (Nat.le_of_ble_eq_true rfl) (by have := hQ2.out.size; simp; omega) (x2.heap.size + 1) (by simp) ?_; intro gg cap w3 hown hgrow hat hlt6; have hQ3 := Lib.hid (hQ2.out.append (news := [(⟨#[119, 105, 116, 104, 105, 110]⟩ : ByteArray), nW, (⟨#[99, 97, 112]⟩ : ByteArray), nC]) rfl hown hgrow); clear hown hgrow hat hlt6) | (go_simp; go_at_call_of 53 (Value.int IntKind.i64 m.win); refine (qW.out _ (hT.out.below hPd.out.below)).mono ?_; rintro e x1 ⟨rfl, hb⟩; have hQ1 := Lib.hid (hPd.out.call hb); clear hb; obtain ⟨d0, d1, d2, d3, d4, d5, d6⟩ := box7 hQ1.out.box) | (go_simp; go_at_call_of 53 (Value.int IntKind.i64 m.cap); refine (qC.out _ (hT.out.below hQ1.out.below)).mono ?_; rintro e x2 ⟨rfl, hb⟩; have hQ2 := Lib.hid (hQ1.out.call hb); clear hb; obtain ⟨d0, d1, d2, d3, d4, d5, d6⟩ := box7 hQ2.out.box)))
      all_goals
        go_wp2_with fail
        go_meet
        exact hQ3.out
    have hP5 := Lib.hid hcut
    clear hcut c0 c1 c2 c3 c4 c5 c6 hP0
    obtain ⟨c0, c1, c2, c3, c4, c5, c6⟩ := box7 hP5.out.box
    by_cases hl : m.least = -1099511627776
    case pos =>
      have k5 : (m.least != -1099511627776) = false := by rw [hl]; rfl
      have hpl := Lib.hid hl
      by_cases hb : m.before = 0
      case pos =>
        have k6 : (m.before != 0) = false := by rw [hb]; rfl
        have hpb := Lib.hid hb
        clear hl hb
        go_wp2_with fail
        have hz : lsL ([kw, (⟨#[111, 102]⟩ : ByteArray), s] ++ [(⟨#[116, 111]⟩ : ByteArray), t] ++ [(⟨#[119, 105, 116, 104, 105, 110]⟩ : ByteArray), nW, (⟨#[99, 97, 112]⟩ : ByteArray), nC]) = wordsM m := by simp [lsL, wordsM, ek.out, eW.out, eC.out, hs.out, ht.out, hp4.out, hpl.out, hpb.out]
        obtain ⟨g, gc, rfl, hjc, hjl, hjt⟩ := hP5.out.join (Nat.le_of_ble_eq_true rfl)
        have hJ := joinW_any g 0 gc ([kw, (⟨#[111, 102]⟩ : ByteArray), s] ++ [(⟨#[116, 111]⟩ : ByteArray), t] ++ [(⟨#[119, 105, 116, 104, 105, 110]⟩ : ByteArray), nW, (⟨#[99, 97, 112]⟩ : ByteArray), nC]) wc hjc (Nat.le_of_ble_eq_true rfl) hjl hjt (Nat.le_of_ble_eq_true rfl) (by rw [hz]; exact Nat.le_trans hlen.out (Nat.le_of_ble_eq_true rfl))
        rw [hz] at hJ
        refine hJ.mono ?_
        rintro e wf ⟨rfl, hbf⟩
        have hBf := Lib.hid (hP5.out.below.trans (hbf.mono hP5.out.below.size))
        clear hbf hJ hjc hjl hjt
        go_wp2
        go_ret2
        exact ⟨ret_eq hPV.out, hBf.out⟩
      case neg =>
        have k6 : (m.before != 0) = true := by simp [hb]
        have hpb := Lib.hid hb
        clear hl hb
        go_wp2_with (first | (go_at_call_of 53 (Value.int IntKind.i64 m.before); refine (qB.out _ (hT.out.below hP5.out.below)).mono ?_; rintro e x8 ⟨rfl, hb⟩; have hP8 := Lib.hid (hP5.out.call hb); clear hb; obtain ⟨c0, c1, c2, c3, c4, c5, c6⟩ := box7 hP8.out.box) | (at_builtin; refine wpList_append_own _ rfl _ _ 33 rfl (w.heap.size + 1) 9 i0 (.string ⟨#[]⟩) 1 16 Tryd.underlying33 hi hz0 hz1 hz2 rfl (by decide) _ _ _ rfl (hP8.out.row.alloc _) ⟨x8.heap.size, 0, none⟩ 2 2 [.string (⟨#[98, 101, 102, 111, 114, 101]⟩ : ByteArray), .string nB] rfl rfl (World.news_of_block (cs := #[.string (⟨#[98, 101, 102, 111, 114, 101]⟩ : ByteArray), .string nB]) (t := 9) (fr := (0, 0)) (heap_alloc_new x8 _)) (by simp [Value.oneCell']) (Nat.le_of_ble_eq_true rfl) (Nat.le_of_ble_eq_true rfl) (by have := hP8.out.size; simp; omega) ?_; intro v9 w9 hown hgrow hnil; clear hnil; have hP9 := Lib.hid (hP8.out.append (news := [(⟨#[98, 101, 102, 111, 114, 101]⟩ : ByteArray), nB]) rfl hown hgrow); clear hown hgrow; obtain ⟨c0, c1, c2, c3, c4, c5, c6⟩ := box7 hP9.out.box))
        have hz : lsL ([kw, (⟨#[111, 102]⟩ : ByteArray), s] ++ [(⟨#[116, 111]⟩ : ByteArray), t] ++ [(⟨#[119, 105, 116, 104, 105, 110]⟩ : ByteArray), nW, (⟨#[99, 97, 112]⟩ : ByteArray), nC] ++ [(⟨#[98, 101, 102, 111, 114, 101]⟩ : ByteArray), nB]) = wordsM m := by simp [lsL, wordsM, ek.out, eW.out, eC.out, eB.out, hs.out, ht.out, hp4.out, hpl.out, hpb.out]
        obtain ⟨g, gc, rfl, hjc, hjl, hjt⟩ := hP9.out.join (Nat.le_of_ble_eq_true rfl)
        have hJ := joinW_any g 0 gc ([kw, (⟨#[111, 102]⟩ : ByteArray), s] ++ [(⟨#[116, 111]⟩ : ByteArray), t] ++ [(⟨#[119, 105, 116, 104, 105, 110]⟩ : ByteArray), nW, (⟨#[99, 97, 112]⟩ : ByteArray), nC] ++ [(⟨#[98, 101, 102, 111, 114, 101]⟩ : ByteArray), nB]) w9 hjc (Nat.le_of_ble_eq_true rfl) hjl hjt (Nat.le_of_ble_eq_true rfl) (by rw [hz]; exact Nat.le_trans hlen.out (Nat.le_of_ble_eq_true rfl))
        rw [hz] at hJ
        refine hJ.mono ?_
        rintro e wf ⟨rfl, hbf⟩
        have hBf := Lib.hid (hP9.out.below.trans (hbf.mono hP9.out.below.size))
        clear hbf hJ hjc hjl hjt
        go_wp2
        go_ret2
        exact ⟨ret_eq hPV.out, hBf.out⟩
    case neg =>
      have k5 : (m.least != -1099511627776) = true := by simp [hl]
      have hpl := Lib.hid hl
      by_cases hb : m.before = 0
      case pos =>
        have k6 : (m.before != 0) = false := by rw [hb]; rfl
        have hpb := Lib.hid hb
        clear hl hb
        go_wp2_with (first | (go_at_call_of 53 (Value.int IntKind.i64 m.least); refine (qL.out _ (hT.out.below hP5.out.below)).mono ?_; rintro e x6 ⟨rfl, hb⟩; have hP6 := Lib.hid (hP5.out.call hb); clear hb; obtain ⟨c0, c1, c2, c3, c4, c5, c6⟩ := box7 hP6.out.box) | (at_builtin; refine wpList_append_own _ rfl _ _ 33 rfl (w.heap.size + 1) 9 i0 (.string ⟨#[]⟩) 1 16 Tryd.underlying33 hi hz0 hz1 hz2 rfl (by decide) _ _ _ rfl (hP6.out.row.alloc _) ⟨x6.heap.size, 0, none⟩ 2 2 [.string (⟨#[108, 101, 97, 115, 116]⟩ : ByteArray), .string nL] rfl rfl (World.news_of_block (cs := #[.string (⟨#[108, 101, 97, 115, 116]⟩ : ByteArray), .string nL]) (t := 9) (fr := (0, 0)) (heap_alloc_new x6 _)) (by simp [Value.oneCell']) (Nat.le_of_ble_eq_true rfl) (Nat.le_of_ble_eq_true rfl) (by have := hP6.out.size; simp; omega) ?_; intro v7 w7 hown hgrow hnil; clear hnil; have hP7 := Lib.hid (hP6.out.append (news := [(⟨#[108, 101, 97, 115, 116]⟩ : ByteArray), nL]) rfl hown hgrow); clear hown hgrow; obtain ⟨c0, c1, c2, c3, c4, c5, c6⟩ := box7 hP7.out.box))
        have hz : lsL ([kw, (⟨#[111, 102]⟩ : ByteArray), s] ++ [(⟨#[116, 111]⟩ : ByteArray), t] ++ [(⟨#[119, 105, 116, 104, 105, 110]⟩ : ByteArray), nW, (⟨#[99, 97, 112]⟩ : ByteArray), nC] ++ [(⟨#[108, 101, 97, 115, 116]⟩ : ByteArray), nL]) = wordsM m := by simp [lsL, wordsM, ek.out, eW.out, eC.out, eL.out, hs.out, ht.out, hp4.out, hpl.out, hpb.out]
        obtain ⟨g, gc, rfl, hjc, hjl, hjt⟩ := hP7.out.join (Nat.le_of_ble_eq_true rfl)
        have hJ := joinW_any g 0 gc ([kw, (⟨#[111, 102]⟩ : ByteArray), s] ++ [(⟨#[116, 111]⟩ : ByteArray), t] ++ [(⟨#[119, 105, 116, 104, 105, 110]⟩ : ByteArray), nW, (⟨#[99, 97, 112]⟩ : ByteArray), nC] ++ [(⟨#[108, 101, 97, 115, 116]⟩ : ByteArray), nL]) w7 hjc (Nat.le_of_ble_eq_true rfl) hjl hjt (Nat.le_of_ble_eq_true rfl) (by rw [hz]; exact Nat.le_trans hlen.out (Nat.le_of_ble_eq_true rfl))
        rw [hz] at hJ
        refine hJ.mono ?_
        rintro e wf ⟨rfl, hbf⟩
        have hBf := Lib.hid (hP7.out.below.trans (hbf.mono hP7.out.below.size))
        clear hbf hJ hjc hjl hjt
        go_wp2
        go_ret2
        exact ⟨ret_eq hPV.out, hBf.out⟩
      case neg =>
        have k6 : (m.before != 0) = true := by simp [hb]
        have hpb := Lib.hid hb
        clear hl hb
        go_wp2_with (first | (go_at_call_of 53 (Value.int IntKind.i64 m.before); refine (qB.out _ (hT.out.below hP7.out.below)).mono ?_; rintro e x8 ⟨rfl, hb⟩; have hP8 := Lib.hid (hP7.out.call hb); clear hb; obtain ⟨c0, c1, c2, c3, c4, c5, c6⟩ := box7 hP8.out.box) | (at_builtin; refine wpList_append_own _ rfl _ _ 33 rfl (w.heap.size + 1) 9 i0 (.string ⟨#[]⟩) 1 16 Tryd.underlying33 hi hz0 hz1 hz2 rfl (by decide) _ _ _ rfl (hP8.out.row.alloc _) ⟨x8.heap.size, 0, none⟩ 2 2 [.string (⟨#[98, 101, 102, 111, 114, 101]⟩ : ByteArray), .string nB] rfl rfl (World.news_of_block (cs := #[.string (⟨#[98, 101, 102, 111, 114, 101]⟩ : ByteArray), .string nB]) (t := 9) (fr := (0, 0)) (heap_alloc_new x8 _)) (by simp [Value.oneCell']) (Nat.le_of_ble_eq_true rfl) (Nat.le_of_ble_eq_true rfl) (by have := hP8.out.size; simp; omega) ?_; intro v9 w9 hown hgrow hnil; clear hnil; have hP9 := Lib.hid (hP8.out.append (news := [(⟨#[98, 101, 102, 111, 114, 101]⟩ : ByteArray), nB]) rfl hown hgrow); clear hown hgrow; obtain ⟨c0, c1, c2, c3, c4, c5, c6⟩ := box7 hP9.out.box) | (go_at_call_of 53 (Value.int IntKind.i64 m.least); refine (qL.out _ (hT.out.below hP5.out.below)).mono ?_; rintro e x6 ⟨rfl, hb⟩; have hP6 := Lib.hid (hP5.out.call hb); clear hb; obtain ⟨c0, c1, c2, c3, c4, c5, c6⟩ := box7 hP6.out.box) | (at_builtin; refine wpList_append_own _ rfl _ _ 33 rfl (w.heap.size + 1) 9 i0 (.string ⟨#[]⟩) 1 16 Tryd.underlying33 hi hz0 hz1 hz2 rfl (by decide) _ _ _ rfl (hP6.out.row.alloc _) ⟨x6.heap.size, 0, none⟩ 2 2 [.string (⟨#[108, 101, 97, 115, 116]⟩ : ByteArray), .string nL] rfl rfl (World.news_of_block (cs := #[.string (⟨#[108, 101, 97, 115, 116]⟩ : ByteArray), .string nL]) (t := 9) (fr := (0, 0)) (heap_alloc_new x6 _)) (by simp [Value.oneCell']) (Nat.le_of_ble_eq_true rfl) (Nat.le_of_ble_eq_true rfl) (by have := hP6.out.size; simp; omega) ?_; intro v7 w7 hown hgrow hnil; clear hnil; have hP7 := Lib.hid (hP6.out.append (news := [(⟨#[108, 101, 97, 115, 116]⟩ : ByteArray), nL]) rfl hown hgrow); clear hown hgrow; obtain ⟨c0, c1, c2, c3, c4, c5, c6⟩ := box7 hP7.out.box))
        have hz : lsL ([kw, (⟨#[111, 102]⟩ : ByteArray), s] ++ [(⟨#[116, 111]⟩ : ByteArray), t] ++ [(⟨#[119, 105, 116, 104, 105, 110]⟩ : ByteArray), nW, (⟨#[99, 97, 112]⟩ : ByteArray), nC] ++ [(⟨#[108, 101, 97, 115, 116]⟩ : ByteArray), nL] ++ [(⟨#[98, 101, 102, 111, 114, 101]⟩ : ByteArray), nB]) = wordsM m := by simp [lsL, wordsM, ek.out, eW.out, eC.out, eL.out, eB.out, hs.out, ht.out, hp4.out, hpl.out, hpb.out]
        obtain ⟨g, gc, rfl, hjc, hjl, hjt⟩ := hP9.out.join (Nat.le_of_ble_eq_true rfl)
        have hJ := joinW_any g 0 gc ([kw, (⟨#[111, 102]⟩ : ByteArray), s] ++ [(⟨#[116, 111]⟩ : ByteArray), t] ++ [(⟨#[119, 105, 116, 104, 105, 110]⟩ : ByteArray), nW, (⟨#[99, 97, 112]⟩ : ByteArray), nC] ++ [(⟨#[108, 101, 97, 115, 116]⟩ : ByteArray), nL] ++ [(⟨#[98, 101, 102, 111, 114, 101]⟩ : ByteArray), nB]) w9 hjc (Nat.le_of_ble_eq_true rfl) hjl hjt (Nat.le_of_ble_eq_true rfl) (by rw [hz]; exact Nat.le_trans hlen.out (Nat.le_of_ble_eq_true rfl))
        rw [hz] at hJ
        refine hJ.mono ?_
        rintro e wf ⟨rfl, hbf⟩
        have hBf := Lib.hid (hP9.out.below.trans (hbf.mono hP9.out.below.size))
        clear hbf hJ hjc hjl hjt
        go_wp2
        go_ret2
        exact ⟨ret_eq hPV.out, hBf.out⟩
  case neg =>
    have k4 : (m.k == 4) = false := by simp [h4]
    have hp4 := Lib.hid h4
    clear h4
    go_upto_region 7 with fail
    go_cut [5] (fun s5 wx => PRow w #[.int .i64 m.k, .string s, .string t, .int .i64 m.win, .int .i64 m.cap, .int .i64 m.least, .int .i64 m.before] ([kw, (⟨#[111, 102]⟩ : ByteArray), s] ++ [(⟨#[119, 105, 116, 104, 105, 110]⟩ : ByteArray), nW, (⟨#[99, 97, 112]⟩ : ByteArray), nC]) s5 wx)
    case first =>
      have hPd := Lib.hid hP0.out.drew
      go_region_law ((first | (refine step_append_lies _ (by rfl) _ _ _ (by rfl) (w.heap.size + 1) 9 i0 (.string ⟨#[]⟩) 1 16 Tryd.underlying33 hi hz0 hz1 hz2 rfl (by decide) _ _ _ (by rfl) (hQ2.out.row.alloc _) ⟨x2.heap.size, 0, none⟩ 4 4 [.string (⟨#[119, 105, 116, 104, 105, 110]⟩ : ByteArray), .string nW, .string (⟨#[99, 97, 112]⟩ : ByteArray), .string nC] (by rfl) (by rfl) (World.news_of_block (cs := #[.string (⟨#[119, 105, 116, 104, 105, 110]⟩ : ByteArray), .string nW, .string (⟨#[99, 97, 112]⟩ : ByteArray), .string nC]) (t := 9) (fr := (0, 0)) (heap_alloc_new x2 _)) (by simp [Value.oneCell']) (by decide) (Nat.le_of_ble_eq_true rfl) (Nat.le_of_ble_eq_true rfl) (by have := hQ2.out.size; simp; omega) (x2.heap.size + 1) (by simp) ?_; intro gg cap w3 hown hgrow hat hlt6; have hQ3 := Lib.hid (hQ2.out.append (news := [(⟨#[119, 105, 116, 104, 105, 110]⟩ : ByteArray), nW, (⟨#[99, 97, 112]⟩ : ByteArray), nC]) rfl hown hgrow); clear hown hgrow hat hlt6) | (go_simp; go_at_call_of 53 (Value.int IntKind.i64 m.win); refine (qW.out _ (hT.out.below hPd.out.below)).mono ?_; rintro e x1 ⟨rfl, hb⟩; have hQ1 := Lib.hid (hPd.out.call hb); clear hb; obtain ⟨d0, d1, d2, d3, d4, d5, d6⟩ := box7 hQ1.out.box) | (go_simp; go_at_call_of 53 (Value.int IntKind.i64 m.cap); refine (qC.out _ (hT.out.below hQ1.out.below)).mono ?_; rintro e x2 ⟨rfl, hb⟩; have hQ2 := Lib.hid (hQ1.out.call hb); clear hb; obtain ⟨d0, d1, d2, d3, d4, d5, d6⟩ := box7 hQ2.out.box)))
      all_goals
        go_wp2_with fail
        go_meet
        exact hQ3.out
    have hP5 := Lib.hid hcut
    clear hcut c0 c1 c2 c3 c4 c5 c6 hP0
    obtain ⟨c0, c1, c2, c3, c4, c5, c6⟩ := box7 hP5.out.box
    by_cases hl : m.least = -1099511627776
    case pos =>
      have k5 : (m.least != -1099511627776) = false := by rw [hl]; rfl
      have hpl := Lib.hid hl
      by_cases hb : m.before = 0
      case pos =>
        have k6 : (m.before != 0) = false := by rw [hb]; rfl
        have hpb := Lib.hid hb
        clear hl hb
        go_wp2_with fail
        have hz : lsL ([kw, (⟨#[111, 102]⟩ : ByteArray), s] ++ [(⟨#[119, 105, 116, 104, 105, 110]⟩ : ByteArray), nW, (⟨#[99, 97, 112]⟩ : ByteArray), nC]) = wordsM m := by simp [lsL, wordsM, ek.out, eW.out, eC.out, hs.out, hp4.out, hpl.out, hpb.out]
        obtain ⟨g, gc, rfl, hjc, hjl, hjt⟩ := hP5.out.join (Nat.le_of_ble_eq_true rfl)
        have hJ := joinW_any g 0 gc ([kw, (⟨#[111, 102]⟩ : ByteArray), s] ++ [(⟨#[119, 105, 116, 104, 105, 110]⟩ : ByteArray), nW, (⟨#[99, 97, 112]⟩ : ByteArray), nC]) wc hjc (Nat.le_of_ble_eq_true rfl) hjl hjt (Nat.le_of_ble_eq_true rfl) (by rw [hz]; exact Nat.le_trans hlen.out (Nat.le_of_ble_eq_true rfl))
        rw [hz] at hJ
        refine hJ.mono ?_
        rintro e wf ⟨rfl, hbf⟩
        have hBf := Lib.hid (hP5.out.below.trans (hbf.mono hP5.out.below.size))
        clear hbf hJ hjc hjl hjt
        go_wp2
        go_ret2
        exact ⟨ret_eq hPV.out, hBf.out⟩
      case neg =>
        have k6 : (m.before != 0) = true := by simp [hb]
        have hpb := Lib.hid hb
        clear hl hb
        go_wp2_with (first | (go_at_call_of 53 (Value.int IntKind.i64 m.before); refine (qB.out _ (hT.out.below hP5.out.below)).mono ?_; rintro e x8 ⟨rfl, hb⟩; have hP8 := Lib.hid (hP5.out.call hb); clear hb; obtain ⟨c0, c1, c2, c3, c4, c5, c6⟩ := box7 hP8.out.box) | (at_builtin; refine wpList_append_own _ rfl _ _ 33 rfl (w.heap.size + 1) 9 i0 (.string ⟨#[]⟩) 1 16 Tryd.underlying33 hi hz0 hz1 hz2 rfl (by decide) _ _ _ rfl (hP8.out.row.alloc _) ⟨x8.heap.size, 0, none⟩ 2 2 [.string (⟨#[98, 101, 102, 111, 114, 101]⟩ : ByteArray), .string nB] rfl rfl (World.news_of_block (cs := #[.string (⟨#[98, 101, 102, 111, 114, 101]⟩ : ByteArray), .string nB]) (t := 9) (fr := (0, 0)) (heap_alloc_new x8 _)) (by simp [Value.oneCell']) (Nat.le_of_ble_eq_true rfl) (Nat.le_of_ble_eq_true rfl) (by have := hP8.out.size; simp; omega) ?_; intro v9 w9 hown hgrow hnil; clear hnil; have hP9 := Lib.hid (hP8.out.append (news := [(⟨#[98, 101, 102, 111, 114, 101]⟩ : ByteArray), nB]) rfl hown hgrow); clear hown hgrow; obtain ⟨c0, c1, c2, c3, c4, c5, c6⟩ := box7 hP9.out.box))
        have hz : lsL ([kw, (⟨#[111, 102]⟩ : ByteArray), s] ++ [(⟨#[119, 105, 116, 104, 105, 110]⟩ : ByteArray), nW, (⟨#[99, 97, 112]⟩ : ByteArray), nC] ++ [(⟨#[98, 101, 102, 111, 114, 101]⟩ : ByteArray), nB]) = wordsM m := by simp [lsL, wordsM, ek.out, eW.out, eC.out, eB.out, hs.out, hp4.out, hpl.out, hpb.out]
        obtain ⟨g, gc, rfl, hjc, hjl, hjt⟩ := hP9.out.join (Nat.le_of_ble_eq_true rfl)
        have hJ := joinW_any g 0 gc ([kw, (⟨#[111, 102]⟩ : ByteArray), s] ++ [(⟨#[119, 105, 116, 104, 105, 110]⟩ : ByteArray), nW, (⟨#[99, 97, 112]⟩ : ByteArray), nC] ++ [(⟨#[98, 101, 102, 111, 114, 101]⟩ : ByteArray), nB]) w9 hjc (Nat.le_of_ble_eq_true rfl) hjl hjt (Nat.le_of_ble_eq_true rfl) (by rw [hz]; exact Nat.le_trans hlen.out (Nat.le_of_ble_eq_true rfl))
        rw [hz] at hJ
        refine hJ.mono ?_
        rintro e wf ⟨rfl, hbf⟩
        have hBf := Lib.hid (hP9.out.below.trans (hbf.mono hP9.out.below.size))
        clear hbf hJ hjc hjl hjt
        go_wp2
        go_ret2
        exact ⟨ret_eq hPV.out, hBf.out⟩
    case neg =>
      have k5 : (m.least != -1099511627776) = true := by simp [hl]
      have hpl := Lib.hid hl
      by_cases hb : m.before = 0
      case pos =>
        have k6 : (m.before != 0) = false := by rw [hb]; rfl
        have hpb := Lib.hid hb
        clear hl hb
        go_wp2_with (first | (go_at_call_of 53 (Value.int IntKind.i64 m.least); refine (qL.out _ (hT.out.below hP5.out.below)).mono ?_; rintro e x6 ⟨rfl, hb⟩; have hP6 := Lib.hid (hP5.out.call hb); clear hb; obtain ⟨c0, c1, c2, c3, c4, c5, c6⟩ := box7 hP6.out.box) | (at_builtin; refine wpList_append_own _ rfl _ _ 33 rfl (w.heap.size + 1) 9 i0 (.string ⟨#[]⟩) 1 16 Tryd.underlying33 hi hz0 hz1 hz2 rfl (by decide) _ _ _ rfl (hP6.out.row.alloc _) ⟨x6.heap.size, 0, none⟩ 2 2 [.string (⟨#[108, 101, 97, 115, 116]⟩ : ByteArray), .string nL] rfl rfl (World.news_of_block (cs := #[.string (⟨#[108, 101, 97, 115, 116]⟩ : ByteArray), .string nL]) (t := 9) (fr := (0, 0)) (heap_alloc_new x6 _)) (by simp [Value.oneCell']) (Nat.le_of_ble_eq_true rfl) (Nat.le_of_ble_eq_true rfl) (by have := hP6.out.size; simp; omega) ?_; intro v7 w7 hown hgrow hnil; clear hnil; have hP7 := Lib.hid (hP6.out.append (news := [(⟨#[108, 101, 97, 115, 116]⟩ : ByteArray), nL]) rfl hown hgrow); clear hown hgrow; obtain ⟨c0, c1, c2, c3, c4, c5, c6⟩ := box7 hP7.out.box))
        have hz : lsL ([kw, (⟨#[111, 102]⟩ : ByteArray), s] ++ [(⟨#[119, 105, 116, 104, 105, 110]⟩ : ByteArray), nW, (⟨#[99, 97, 112]⟩ : ByteArray), nC] ++ [(⟨#[108, 101, 97, 115, 116]⟩ : ByteArray), nL]) = wordsM m := by simp [lsL, wordsM, ek.out, eW.out, eC.out, eL.out, hs.out, hp4.out, hpl.out, hpb.out]
        obtain ⟨g, gc, rfl, hjc, hjl, hjt⟩ := hP7.out.join (Nat.le_of_ble_eq_true rfl)
        have hJ := joinW_any g 0 gc ([kw, (⟨#[111, 102]⟩ : ByteArray), s] ++ [(⟨#[119, 105, 116, 104, 105, 110]⟩ : ByteArray), nW, (⟨#[99, 97, 112]⟩ : ByteArray), nC] ++ [(⟨#[108, 101, 97, 115, 116]⟩ : ByteArray), nL]) w7 hjc (Nat.le_of_ble_eq_true rfl) hjl hjt (Nat.le_of_ble_eq_true rfl) (by rw [hz]; exact Nat.le_trans hlen.out (Nat.le_of_ble_eq_true rfl))
        rw [hz] at hJ
        refine hJ.mono ?_
        rintro e wf ⟨rfl, hbf⟩
        have hBf := Lib.hid (hP7.out.below.trans (hbf.mono hP7.out.below.size))
        clear hbf hJ hjc hjl hjt
        go_wp2
        go_ret2
        exact ⟨ret_eq hPV.out, hBf.out⟩
      case neg =>
        have k6 : (m.before != 0) = true := by simp [hb]
        have hpb := Lib.hid hb
        clear hl hb
        go_wp2_with (first | (go_at_call_of 53 (Value.int IntKind.i64 m.before); refine (qB.out _ (hT.out.below hP7.out.below)).mono ?_; rintro e x8 ⟨rfl, hb⟩; have hP8 := Lib.hid (hP7.out.call hb); clear hb; obtain ⟨c0, c1, c2, c3, c4, c5, c6⟩ := box7 hP8.out.box) | (at_builtin; refine wpList_append_own _ rfl _ _ 33 rfl (w.heap.size + 1) 9 i0 (.string ⟨#[]⟩) 1 16 Tryd.underlying33 hi hz0 hz1 hz2 rfl (by decide) _ _ _ rfl (hP8.out.row.alloc _) ⟨x8.heap.size, 0, none⟩ 2 2 [.string (⟨#[98, 101, 102, 111, 114, 101]⟩ : ByteArray), .string nB] rfl rfl (World.news_of_block (cs := #[.string (⟨#[98, 101, 102, 111, 114, 101]⟩ : ByteArray), .string nB]) (t := 9) (fr := (0, 0)) (heap_alloc_new x8 _)) (by simp [Value.oneCell']) (Nat.le_of_ble_eq_true rfl) (Nat.le_of_ble_eq_true rfl) (by have := hP8.out.size; simp; omega) ?_; intro v9 w9 hown hgrow hnil; clear hnil; have hP9 := Lib.hid (hP8.out.append (news := [(⟨#[98, 101, 102, 111, 114, 101]⟩ : ByteArray), nB]) rfl hown hgrow); clear hown hgrow; obtain ⟨c0, c1, c2, c3, c4, c5, c6⟩ := box7 hP9.out.box) | (go_at_call_of 53 (Value.int IntKind.i64 m.least); refine (qL.out _ (hT.out.below hP5.out.below)).mono ?_; rintro e x6 ⟨rfl, hb⟩; have hP6 := Lib.hid (hP5.out.call hb); clear hb; obtain ⟨c0, c1, c2, c3, c4, c5, c6⟩ := box7 hP6.out.box) | (at_builtin; refine wpList_append_own _ rfl _ _ 33 rfl (w.heap.size + 1) 9 i0 (.string ⟨#[]⟩) 1 16 Tryd.underlying33 hi hz0 hz1 hz2 rfl (by decide) _ _ _ rfl (hP6.out.row.alloc _) ⟨x6.heap.size, 0, none⟩ 2 2 [.string (⟨#[108, 101, 97, 115, 116]⟩ : ByteArray), .string nL] rfl rfl (World.news_of_block (cs := #[.string (⟨#[108, 101, 97, 115, 116]⟩ : ByteArray), .string nL]) (t := 9) (fr := (0, 0)) (heap_alloc_new x6 _)) (by simp [Value.oneCell']) (Nat.le_of_ble_eq_true rfl) (Nat.le_of_ble_eq_true rfl) (by have := hP6.out.size; simp; omega) ?_; intro v7 w7 hown hgrow hnil; clear hnil; have hP7 := Lib.hid (hP6.out.append (news := [(⟨#[108, 101, 97, 115, 116]⟩ : ByteArray), nL]) rfl hown hgrow); clear hown hgrow; obtain ⟨c0, c1, c2, c3, c4, c5, c6⟩ := box7 hP7.out.box))
        have hz : lsL ([kw, (⟨#[111, 102]⟩ : ByteArray), s] ++ [(⟨#[119, 105, 116, 104, 105, 110]⟩ : ByteArray), nW, (⟨#[99, 97, 112]⟩ : ByteArray), nC] ++ [(⟨#[108, 101, 97, 115, 116]⟩ : ByteArray), nL] ++ [(⟨#[98, 101, 102, 111, 114, 101]⟩ : ByteArray), nB]) = wordsM m := by simp [lsL, wordsM, ek.out, eW.out, eC.out, eL.out, eB.out, hs.out, hp4.out, hpl.out, hpb.out]
        obtain ⟨g, gc, rfl, hjc, hjl, hjt⟩ := hP9.out.join (Nat.le_of_ble_eq_true rfl)
        have hJ := joinW_any g 0 gc ([kw, (⟨#[111, 102]⟩ : ByteArray), s] ++ [(⟨#[119, 105, 116, 104, 105, 110]⟩ : ByteArray), nW, (⟨#[99, 97, 112]⟩ : ByteArray), nC] ++ [(⟨#[108, 101, 97, 115, 116]⟩ : ByteArray), nL] ++ [(⟨#[98, 101, 102, 111, 114, 101]⟩ : ByteArray), nB]) w9 hjc (Nat.le_of_ble_eq_true rfl) hjl hjt (Nat.le_of_ble_eq_true rfl) (by rw [hz]; exact Nat.le_trans hlen.out (Nat.le_of_ble_eq_true rfl))
        rw [hz] at hJ
        refine hJ.mono ?_
        rintro e wf ⟨rfl, hbf⟩
        have hBf := Lib.hid (hP9.out.below.trans (hbf.mono hP9.out.below.size))
        clear hbf hJ hjc hjl hjt
        go_wp2
        go_ret2
        exact ⟨ret_eq hPV.out, hBf.out⟩

end Go.Proofs.YtnghpjijfdpmkaaDoor.metric

