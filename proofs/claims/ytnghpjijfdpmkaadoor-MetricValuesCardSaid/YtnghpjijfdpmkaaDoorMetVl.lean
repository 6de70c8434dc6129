/- The law MetricValues: Value returns what is specified. -/
import Derived.Test.YtnghpjijfdpmkaaDoorMetLi
import Derived.Test.YtnghpjijfdpmkaaDoorMetVk
import Derived.Test.YtnghpjijfdpmkaaDoorMetZ
namespace Go.Proofs.YtnghpjijfdpmkaaDoor.metric
open Go.RowKit Go.Proofs.YtnghpjijfdpmkaaDoor Go.Proofs.YtnghpjijfdpmkaaDoor.text
attribute [local go_sem ↓] Go.wp_at_zero Go.wp_at_succ

abbrev mrowV (k : Int) (s t : ByteArray) (win cap least before : Int) : Array Value := #[.int .i64 k, .string s, .string t, .int .i64 win, .int .i64 cap, .int .i64 least, .int .i64 before]
/-- What the law holds at the head of a round. -/
structure VRel (w wr : World) (g gb : Nat) (A B : Array Value) (ea : Option Addr) (ec : Nat) (E : List EV) (va : Option Addr) (vc : Nat) (L : List EV) : Prop where
  box : Own wr g A 29
  bad : Own wr gb B 29
  evs : Evs wr ea ec E
  own : Evs wr va vc L
  below : Below w.heap.size w wr
theorem VRel.world {w wr wv : World} {g gb : Nat} {A B : Array Value} {ea va : Option Addr} {ec vc : Nat} {E L : List EV} (h : VRel w wr g gb A B ea ec E va vc L) (hb : Below wr.heap.size wr wv) : VRel w wv g gb A B ea ec E va vc L :=
  ⟨h.box.below hb h.box.lt, h.bad.below hb h.bad.lt, h.evs.below hb, h.own.below hb, h.below.trans (hb.mono h.below.size)⟩
theorem cellsV {w : World} {n : Nat} {A : Array Value} {t : TypeId} (h : Own w n A t) (o : Nat) :
    w.cell? ⟨n, o, none⟩ = A[o]? ∧ w.cell? ⟨n, o + 1, none⟩ = A[o + 1]? ∧ w.cell? ⟨n, o + 2, none⟩ = A[o + 2]? ∧ w.cell? ⟨n, o + 3, none⟩ = A[o + 3]? ∧ w.cell? ⟨n, o + 4, none⟩ = A[o + 4]? ∧ w.cell? ⟨n, o + 5, none⟩ = A[o + 5]? ∧ w.cell? ⟨n, o + 6, none⟩ = A[o + 6]? :=
  ⟨h.cell _, h.cell _, h.cell _, h.cell _, h.cell _, h.cell _, h.cell _⟩
theorem made_szV {k win cap least before : Int} {s t : ByteArray} (h : MadeM k win cap least before s t) : s.size ≤ maxLen ∧ t.size ≤ maxLen := by
  have hn : ∀ {x : ByteArray}, NameV x → x.size ≤ maxLen := by
    intro x hx
    rcases hx with rfl | rfl
    · show 3 ≤ maxLen; unfold maxLen; omega
    · show 5 ≤ maxLen; unfold maxLen; omega
  obtain ⟨h1, h2, h3, h4, h5, h6, h7, h8, h9, h10, h11, h12, h13⟩ := h
  refine ⟨hn h11, ?_⟩
  by_cases hk : k = 4
  · exact hn (h12 hk)
  · rw [h13 hk]; exact Nat.zero_le _
theorem val_two (m : MV) (E : List EV) : ∃ p q : Int, valM m E = .tuple #[.int .i64 p, .int .i64 q] := by
  unfold valM
  split
  · exact ⟨_, _, rfl⟩
  · exact ⟨_, _, rfl⟩

set_option maxRecDepth 100000 in
set_option maxHeartbeats 16000000 in
theorem values_walk (a : Option Addr) (n c : Nat) (a2 : Option Addr) (n2 c2 : Nat) (a3 : Option Addr) (c3 : Nat) (R : List EV) (wh : Int) (w : World) (h : BytesIn w.cell? a n) (h2 : BytesIn w.cell? a2 n2) (h3 : EvsAt w.cell? a3 R) (hw0 : 0 ≤ wh) (hw1 : wh ≤ 255) (hT : NTabs w) :
    Calls Tryd.prog 5 #[.slice a n c, .slice a2 n2 c2, .slice a3 R.length c3, .int .u8 wh] w fun e w' => e = .returned (.bool true) ∧ Below w.heap.size w w' := by
  replace hT := Lib.hid hT
  replace h := Lib.hid h
  replace h2 := Lib.hid h2
  replace h3 := Lib.hid h3
  obtain ⟨i0, hi, hz0, hz1, hz2⟩ := info_parts infoEv
  go_enter Tryd.func5, Tryd.ntmps5
  go_wp2_with fail
  refine (awake_m _ hT.out).mono ?_
  rintro e w1 ⟨rfl, hb1⟩
  replace hb1 := Lib.hid hb1
  by_cases hx : 300 < n
  · have hx2 : (300 : Int) < (n : Int) := by omega
    go_wp2
    go_ret
    exact ⟨rfl, hb1.out⟩
  have hx2 : ¬ (300 : Int) < (n : Int) := by omega
  by_cases hr : 100 < R.length
  · have hr2 : (100 : Int) < (R.length : Int) := by omega
    go_wp2
    go_ret
    exact ⟨rfl, hb1.out⟩
  have hr2 : ¬ (100 : Int) < (R.length : Int) := by omega
  go_wp2_with fail
  refine (made_any a2 n2 c2 w1 (bytesIn_to h2.out hb1.out)).mono ?_
  rintro e w2 ⟨k, win, cap, least, before, s, t, rfl, hM, hb2⟩
  replace hM := Lib.hid (made_szV hM)
  have hB2 := Lib.hid (hb1.out.trans (hb2.mono hb1.out.size))
  clear hb1 hb2
  have hX := Lib.hid (Own.new w2 (mrowV k s t win cap least before) 29)
  have hB3 := Lib.hid (hB2.out.alloc hB2.out.size (.cells (mrowV k s t win cap least before) 29))
  clear hB2
  unfold mrowV at hX hB3
  go_wp2_with fail
  generalize w2.alloc (.cells _ 29) = w3 at hX hB3 ⊢
  generalize w2.heap.size = g at hX ⊢
  have hR3 := Lib.hid (h3.out.below hB3.out)
  go_loopw [10, 11] (fun s10 s11 wr => ∃ (i : Nat) (va : Option Addr) (vc : Nat) (L : List EV), i ≤ R.length ∧ L.length = i ∧ s11 = .int .i64 i ∧ s10 = .slice va i vc ∧ Hid (RwS w3 L (.slice va i vc) wr)) (fun _ s11 _ => R.length - (intOf s11).toNat)
  case atStart => exact ⟨0, none, 0, [], Nat.zero_le _, rfl, rfl, rfl, Lib.hid ⟨World.ownsRow_nil _ _ _ _, fun e he => (by cases he), Below.refl _ _⟩⟩
  case round =>
    obtain ⟨i, va, vc, L, hi', hLi, rfl, rfl, hS⟩ := hrel
    by_cases hlt : i < R.length
    · obtain ⟨e0, he0⟩ : ∃ e0, Hid (e0 = R[i]) := ⟨_, Lib.hid rfl⟩
      obtain ⟨blk, off, hblk, hbl, c0, c1, c2', c3', c4, c5, c6, c7, c8, c9⟩ := (hR3.out.below hS.out.below).cells (show R[i]? = some e0 by rw [he0.out]; exact List.getElem?_eq_getElem hlt)
      subst hblk
      have m0 : (0 : Int) ≤ (i : Int) := Int.natCast_nonneg _
      have m1 : (i : Int) < (R.length : Int) := by omega
      obtain ⟨z, hz⟩ : ∃ z : Int, e0.value.tmod 1099511627777 = z := ⟨_, rfl⟩
      have hzb := tmod_small e0.value
      rw [hz] at hzb
      obtain ⟨hzl, hzh⟩ := hzb
      have hX1 := RwX.new hS.out { e0 with value := z } hzl hzh
      unfold evA at hX1
      replace hX1 := Lib.hid hX1
      have hbs : blk < wr.heap.size := hbl
      clear he0
      go_upto_region 12 with fail
      generalize wr.alloc (.cells _ 40) = wx at hX1 ⊢
      generalize wr.heap.size = eb at hX1 hbs ⊢
      clear c0 c1 c2' c3' c4 c5 c6 c7 c8 c9 hz hzl hzh hbs hS
      go_cut [56] (fun s56 wy => ∃ y : Bool, s56 = .bool y ∧ wy = wx)
      case first =>
        go_wp2
        go_meet
        exact ⟨_, rfl, rfl⟩
      case rest =>
      obtain ⟨y, rfl, hwc⟩ := hcut
      replace hwc := hwc.symm
      subst hwc
      go_upto_if 56 with fail
      go_cut [] (fun wy => Hid (RwX w3 L (.slice va i vc) eb [] wy))
      case first =>
        cases y
        · go_wp2
          go_meet
          exact hX1
        · go_upto_region 13 with fail
          refine wp_region_held_drew (S := fun W => RwX w3 L (.slice va i vc) eb [] W) (by kernel_rfl) hX1.out.drew (fun hHeld => ?_)
          generalize wx.drew = wd at hHeld ⊢
          obtain ⟨q, hq⟩ : ∃ q : Nat, Hid (q = i % 2) := ⟨_, Lib.hid rfl⟩
          have hq2 : q < 2 := by have := hq.out; omega
          have hqd : (i : Int).tmod 2 = (q : Int) := by rw [Int.tmod_eq_emod_of_nonneg (Int.natCast_nonneg i), hq.out]; rfl
          have hqd2 : (i : Int) % 2 = (q : Int) := by rw [hq.out]; rfl
          have hq0 : (0 : Int) ≤ (q : Int) := Int.natCast_nonneg _
          have hq5 : (q : Int) < 2 := by omega
          have hqw : IntKind.i64.wrap (q : Int) = (q : Int) := IntWalk.i64_in _ (by omega)
          clear hq
          refine wpAnyH_take (i := 1) (oi := ?oi1) (v := ?v1) ?ho1 (by kernel_rfl) (by kernel_rfl) (by kernel_rfl) ?hp1 (Or.inl ⟨?hw1, ?hy1⟩) (by assumption) ?rest1
          case ho1 => simp only [List.getElem?_toArray, List.getElem?_cons_succ, List.getElem?_cons_zero]; rfl
          case hp1 => exact fun _ _ _ h => h
          case hw1 => rfl
          case hy1 =>
            intro W hSw
            go_simp
            try exact rfl
          simp only [Act.put]
          refine wpAnyH_take (i := 2) (oi := ?oi2) (v := ?v2) ?ho2 (by kernel_rfl) (by kernel_rfl) (by kernel_rfl) ?hp2 (Or.inl ⟨?hw2, ?hy2⟩) (by assumption) ?rest2
          case ho2 => simp only [List.getElem?_toArray, List.getElem?_cons_succ, List.getElem?_cons_zero]; rfl
          case hp2 => exact fun _ _ _ h => h
          case hw2 => rfl
          case hy2 =>
            intro W hSw
            go_simp
            try exact rfl
          simp only [Act.put]
          refine wpAnyH_take (i := 5) (oi := ?oi3) (v := ?v3) ?ho3 (by kernel_rfl) (by kernel_rfl) (by kernel_rfl) ?hp3 (Or.inl ⟨?hw3, ?hy3⟩) (by assumption) ?rest3
          case ho3 => simp only [List.getElem?_toArray, List.getElem?_cons_succ, List.getElem?_cons_zero]; rfl
          case hp3 => exact fun _ _ _ h => h
          case hw3 => rfl
          case hy3 =>
            intro W hSw
            go_simp
            try exact rfl
          simp only [Act.put]
          refine wpAnyH_ready (rs := [0]) (by kernel_rfl) (by simp) ?_
          refine AllReadyH.cons rfl (fun K hK => ?_) AllReadyH.nil
          go_simp
          refine (names_any _).mono ?_
          rintro e u_e ⟨rfl, rfl⟩
          obtain ⟨xn, hxn⟩ := text_in (Own.new wd N2 9) rfl texts2 hq2
          have hlt2 := hHeld.lt
          have hH2 := hHeld.world ((Below.refl _ _).alloc (Nat.le_refl _) (.cells N2 9))
          have hH3 := hH2.cons hxn (show wd.heap.size ≠ eb by omega)
          refine hK.out _ _ hH2 (fun hHeld => ?_)
          clear hK K hHeld hH2 hxn
          replace hHeld := hH3
          clear hH3
          generalize wd.alloc (.cells N2 9) = we at hHeld ⊢
          generalize wd.heap.size = gn at hHeld hlt2 ⊢
          refine wpAnyH_narrow (S' := fun W => RwX w3 L (.slice va i vc) eb [(⟨gn, q, none⟩, .string xn)] W) (fun _ h => h.tail) _ _ _ _ ?_
          refine wpAnyH_take (i := 3) (oi := ?oi4) (v := ?v4) ?ho4 (by kernel_rfl) (by kernel_rfl) (by kernel_rfl) ?hp4 (Or.inl ⟨?hw4, ?hy4⟩) (by assumption) ?rest4
          case ho4 => simp only [List.getElem?_toArray, List.getElem?_cons_succ, List.getElem?_cons_zero]; rfl
          case hp4 => exact fun _ _ _ h => h
          case hw4 => rfl
          case hy4 =>
            intro W hSw
            go_simp
            try exact rfl
          simp only [Act.put]
          refine wpAnyH_take (i := 4) (oi := ?oi5) (v := ?v5) ?ho5 (by kernel_rfl) (by kernel_rfl) (by kernel_rfl) ?hp5 (Or.inl ⟨?hw5, ?hy5⟩) (by assumption) ?rest5
          case ho5 => simp only [List.getElem?_toArray, List.getElem?_cons_succ, List.getElem?_cons_zero]; rfl
          case hp5 => exact fun _ _ _ h => h
          case hw5 => rfl
          case hy5 =>
            intro W hSw
            have hq1 := (hSw.cell (⟨gn, q, none⟩, .string xn) (by simp)).1
            go_simp
            try exact rfl
          simp only [Act.put]
          refine wpAnyH_ready (rs := [6]) (by kernel_rfl) (by simp) ?_
          refine AllReadyH.cons rfl (fun K hK => ?_) AllReadyH.nil
          obtain ⟨⟨x2, d2⟩, f2⟩ := hHeld.open 2 (by decide)
          go_simp
          refine hK.out _ _ (hHeld.put2 _) (fun hHeld => ?_)
          clear hK K d2 f2 x2
          refine wpAnyH_take (i := 7) (oi := ?oi6) (v := ?v6) ?ho6 (by kernel_rfl) (by kernel_rfl) (by kernel_rfl) ?hp6 (Or.inl ⟨?hw6, ?hy6⟩) (by assumption) ?rest6
          case ho6 => simp only [List.getElem?_toArray, List.getElem?_cons_succ, List.getElem?_cons_zero]; rfl
          case hp6 => exact fun _ _ _ h => h
          case hw6 => rfl
          case hy6 =>
            intro W hSw
            go_simp
            try exact rfl
          simp only [Act.put]
          refine wpAnyH_ready (rs := [8]) (by kernel_rfl) (by simp) ?_
          refine AllReadyH.cons rfl (fun K hK => ?_) AllReadyH.nil
          obtain ⟨⟨x5, d5⟩, f5⟩ := hHeld.open 5 (by decide)
          go_simp
          refine hK.out _ _ (hHeld.put5 _) (fun hHeld => ?_)
          clear hK K d5 f5 x5
          refine wpAnyH_done (by kernel_rfl) ?_ _
          have hZ := Lib.hid hHeld.tail
          go_wp2
          go_meet
          exact hZ
      case rest =>
      clear hX1
      have hX1 := hcut
      clear hcut
      obtain ⟨e1, hv1, hv2, hO⟩ := hX1.out.ev
      have hcc := (cells10 hO).1
      have c0 := hcc.1
      have c1 := hcc.2.1
      have c2 := hcc.2.2.1
      have c3 := hcc.2.2.2.1
      have c4 := hcc.2.2.2.2.1
      have c5 := hcc.2.2.2.2.2.1
      have c6 := hcc.2.2.2.2.2.2.1
      have c7 := hcc.2.2.2.2.2.2.2.1
      have c8 := hcc.2.2.2.2.2.2.2.2.1
      have c9 := hcc.2.2.2.2.2.2.2.2.2
      clear hcc hO
      have hS6 := Lib.hid (hX1.out.s.world (u' := wc.alloc (.cells #[.string e1.client, .int .i64 e1.seq, .int .i64 e1.kind, .int .i64 e1.time, .string e1.id, .string e1.name, .string e1.other, .int .i64 e1.version, .int .i64 e1.arm, .int .i64 e1.value] 40)) ((Below.refl _ _).alloc (Nat.le_refl _) _))
      have hsz := hX1.out.s.below.size
      clear hX1
      subst hLi
      go_wp2_with (at_builtin; refine wpList_append_own _ rfl _ _ 38 rfl w3.heap.size 40 i0 (.agg zeroE.toArray) 10 112 Tryd.underlying38 hi hz0 hz1 hz2 rfl (by decide) _ L.length _ rfl hS6.out.row ⟨wc.heap.size, 0, none⟩ 1 1 (evA e1).toList rfl rfl (World.news_of_block (cs := evA e1) (t := 40) (fr := (0, 0)) (Own.new' rfl)) (by unfold evA; simp; exact ⟨rfl, rfl, rfl, rfl, rfl, rfl, rfl, rfl, rfl, rfl⟩) (by unfold maxLen; omega) (by omega) (by simp; omega) ?_; intro v' w4 hown4 hgrow hnil; clear hnil; have hS7 := Lib.hid (hS6.out.append hv1 hv2 hown4 hgrow); clear hown4 hgrow hS6)
      obtain ⟨va', vc', rfl⟩ := owns_slice hS7.out.row
      have hlen : (L ++ [e1]).length = L.length + 1 := by simp
      rw [hlen] at hS7
      go_roundw
      case rel => exact ⟨L.length + 1, va', vc', L ++ [e1], by omega, hlen, by go_num, by rw [hlen], hS7⟩
      case measure => (first | (simp [intOf]; omega) | simp [intOf])
    · obtain rfl : i = R.length := by omega
      have hl : ¬ (R.length : Int) < (R.length : Int) := by omega
      have hL0 := Lib.hid (evs_of (u := w3) (E := L) (a := va) (c := vc) (by have h9 := hS.out.row; rw [← hLi] at h9; exact h9) hS.out.below)
      have hLs := Lib.hid hS.out.small
      have hLn : L.length ≤ 100000 := by omega
      have hX4 := Lib.hid (hX.out.below hS.out.below hX.out.lt)
      have hB4 := Lib.hid (hB3.out.trans (hS.out.below.mono hB3.out.size))
      have hI4 := Lib.hid (bytesIn_to h.out hB4.out)
      clear hS hX hB3 hR3 hi'
      go_wp2_with fail
      refine (events_any a n c wr hI4.out).mono ?_
      rintro e w5 ⟨⟨v, E, rfl, hown, hsm, hlen⟩, hb5⟩
      obtain ⟨ea, ec, rfl⟩ := owns_slice hown
      have hE := evs_of hown hb5
      have hEs := Lib.hid (show Small E from fun e he => by have := hsm e he; omega)
      have hEn : E.length ≤ 100000 := by omega
      have hb6 : Below w5.heap.size w5 (w5.alloc (.cells (mrowV k s t 0 cap least before) 29)) := (Below.refl _ _).alloc (Nat.le_refl _) _
      have hV := Lib.hid (show VRel w (w5.alloc (.cells (mrowV k s t 0 cap least before) 29)) g w5.heap.size (mrowV k s t win cap least before) (mrowV k s t 0 cap least before) ea ec E va vc L from
        ⟨(hX4.out.below hb5 hX4.out.lt).alloc _, Own.new w5 _ _, hE.below hb6, (hL0.out.below hb5).below hb6, (hB4.out.trans (hb5.mono hB4.out.size)).trans (hb6.mono (by have := hB4.out.size; have := hb5.size; omega))⟩)
      have hX5 := hX4.out.below hb5 hX4.out.lt
      obtain ⟨p0, p1, p2, p3, p4, p5, p6⟩ := box7 hX5
      have hgl : g < w5.heap.size := hX5.lt
      clear hL0 hX4 hB4 hI4 hown hsm hlen hb5 hE hb6 hX5
      unfold mrowV at hV
      go_wp2_with fail
      generalize w5.alloc (.cells _ 29) = w6 at hV ⊢
      generalize w5.heap.size = gb at hV hgl ⊢
      clear p0 p1 p2 p3 p4 p5 p6
      go_loopw [15] (fun s15 wr => ∃ j : Nat, j ≤ 3 ∧ s15 = .int .i64 j ∧ Hid (VRel w wr g gb (mrowV k s t win cap least before) (mrowV k s t 0 cap least before) ea ec E va vc L)) (fun s15 _ => 3 - (intOf s15).toNat)
      case atStart => exact ⟨0, by omega, rfl, hV⟩
      case round =>
        clear hV
        obtain ⟨j, hj, rfl, hV⟩ := hrel
        by_cases hlt : j < 3
        · have hI : (j : Int) < 3 := by omega
          have hI0 : (0 : Int) ≤ (j : Int) := Int.natCast_nonneg _
          go_upto_region 21 with fail
          go_cut [16] (fun s16 wy => ∃ (bz : Nat) (m3 : MV) (s3 t3 : ByteArray), s16 = .pointer (some ⟨bz, 0, none⟩) ∧ Hid (Own wy bz (mrowV m3.k s3 t3 m3.win m3.cap m3.least m3.before) 29) ∧ Hid (s3.data.toList = m3.name ∧ t3.data.toList = m3.below ∧ s3.size ≤ maxLen ∧ t3.size ≤ maxLen) ∧ wr.heap.size ≤ bz ∧ Hid (Below wr.heap.size wr wy))
          case first =>
            obtain ⟨r3, hr3⟩ : ∃ r3 : Int, wh.tmod 3 = r3 := ⟨_, rfl⟩
            have hr4 : wh % 3 = r3 := by rw [← hr3, Int.tmod_eq_emod_of_nonneg hw0]
            have hr0 : 0 ≤ r3 := by rw [← hr4]; omega
            have hr1 : r3 < 3 := by rw [← hr4]; omega
            have hrw : IntKind.i64.wrap r3 = r3 := IntWalk.i64_in _ (by omega)
            obtain ⟨p0, p1, p2, p3, p4, p5, p6⟩ := box7 hV.out.box
            obtain ⟨q0, q1, q2, q3, q4, q5, q6⟩ := box7 hV.out.bad
            have hL21 := Own.new wr #[.int .i64 k, .string s, .string t, .int .i64 win, .int .i64 cap, .int .i64 least, .int .i64 before, .int .i64 k, .string s, .string t, .int .i64 0, .int .i64 cap, .int .i64 least, .int .i64 before, .int .i64 (1 + r3), .string ⟨#[98, 117, 121]⟩, .string ⟨#[]⟩, .int .i64 1, .int .i64 1048576, .int .i64 (-1099511627776), .int .i64 0] 29
            rcases (show j = 0 ∨ j = 1 ∨ j = 2 by omega) with rfl | rfl | rfl
            · have hZ := Own.new (wr.alloc (.cells #[.int .i64 k, .string s, .string t, .int .i64 win, .int .i64 cap, .int .i64 least, .int .i64 before, .int .i64 k, .string s, .string t, .int .i64 0, .int .i64 cap, .int .i64 least, .int .i64 before, .int .i64 (1 + r3), .string ⟨#[98, 117, 121]⟩, .string ⟨#[]⟩, .int .i64 1, .int .i64 1048576, .int .i64 (-1099511627776), .int .i64 0] 29)) #[.int .i64 k, .string s, .string t, .int .i64 win, .int .i64 cap, .int .i64 least, .int .i64 before] 29
              rw [show (wr.alloc (.cells #[.int .i64 k, .string s, .string t, .int .i64 win, .int .i64 cap, .int .i64 least, .int .i64 before, .int .i64 k, .string s, .string t, .int .i64 0, .int .i64 cap, .int .i64 least, .int .i64 before, .int .i64 (1 + r3), .string ⟨#[98, 117, 121]⟩, .string ⟨#[]⟩, .int .i64 1, .int .i64 1048576, .int .i64 (-1099511627776), .int .i64 0] 29)).heap.size = wr.heap.size + 1 by simp] at hZ
              obtain ⟨l0, l1, l2, l3, l4, l5, l6⟩ := cellsV hL21 0
              replace hZ := Lib.hid hZ
              have hW := Lib.hid (((Below.refl wr.heap.size wr).alloc (Nat.le_refl _) (.cells #[.int .i64 k, .string s, .string t, .int .i64 win, .int .i64 cap, .int .i64 least, .int .i64 before, .int .i64 k, .string s, .string t, .int .i64 0, .int .i64 cap, .int .i64 least, .int .i64 before, .int .i64 (1 + r3), .string ⟨#[98, 117, 121]⟩, .string ⟨#[]⟩, .int .i64 1, .int .i64 1048576, .int .i64 (-1099511627776), .int .i64 0] 29)).alloc (by simp) (.cells #[.int .i64 k, .string s, .string t, .int .i64 win, .int .i64 cap, .int .i64 least, .int .i64 before] 29))
              clear hL21
              go_wp2
              go_meet
              exact ⟨_, (mvMade k win cap least before s t), s, t, rfl, hZ, Lib.hid ⟨rfl, rfl, hM.out.1, hM.out.2⟩, by omega, hW⟩
            · have hZ := Own.new (wr.alloc (.cells #[.int .i64 k, .string s, .string t, .int .i64 win, .int .i64 cap, .int .i64 least, .int .i64 before, .int .i64 k, .string s, .string t, .int .i64 0, .int .i64 cap, .int .i64 least, .int .i64 before, .int .i64 (1 + r3), .string ⟨#[98, 117, 121]⟩, .string ⟨#[]⟩, .int .i64 1, .int .i64 1048576, .int .i64 (-1099511627776), .int .i64 0] 29)) #[.int .i64 k, .string s, .string t, .int .i64 0, .int .i64 cap, .int .i64 least, .int .i64 before] 29
              rw [show (wr.alloc (.cells #[.int .i64 k, .string s, .string t, .int .i64 win, .int .i64 cap, .int .i64 least, .int .i64 before, .int .i64 k, .string s, .string t, .int .i64 0, .int .i64 cap, .int .i64 least, .int .i64 before, .int .i64 (1 + r3), .string ⟨#[98, 117, 121]⟩, .string ⟨#[]⟩, .int .i64 1, .int .i64 1048576, .int .i64 (-1099511627776), .int .i64 0] 29)).heap.size = wr.heap.size + 1 by simp] at hZ
              obtain ⟨l0, l1, l2, l3, l4, l5, l6⟩ := cellsV hL21 7
              replace hZ := Lib.hid hZ
              have hW := Lib.hid (((Below.refl wr.heap.size wr).alloc (Nat.le_refl _) (.cells #[.int .i64 k, .string s, .string t, .int .i64 win, .int .i64 cap, .int .i64 least, .int .i64 before, .int .i64 k, .string s, .string t, .int .i64 0, .int .i64 cap, .int .i64 least, .int .i64 before, .int .i64 (1 + r3), .string ⟨#[98, 117, 121]⟩, .string ⟨#[]⟩, .int .i64 1, .int .i64 1048576, .int .i64 (-1099511627776), .int .i64 0] 29)).alloc (by simp) (.cells #[.int .i64 k, .string s, .string t, .int .i64 0, .int .i64 cap, .int .i64 least, .int .i64 before] 29))
              clear hL21
              go_wp2
              go_meet
              exact ⟨_, (mvMade k 0 cap least before s t), s, t, rfl, hZ, Lib.hid ⟨rfl, rfl, hM.out.1, hM.out.2⟩, by omega, hW⟩
            · have hZ := Own.new (wr.alloc (.cells #[.int .i64 k, .string s, .string t, .int .i64 win, .int .i64 cap, .int .i64 least, .int .i64 before, .int .i64 k, .string s, .string t, .int .i64 0, .int .i64 cap, .int .i64 least, .int .i64 before, .int .i64 (1 + r3), .string ⟨#[98, 117, 121]⟩, .string ⟨#[]⟩, .int .i64 1, .int .i64 1048576, .int .i64 (-1099511627776), .int .i64 0] 29)) #[.int .i64 (1 + r3), .string ⟨#[98, 117, 121]⟩, .string ⟨#[]⟩, .int .i64 1, .int .i64 1048576, .int .i64 (-1099511627776), .int .i64 0] 29
              rw [show (wr.alloc (.cells #[.int .i64 k, .string s, .string t, .int .i64 win, .int .i64 cap, .int .i64 least, .int .i64 before, .int .i64 k, .string s, .string t, .int .i64 0, .int .i64 cap, .int .i64 least, .int .i64 before, .int .i64 (1 + r3), .string ⟨#[98, 117, 121]⟩, .string ⟨#[]⟩, .int .i64 1, .int .i64 1048576, .int .i64 (-1099511627776), .int .i64 0] 29)).heap.size = wr.heap.size + 1 by simp] at hZ
              obtain ⟨l0, l1, l2, l3, l4, l5, l6⟩ := cellsV hL21 14
              replace hZ := Lib.hid hZ
              have hW := Lib.hid (((Below.refl wr.heap.size wr).alloc (Nat.le_refl _) (.cells #[.int .i64 k, .string s, .string t, .int .i64 win, .int .i64 cap, .int .i64 least, .int .i64 before, .int .i64 k, .string s, .string t, .int .i64 0, .int .i64 cap, .int .i64 least, .int .i64 before, .int .i64 (1 + r3), .string ⟨#[98, 117, 121]⟩, .string ⟨#[]⟩, .int .i64 1, .int .i64 1048576, .int .i64 (-1099511627776), .int .i64 0] 29)).alloc (by simp) (.cells #[.int .i64 (1 + r3), .string ⟨#[98, 117, 121]⟩, .string ⟨#[]⟩, .int .i64 1, .int .i64 1048576, .int .i64 (-1099511627776), .int .i64 0] 29))
              clear hL21
              go_wp2
              go_meet
              exact ⟨_, ⟨1 + r3, [98, 117, 121], [], 1, 1048576, -1099511627776, 0⟩, ⟨#[98, 117, 121]⟩, ⟨#[]⟩, rfl, hZ, Lib.hid ⟨rfl, rfl, (by show 3 ≤ maxLen; unfold maxLen; omega), Nat.zero_le _⟩, by omega, hW⟩
          case rest =>
          obtain ⟨bz, m3, s3, t3, rfl, hZ, hm3, hbz, hW⟩ := hcut
          obtain ⟨z0, z1, z2, z3, z4, z5, z6⟩ := box7 hZ.out
          go_upto_region 22 with fail
          go_cut [93] (fun s93 wy => ∃ y : Bool, s93 = .bool y ∧ wy = wc)
          case first =>
            by_cases hj2 : j = 2
            · have hj3 : ((j : Int) == 2) = true := by simp; omega
              go_wp2
              go_meet
              exact ⟨_, rfl, rfl⟩
            · have hj3 : ((j : Int) == 2) = false := by simp; omega
              go_wp2
              go_meet
              exact ⟨_, rfl, rfl⟩
          case rest =>
          obtain ⟨y, rfl, hwc⟩ := hcut
          replace hwc := hwc.symm
          subst hwc
          clear z0 z1 z2 z3 z4 z5 z6
          go_upto_if 93 with fail
          go_cut [] (fun wy => ∃ cap3 : Int, Hid (Own wy bz (mrowV m3.k s3 t3 m3.win cap3 m3.least m3.before) 29) ∧ Hid (Below wr.heap.size wr wy))
          case first =>
            cases y
            · go_wp2
              go_meet
              exact ⟨_, hZ, hW⟩
            · have z4 := (box7 hZ.out).2.2.2.2.1
              have f4 := hZ.out.free 4
              have hZ2 := Lib.hid (hZ.out.set 4 (.int .i64 1))
              have hW2 := Lib.hid (hW.out.setCell (p := ⟨bz, 4, none⟩) hbz (.int .i64 1))
              go_wp2
              go_meet
              exact ⟨1, hZ2, hW2⟩
          case rest =>
          clear hZ hW
          obtain ⟨cap3, hZ, hW⟩ := hcut
          have hV2 := Lib.hid (hV.out.world hW.out)
          clear hV hW
          obtain ⟨x1, y1, hv1⟩ := val_two { m3 with cap := cap3 } E
          obtain ⟨x2, y2, hv2⟩ := val_two { m3 with cap := cap3 } L
          replace hv1 := Lib.hid hv1
          replace hv2 := Lib.hid hv2
          obtain ⟨z0, z1, z2, z3, z4, z5, z6⟩ := box7 hZ.out
          go_wp2_with fail
          refine (value_p { m3 with cap := cap3 } s3 t3 ea ec E _ hm3.out.1 hm3.out.2.1 hV2.out.evs.at.1 hEn hV2.out.evs.at.2.1 hV2.out.evs.at.2.2 hEs.out (hT.out.below hV2.out.below)).mono ?_
          rintro e wa ⟨rfl, hba⟩
          rw [hv1.out]
          have hZa := Lib.hid (hZ.out.below hba hZ.out.lt)
          have hVa := Lib.hid (hV2.out.world hba)
          clear hba hZ hV2 z0 z1 z2 z3 z4 z5 z6
          obtain ⟨z0, z1, z2, z3, z4, z5, z6⟩ := box7 hZa.out
          go_wp2_with fail
          refine (value_r { m3 with cap := cap3 } s3 t3 ea ec E _ hm3.out.1 hm3.out.2.1 hm3.out.2.2.1 hm3.out.2.2.2 hVa.out.evs.at.1 hEn hEs.out).mono ?_
          rintro e wb ⟨rfl, hba⟩
          rw [hv1.out]
          have hZb := Lib.hid (hZa.out.below hba hZa.out.lt)
          have hVb := Lib.hid (hVa.out.world hba)
          clear hba hZa hVa z0 z1 z2 z3 z4 z5 z6
          obtain ⟨z0, z1, z2, z3, z4, z5, z6⟩ := box7 hZb.out
          have hcall := value_p { m3 with cap := cap3 } s3 t3 va vc L wb hm3.out.1 hm3.out.2.1 hVb.out.own.at.1 hLn hVb.out.own.at.2.1 hVb.out.own.at.2.2 hLs.out (hT.out.below hVb.out.below)
          rw [hLi] at hcall
          replace hcall := Lib.hid hcall
          go_wp2_with fail
          refine hcall.out.mono ?_
          rintro e wd ⟨rfl, hba⟩
          rw [hv2.out]
          have hZd := Lib.hid (hZb.out.below hba hZb.out.lt)
          have hVd := Lib.hid (hVb.out.world hba)
          clear hba hZb hVb hcall z0 z1 z2 z3 z4 z5 z6
          obtain ⟨z0, z1, z2, z3, z4, z5, z6⟩ := box7 hZd.out
          have hcall := value_r { m3 with cap := cap3 } s3 t3 va vc L wd hm3.out.1 hm3.out.2.1 hm3.out.2.2.1 hm3.out.2.2.2 hVd.out.own.at.1 hLn hLs.out
          rw [hLi] at hcall
          replace hcall := Lib.hid hcall
          go_wp2_with fail
          refine hcall.out.mono ?_
          rintro e we ⟨rfl, hba⟩
          rw [hv2.out]
          have hVe := Lib.hid (hVd.out.world hba)
          clear hba hZd hVd hcall z0 z1 z2 z3 z4 z5 z6
          go_wp2
          go_roundw
          case rel => exact ⟨j + 1, by omega, by go_num, hVe⟩
          case measure => (first | (simp [intOf]; omega) | simp [intOf])
        · obtain rfl : j = 3 := by omega
          go_wp2
          go_ret
          exact ⟨rfl, hV.out.below⟩

end Go.Proofs.YtnghpjijfdpmkaaDoor.metric

