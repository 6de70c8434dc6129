/- The law MetricLimited: a value lies from 0 to the cap, the order of the events plays no part, a greater cap gives no less. -/
import Derived.Test.YtnghpjijfdpmkaaDoorMetEw
import Derived.Test.YtnghpjijfdpmkaaDoorMetLm
import Derived.Test.YtnghpjijfdpmkaaDoorMetAw
namespace Go.Proofs.YtnghpjijfdpmkaaDoor.metric
open Go.RowKit Go.Proofs.YtnghpjijfdpmkaaDoor Go.Proofs.YtnghpjijfdpmkaaDoor.text

theorem bytesIn_to {w w' : World} {a : Option Addr} {n : Nat} (h : BytesIn w.cell? a n) (hb : Below w.heap.size w w') : BytesIn w'.cell? a n := by
  refine ⟨h.1, ?_⟩
  rcases h.2 with h2 | ⟨blk, off, ha, h2⟩
  · exact Or.inl h2
  · refine Or.inr ⟨blk, off, ha, fun i hi => ?_⟩
    obtain ⟨u, h3, h4, h5⟩ := h2 i hi
    exact ⟨u, h3, h4, sub_of_below hb _ _ h5⟩
/-- Events of the call's own, as a slice. -/
def Evs (u : World) (a : Option Addr) (c : Nat) (E : List EV) : Prop := (a = none ∧ c = 0 ∧ E = []) ∨ ∃ g, a = some ⟨g, 0, none⟩ ∧ OwnE u g c E.length (rowF E)
theorem Evs.below {u v : World} {a : Option Addr} {c : Nat} {E : List EV} (h : Evs u a c E) (hb : Below u.heap.size u v) : Evs v a c E := by
  rcases h with h | ⟨g, h1, h2⟩
  · exact Or.inl h
  · exact Or.inr ⟨g, h1, h2.below hb⟩
theorem Evs.at {u : World} {a : Option Addr} {c : Nat} {E : List EV} (h : Evs u a c E) : EvsAt u.cell? a E ∧ (a = none → E = []) ∧ (a = none → c = 0) := by
  rcases h with ⟨rfl, rfl, rfl⟩ | ⟨g, rfl, h2⟩
  · exact ⟨Or.inl rfl, fun _ => rfl, fun _ => rfl⟩
  · refine ⟨Or.inr ⟨g, 0, rfl, fun i e hi j hj => ?_⟩, fun h => (by cases h), fun h => (by cases h)⟩
    have hk := (List.getElem?_eq_some_iff.1 hi).1
    rw [Nat.zero_add, h2.cell hk j hj]
    unfold rowF
    rw [List.getD_eq_getElem?_getD, hi]
    rfl
theorem evs_of {u w2 : World} {E : List EV} {a : Option Addr} {c : Nat} (hown : w2.ownsRow u.heap.size 40 10 (.slice a E.length c) E.length (flatE E)) (hb : Below u.heap.size u w2) : Evs w2 a c E := by
  rcases (cloned_of hown hb).2 with ⟨h1, h2⟩ | ⟨g, cap, h1, -, h2⟩
  · injection h1 with h1
    injection h1 with h3 h4 h5
    exact Or.inl ⟨h3, h5, h2⟩
  · injection h1 with h1
    injection h1 with h3 h4 h5
    subst h3; subst h5
    exact Or.inr ⟨g, rfl, h2⟩
theorem flatE_snoc (E : List EV) (e : EV) : flatE (E ++ [e]) = flatE E ++ (evA e).toList := by unfold flatE; simp
theorem made_szL {k win cap least before : Int} {s t : ByteArray} (h : MadeM k win cap least before s t) : 1 ≤ cap ∧ cap ≤ 50 ∧ (k = 3 → cap = 1) ∧ 1 ≤ k ∧ k ≤ 4 := ⟨h.2.2.2.2.1, h.2.2.2.2.2.1, h.2.2.2.2.2.2.1, h.1, h.2.1⟩

set_option maxRecDepth 100000 in
set_option maxHeartbeats 16000000 in
theorem limited_walk (a : Option Addr) (n c : Nat) (a2 : Option Addr) (n2 c2 : Nat) (turn more : Int) (w : World) (h : BytesIn w.cell? a n) (h2 : BytesIn w.cell? a2 n2) (ht0 : 0 ≤ turn) (ht1 : turn ≤ 255) (hm0 : 0 ≤ more) (hm1 : more ≤ 255) (hT : NTabs w) :
    Calls Tryd.prog 6 #[.slice a n c, .slice a2 n2 c2, .int .u8 turn, .int .u8 more] w fun e w' => e = .returned (.bool true) ∧ Below w.heap.size w w' := by
  replace hT := Lib.hid hT
  replace h := Lib.hid h
  replace h2 := Lib.hid h2
  obtain ⟨i0, hi, hz0, hz1, hz2⟩ := info_parts infoEv
  go_enter Tryd.func6, Tryd.ntmps6
  go_wp2_with fail
  refine (awake_m _ hT.out).mono ?_
  rintro e w1 ⟨rfl, hb1⟩
  replace hb1 := Lib.hid hb1
  by_cases hx : 300 < n
  · go_wp2
    go_ret
    exact ⟨rfl, hb1.out⟩
  have hx2 : ¬ (300 : Int) < (n : Int) := by omega
  go_wp2_with fail
  refine (made_any a2 n2 c2 w1 (bytesIn_to h2.out hb1.out)).mono ?_
  rintro e w2 ⟨k, win, cap, least, before, s, t, rfl, hM, hb2⟩
  replace hM := Lib.hid hM
  have hB2 := Lib.hid (hb1.out.trans (hb2.mono hb1.out.size))
  clear hb1 hb2
  have hX := Lib.hid (Own.new w2 #[.int .i64 k, .string s, .string t, .int .i64 win, .int .i64 cap, .int .i64 least, .int .i64 before] 29)
  have hB3 := Lib.hid (hB2.out.alloc hB2.out.size (.cells #[.int .i64 k, .string s, .string t, .int .i64 win, .int .i64 cap, .int .i64 least, .int .i64 before] 29))
  have hgx := Lib.hid hB2.out.size
  clear hB2
  go_wp2_with fail
  generalize w2.alloc (.cells _ 29) = w3 at hX hB3 ⊢
  generalize w2.heap.size = g at hX hgx ⊢
  refine (events_any a n c w3 (bytesIn_to h.out hB3.out)).mono ?_
  rintro e w4 ⟨⟨v, E, rfl, hown, hsm, hlen⟩, hb4⟩
  obtain ⟨ea, ec, rfl⟩ := owns_slice hown
  have hE := Lib.hid (evs_of hown hb4)
  have hX4 := Lib.hid (hX.out.below hb4 hX.out.lt)
  have hB4 := Lib.hid (hB3.out.trans (hb4.mono hB3.out.size))
  replace hsm := Lib.hid hsm
  clear hown hb4 hX hB3
  obtain ⟨tn, htn⟩ : ∃ tn : Nat, (tn : Int) = turn := ⟨turn.toNat, Int.toNat_of_nonneg ht0⟩
  subst htn
  go_wp2_with fail
  go_loopw [11, 12] (fun s11 s12 wr => ∃ (i : Nat) (va : Option Addr) (vc : Nat), i ≤ E.length ∧ s12 = .int .i64 i ∧ s11 = .slice va i vc ∧ Hid (wr.ownsRow w4.heap.size 40 10 (.slice va i vc) i (flatE (rotL E tn i))) ∧ Hid (Below w4.heap.size w4 wr)) (fun _ s12 _ => E.length - (intOf s12).toNat)
  case atStart => exact ⟨0, none, 0, Nat.zero_le _, rfl, rfl, Lib.hid (World.ownsRow_nil _ _ _ _), Lib.hid (Below.refl _ _)⟩
  case round =>
    obtain ⟨i, va, vc, hi', rfl, rfl, hown, hB⟩ := hrel
    by_cases hlt : i < E.length
    · rcases hE.out.below hB.out with ⟨-, -, h0⟩ | ⟨ge, hge, hO⟩
      · rw [h0] at hlt; cases hlt
      subst hge
      obtain ⟨q, hq⟩ : ∃ q : Nat, Hid (q = (i + tn) % E.length) := ⟨_, Lib.hid rfl⟩
      have hq1 : q < E.length := by rw [hq.out]; exact Nat.mod_lt _ (by omega)
      have i0' : (0 : Int) ≤ (i : Int) := Int.natCast_nonneg _
      have hqm2 : ((i : Int) + (tn : Int)) % (E.length : Int) = (q : Int) := by rw [hq.out]; rfl
      have hqm : ((i : Int) + (tn : Int)).tmod (E.length : Int) = (q : Int) := by rw [Int.tmod_eq_emod_of_nonneg (by omega)]; exact hqm2
      have hqw : IntKind.i64.wrap (q : Int) = (q : Int) := IntWalk.i64_in _ (by omega)
      have q0 : (0 : Int) ≤ (q : Int) := Int.natCast_nonneg _
      have q1 : (q : Int) < (E.length : Int) := by omega
      have hl0 : ¬ (E.length : Int) = 0 := by omega
      have hl1 : (i : Int) < (E.length : Int) := by omega
      obtain ⟨c0, c1, c2, c3, c4, c5, c6, c7, c8, c9⟩ := hO.cells hq1
      have hBz := hB.out.size
      have hown2 := Lib.hid (hown.out.alloc (.cells #[.string (rowF E q).client, .int .i64 (rowF E q).seq, .int .i64 (rowF E q).kind, .int .i64 (rowF E q).time, .string (rowF E q).id, .string (rowF E q).name, .string (rowF E q).other, .int .i64 (rowF E q).version, .int .i64 (rowF E q).arm, .int .i64 (rowF E q).value] 40))
      have hB2 := Lib.hid (hB.out.alloc hBz (.cells #[.string (rowF E q).client, .int .i64 (rowF E q).seq, .int .i64 (rowF E q).kind, .int .i64 (rowF E q).time, .string (rowF E q).id, .string (rowF E q).name, .string (rowF E q).other, .int .i64 (rowF E q).version, .int .i64 (rowF E q).arm, .int .i64 (rowF E q).value] 40))
      have hsnoc := Lib.hid (show flatE (rotL E tn i) ++ (evA (rowF E q)).toList = flatE (rotL E tn (i + 1)) by rw [rotL_succ, flatE_snoc, hq.out])
      clear hown hB hO hq
      go_wp2_with (at_builtin; refine wpList_append_own _ rfl _ _ 38 rfl w4.heap.size 40 i0 (.agg zeroE.toArray) 10 112 Tryd.underlying38 hi hz0 hz1 hz2 rfl (by decide) _ i _ rfl hown2.out ⟨wr.heap.size, 0, none⟩ 1 1 (evA (rowF E q)).toList rfl rfl (World.news_of_block (cs := evA (rowF E q)) (t := 40) (fr := (0, 0)) (Own.new' rfl)) (by unfold evA; simp; exact ⟨rfl, rfl, rfl, rfl, rfl, rfl, rfl, rfl, rfl, rfl⟩) (by unfold maxLen; omega) (by omega) (by simp; omega) ?_; intro v' w5 hown5 hgrow hnil; clear hnil; have hB5 := Lib.hid (hB2.out.grown hgrow hB2.out.size (fun j hj => (hown2.out.lt j hj).1)); rw [hsnoc.out] at hown5; replace hown5 := Lib.hid hown5; clear hgrow)
      obtain ⟨va', vc', rfl⟩ := owns_slice hown5.out
      go_roundw
      case rel => exact ⟨i + 1, va', vc', by omega, by go_num, rfl, hown5, hB5⟩
      case measure => (first | (simp [intOf]; omega) | simp [intOf])
    · obtain rfl : i = E.length := by omega
      have hl : ¬ (E.length : Int) < (E.length : Int) := by omega
      have hTo : Hid (Evs wr va vc (rotL E tn E.length)) := Lib.hid (evs_of (u := w4) (by rw [rotL_len]; exact hown.out) hB.out)
      have hE5 := Lib.hid (hE.out.below hB.out)
      have hX5 := Lib.hid (hX4.out.below hB.out hX4.out.lt)
      have hB5 := Lib.hid (hB4.out.trans (hB.out.mono hB4.out.size))
      clear hown hB hE hX4 hB4
      have hsmT : Hid (Small (rotL E tn E.length)) := Lib.hid (fun e he => by
        have h0 : 0 < E.length := by
          rcases Nat.eq_zero_or_pos E.length with h0 | h0
          · have : (rotL E tn E.length).length = 0 := by rw [rotL_len]; exact h0
            rw [List.eq_nil_of_length_eq_zero this] at he
            cases he
          · exact h0
        have := hsm.out e (rot_mem h0 e he); omega)
      have hsmE : Hid (Small E) := Lib.hid (fun e he => by have := hsm.out e he; omega)
      obtain ⟨TA, hTA⟩ : ∃ TA, Hid (tot (addM (mvMade k win cap least before s t)) (msE E) = TA) := ⟨_, Lib.hid rfl⟩
      obtain ⟨TB, hTB⟩ : ∃ TB, Hid (tot (belM (mvMade k win cap least before s t)) (msE E) = TB) := ⟨_, Lib.hid rfl⟩
      have hv1 := Lib.hid (show valM (mvMade k win cap least before s t) E = .tuple #[.int .i64 (limI TA cap), .int .i64 (limI TB cap)] by
        rw [val_made (made_ok hM.out), hTA.out, hTB.out]; rfl)
      have hv2 := Lib.hid (fun h3 : k ≠ 3 => show valM (mvMade k win (cap + more) least before s t) E = .tuple #[.int .i64 (limI TA (cap + more)), .int .i64 (limI TB (cap + more))] by
        rw [val_made (more_ok hM.out h3 more hm0 hm1), ← hTA.out, ← hTB.out]; rfl)
      have hcap := made_szL hM.out
      obtain ⟨cap1, cap2, cap3, k1, k4⟩ := hcap
      have hb0 := Lib.hid (fun h4 : k ≠ 4 => show limI TB cap = 0 by rw [← hTB.out, bel_zero h4]; exact lim_zero (by omega))
      obtain ⟨p0, p1, p2, p3, p4, p5, p6⟩ := box7 hX5.out
      go_wp2_with fail
      refine (value_p (mvMade k win cap least before s t) s t ea ec E _ rfl rfl hE5.out.at.1 (by omega) hE5.out.at.2.1 hE5.out.at.2.2 hsmE.out (hT.out.below hB5.out)).mono ?_
      rintro e w5 ⟨rfl, hb5⟩
      rw [hv1.out]
      have hTo5 := Lib.hid (hTo.out.below hb5)
      have hE6 := Lib.hid (hE5.out.below hb5)
      have hX6 := Lib.hid (hX5.out.below hb5 hX5.out.lt)
      have hB6 := Lib.hid (hB5.out.trans (hb5.mono hB5.out.size))
      clear hTo hE5 hX5 hB5 hb5 p0 p1 p2 p3 p4 p5 p6
      obtain ⟨p0, p1, p2, p3, p4, p5, p6⟩ := box7 hX6.out
      have hcall := value_p (mvMade k win cap least before s t) s t va vc (rotL E tn E.length) w5 rfl rfl hTo5.out.at.1 (by rw [rotL_len]; omega) hTo5.out.at.2.1 hTo5.out.at.2.2 hsmT.out (hT.out.below hB6.out)
      simp only [rotL_len, val_rot] at hcall
      replace hcall := Lib.hid hcall
      go_wp2_with fail
      refine hcall.out.mono ?_
      rintro e w6 ⟨rfl, hb6⟩
      rw [hv1.out]
      have hE7 := Lib.hid (hE6.out.below hb6)
      have hX7 := Lib.hid (hX6.out.below hb6 hX6.out.lt)
      have hB7 := Lib.hid (hB6.out.trans (hb6.mono hB6.out.size))
      clear hTo5 hE6 hX6 hB6 hb6 hcall p0 p1 p2 p3 p4 p5 p6
      have a0 := lim_lo TA cap
      have a1 := lim_hi TA (show 0 ≤ cap by omega)
      have b0 := lim_lo TB cap
      have b1 := lim_hi TB (show 0 ≤ cap by omega)
      have a2' := Lib.hid (lim_more TA (show 0 ≤ cap by omega) (show cap ≤ cap + more by omega))
      have b2' := Lib.hid (lim_more TB (show 0 ≤ cap by omega) (show cap ≤ cap + more by omega))
      have ey := Lib.hid (show (0 : Int) ≤ limI TA (cap + more) ∧ limI TA (cap + more) ≤ cap + more ∧ 0 ≤ limI TB (cap + more) ∧ limI TB (cap + more) ≤ cap + more from ⟨lim_lo _ _, lim_hi _ (by omega), lim_lo _ _, lim_hi _ (by omega)⟩)
      generalize limI TA cap = A at *
      generalize limI TB cap = B at *
      generalize limI TA (cap + more) = A' at *
      generalize limI TB (cap + more) = B' at *
      obtain ⟨p0, p1, p2, p3, p4, p5, p6⟩ := box7 hX7.out
      have l1 : ¬ A < 0 := by omega
      have l2 : ¬ cap < A := by omega
      have l3 : ¬ B < 0 := by omega
      have l4 : ¬ cap < B := by omega
      go_upto_region 14 with fail
      have hcut4 : (k != 4) = false ∨ ((k != 4) = true ∧ (B != 0) = false) := by
        by_cases h4 : k = 4
        · exact Or.inl (by simp [h4])
        · exact Or.inr ⟨by simp [h4], by simp [hb0.out h4]⟩
      go_cut [96] (fun s96 wy => s96 = .bool false ∧ wy = w6)
      case first =>
        have hno : (decide (A < 0) || decide (cap < A) || decide (B < 0) || decide (cap < B)) = false := by
          rw [decide_eq_false (show ¬ A < 0 by omega), decide_eq_false (show ¬ cap < A by omega), decide_eq_false (show ¬ B < 0 by omega), decide_eq_false (show ¬ cap < B by omega)]; rfl
        replace hno := Lib.hid hno
        rcases hcut4 with h4 | ⟨h4, h5⟩
        · go_wp2
          go_meet
          exact ⟨congrArg Value.bool hno.out, rfl⟩
        · go_wp2
          go_meet
          exact ⟨congrArg Value.bool hno.out, rfl⟩
      case rest =>
      obtain ⟨rfl, hwc⟩ := hcut
      replace hwc := hwc.symm
      subst hwc
      clear hcut4 l1 l2 l3 l4
      by_cases h3 : k = 3
      · have hk3 : (k == 3) = true := by simp [h3]
        have hA1 : A ≤ 1 := by have := cap3 h3; omega
        go_wp2
        go_ret
        exact ⟨rfl, hB7.out⟩
      · have hk3 : (k == 3) = false := by simp [h3]
        have hv3 := Lib.hid (hv2.out h3)
        clear hv2
        have hX8 := hX7.out.alloc (.cells #[.int .i64 k, .string s, .string t, .int .i64 win, .int .i64 cap, .int .i64 least, .int .i64 before] 29)
        have hY8 := Own.new w6 #[.int .i64 k, .string s, .string t, .int .i64 win, .int .i64 cap, .int .i64 least, .int .i64 before] 29
        have x4 := (box7 hX8).2.2.2.2.1
        have y4 := (box7 hY8).2.2.2.2.1
        have y4f := hY8.free 4
        have hgl : g < w6.heap.size := hX7.out.lt
        have hE8 := Lib.hid (hE7.out.below ((Below.refl w6.heap.size w6).alloc (Nat.le_refl _) (.cells #[.int .i64 k, .string s, .string t, .int .i64 win, .int .i64 (cap + more), .int .i64 least, .int .i64 before] 29)))
        have hX9 := Lib.hid (hX7.out.alloc (.cells #[.int .i64 k, .string s, .string t, .int .i64 win, .int .i64 (cap + more), .int .i64 least, .int .i64 before] 29))
        have hY9 := Lib.hid (Own.new w6 #[.int .i64 k, .string s, .string t, .int .i64 win, .int .i64 (cap + more), .int .i64 least, .int .i64 before] 29)
        have hB9 := Lib.hid (hB7.out.alloc hB7.out.size (.cells #[.int .i64 k, .string s, .string t, .int .i64 win, .int .i64 (cap + more), .int .i64 least, .int .i64 before] 29))
        clear hX8 hY8 hX7 hE7
        go_upto_region 20 with fail
        generalize w6.alloc (.cells _ 29) = w7 at hE8 hX9 hY9 hB9 ⊢
        clear hB7 x4 y4 y4f p0 p1 p2 p3 p4 p5 p6
        generalize w6.heap.size = y at hY9 hgl ⊢
        obtain ⟨q0, q1, q2, q3, q4, q5, q6⟩ := box7 hY9.out
        go_wp2_with fail
        refine (value_p (mvMade k win (cap + more) least before s t) s t ea ec E _ rfl rfl hE8.out.at.1 (by omega) hE8.out.at.2.1 hE8.out.at.2.2 hsmE.out (hT.out.below hB9.out)).mono ?_
        rintro e w8 ⟨rfl, hb8⟩
        rw [hv3.out]
        have hX10 := Lib.hid (hX9.out.below hb8 hX9.out.lt)
        have hB10 := Lib.hid (hB9.out.trans (hb8.mono hB9.out.size))
        clear hb8 hE8 hX9 hY9 hB9 q0 q1 q2 q3 q4 q5 q6
        obtain ⟨p0, p1, p2, p3, p4, p5, p6⟩ := box7 hX10.out
        obtain ⟨u1, u2⟩ := a2'.out
        obtain ⟨u3, u4⟩ := b2'.out
        have hwA : (A == A') = true ∨ ((A == A') = false ∧ (A == cap) = true) := by
          by_cases h : A = A'
          · exact Or.inl (by simp [h])
          · exact Or.inr ⟨by simp [h], by simp; omega⟩
        have hwB : (B == B') = true ∨ ((B == B') = false ∧ (B == cap) = true) := by
          by_cases h : B = B'
          · exact Or.inl (by simp [h])
          · exact Or.inr ⟨by simp [h], by simp; omega⟩
        clear u2 u4
        rcases hwA with r1 | ⟨r1, r2⟩ <;> rcases hwB with r3 | ⟨r3, r4⟩
        all_goals
          go_wp2
          go_ret
          exact ⟨rfl, hB10.out⟩

end Go.Proofs.YtnghpjijfdpmkaaDoor.metric

