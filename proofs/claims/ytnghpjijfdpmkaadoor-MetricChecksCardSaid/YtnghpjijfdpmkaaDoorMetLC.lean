/- The law MetricChecks: Check and Print return what is specified. -/
import Derived.Test.YtnghpjijfdpmkaaDoorMetBA
import Derived.Test.YtnghpjijfdpmkaaDoorMetAw
import Derived.Test.YtnghpjijfdpmkaaDoorMetJ
import Derived.Test.YtnghpjijfdpmkaaDoorMetL
import Derived.Test.YtnghpjijfdpmkaaDoorMetG
import Derived.Deep.RegionLaw
import Derived.Deep.DrawnRows
import Derived.Deep.DeepCutAuto
namespace Go.Proofs.YtnghpjijfdpmkaaDoor.metric
open Go.RowKit Go.Proofs.YtnghpjijfdpmkaaDoor Go.Proofs.YtnghpjijfdpmkaaDoor.text
attribute [local go_sem ↓] Go.wp_at_zero Go.wp_at_succ

abbrev mrow7 (k : Int) (s t : ByteArray) (win cap least before : Int) : Array Value := #[.int .i64 k, .string s, .string t, .int .i64 win, .int .i64 cap, .int .i64 least, .int .i64 before]
/-- What the law holds at the head of a round. -/
structure CRel (w wr : World) (g : Nat) (A B : Array Value) : Prop where
  box : Own wr w.heap.size A 29
  made : Own wr g B 29
  below : Below w.heap.size w wr
theorem CRel.world {w wr wv : World} {g : Nat} {A B : Array Value} (h : CRel w wr g A B) (hb : Below wr.heap.size wr wv) : CRel w wv g A B :=
  ⟨h.box.below hb h.box.lt, h.made.below hb h.made.lt, h.below.trans (hb.mono h.below.size)⟩

theorem CRel.alloc {w wr : World} {g : Nat} {A B : Array Value} (h : CRel w wr g A B) (o : Obj) : CRel w (wr.alloc o) g A B := ⟨h.box.alloc o, h.made.alloc o, h.below.alloc h.below.size o⟩
theorem CRel.drew {w wr : World} {g : Nat} {A B : Array Value} (h : CRel w wr g A B) : CRel w wr.drew g A B := h.world (blw_drewN (Below.refl _ _) 1)
theorem CRel.set {w wr : World} {g bx : Nat} {A B : Array Value} (h : CRel w wr g A B) (hb : w.heap.size < bx ∧ g < bx) (i : Nat) (v : Value) : CRel w (wr.setCell ⟨bx, i, none⟩ v) g A B :=
  ⟨h.box.setOther (by have := hb.1; show w.heap.size ≠ bx; omega) v, h.made.setOther (by have := hb.2; show g ≠ bx; omega) v, h.below.setCell (by have := hb.1; show w.heap.size ≤ bx; omega) v⟩
theorem cells7 {w : World} {n : Nat} {A : Array Value} {t : TypeId} (h : Own w n A t) (o : Nat) :
    w.cell? ⟨n, o, none⟩ = A[o]? ∧ w.cell? ⟨n, o + 1, none⟩ = A[o + 1]? ∧ w.cell? ⟨n, o + 2, none⟩ = A[o + 2]? ∧ w.cell? ⟨n, o + 3, none⟩ = A[o + 3]? ∧ w.cell? ⟨n, o + 4, none⟩ = A[o + 4]? ∧ w.cell? ⟨n, o + 5, none⟩ = A[o + 5]? ∧ w.cell? ⟨n, o + 6, none⟩ = A[o + 6]? :=
  ⟨h.cell _, h.cell _, h.cell _, h.cell _, h.cell _, h.cell _, h.cell _⟩
theorem name_sz {x : ByteArray} (h : NameV x) : x.size ≤ maxLen := by
  rcases h with rfl | rfl
  · show 3 ≤ maxLen; unfold maxLen; omega
  · show 5 ≤ maxLen; unfold maxLen; omega
theorem made_sz {k win cap least before : Int} {s t : ByteArray} (h : MadeM k win cap least before s t) : s.size ≤ maxLen ∧ t.size ≤ maxLen := by
  obtain ⟨h1, h2, h3, h4, h5, h6, h7, h8, h9, h10, h11, h12, h13⟩ := h
  refine ⟨name_sz h11, ?_⟩
  by_cases hk : k = 4
  · exact name_sz (h12 hk)
  · rw [h13 hk]; exact Nat.zero_le _

set_option maxRecDepth 100000 in
set_option maxHeartbeats 16000000 in
theorem checks_walk (m : MV) (s t : ByteArray) (a : Option Addr) (n c : Nat) (f wh nn : Int) (x : ByteArray) (w : World) (hs : s.data.toList = m.name) (ht : t.data.toList = m.below) (hsz : s.size ≤ maxLen) (htz : t.size ≤ maxLen) (hxz : x.size ≤ maxLen) (h : BytesIn w.cell? a n) (hw0 : 0 ≤ wh) (hw1 : wh ≤ 255) (hT : NTabs w) :
    Calls Tryd.prog 7 #[.agg (mrow7 m.k s t m.win m.cap m.least m.before), .slice a n c, .int .u8 f, .int .u8 wh, .int .i64 nn, .string x] w fun e w' => e = .returned (.bool true) ∧ Below w.heap.size w w' := by
  replace hT := Lib.hid hT
  replace h := Lib.hid h
  replace hs := Lib.hid hs
  replace ht := Lib.hid ht
  have hO := Lib.hid (Own.new w (mrow7 m.k s t m.win m.cap m.least m.before) 29)
  have hB := Lib.hid (show Below w.heap.size w (w.alloc (.cells (mrow7 m.k s t m.win m.cap m.least m.before) 29)) from (Below.refl _ _).alloc (Nat.le_refl _) _)
  go_enter Tryd.func7, Tryd.ntmps7
  go_wp2_with fail
  refine (awake_m _ (hT.out.below hB.out)).mono ?_
  rintro e w1 ⟨rfl, hb1⟩
  have hO1 := Lib.hid (hO.out.below hb1 hO.out.lt)
  have hB1 := Lib.hid (hB.out.trans (hb1.mono hB.out.size))
  clear hb1 hO hB
  have hIn : BytesIn w1.cell? a n := by
    refine ⟨h.out.1, ?_⟩
    rcases h.out.2 with h2 | ⟨blk, off, ha, h2⟩
    · exact Or.inl h2
    · refine Or.inr ⟨blk, off, ha, fun i hi => ?_⟩
      obtain ⟨u, h3, h4, h5⟩ := h2 i hi
      exact ⟨u, h3, h4, sub_of_below hB1.out _ _ h5⟩
  replace hIn := Lib.hid hIn
  by_cases hx : 100 < x.size
  · go_wp2
    go_ret
    exact ⟨rfl, hB1.out⟩
  have hx2 : ¬ (100 : Int) < (x.size : Int) := by omega
  go_wp2_with fail
  refine (made_any a n c w1 hIn.out).mono ?_
  rintro e w2 ⟨k, win, cap, least, before, s2, t2, rfl, hM, hb2⟩
  have hO2 := Lib.hid (hO1.out.below hb2 hO1.out.lt)
  have hB2 := Lib.hid (hB1.out.trans (hb2.mono hB1.out.size))
  clear hb2 hO1 hB1 hIn
  have hC := Lib.hid (show CRel w (w2.alloc (.cells (mrow7 k s2 t2 win cap least before) 29)) w2.heap.size (mrow7 m.k s t m.win m.cap m.least m.before) (mrow7 k s2 t2 win cap least before) from ⟨hO2.out.alloc _, Own.new w2 _ _, hB2.out.alloc hB2.out.size _⟩)
  clear hO2 hB2
  have hmv := Lib.hid (made_ok hM)
  have hst := Lib.hid (made_sz hM)
  clear hM
  go_wp2_with fail
  refine (check_m (mvMade k win cap least before s2 t2) s2 t2 _ rfl rfl (hT.out.below hC.out.below)).mono ?_
  rintro e w3 ⟨rfl, hb3⟩
  rw [hmv.out]
  replace hC := Lib.hid (hC.out.world hb3)
  clear hb3 hmv
  obtain ⟨hsz2, htz2⟩ := hst.out
  clear hst
  generalize w3.heap.size = g3
  go_wp2_with fail
  go_loopw [14, 15] (fun s14 _ wr => ∃ i : Nat, i ≤ 3 ∧ s14 = .int .i64 i ∧ Hid (CRel w wr w2.heap.size (mrow7 m.k s t m.win m.cap m.least m.before) (mrow7 k s2 t2 win cap least before))) (fun s14 _ _ => 3 - (intOf s14).toNat)
  case atStart => exact ⟨0, by omega, rfl, hC⟩
  case round =>
    clear hC
    obtain ⟨i, hi, rfl, hC⟩ := hrel
    by_cases hlt : i < 3
    · have hI : (i : Int) < 3 := by omega
      have hI0 : (0 : Int) ≤ (i : Int) := Int.natCast_nonneg _
      go_wp2_with fail
      go_cut [15] (fun s15 wy => ∃ (bx : Nat) (m3 : MV) (s3 t3 : ByteArray), s15 = .pointer (some ⟨bx, 0, none⟩) ∧ Hid (Own wy bx (mrow7 m3.k s3 t3 m3.win m3.cap m3.least m3.before) 29) ∧ Hid (s3.data.toList = m3.name ∧ t3.data.toList = m3.below ∧ s3.size ≤ maxLen ∧ t3.size ≤ maxLen) ∧ Hid (CRel w wy w2.heap.size (mrow7 m.k s t m.win m.cap m.least m.before) (mrow7 k s2 t2 win cap least before)))
      · rcases (show i = 0 ∨ i = 1 ∨ i = 2 by omega) with rfl | rfl | rfl
        · refine wp_region_held_drew (S := fun W => CRel w W w2.heap.size (mrow7 m.k s t m.win m.cap m.least m.before) (mrow7 k s2 t2 win cap least before)) (by kernel_rfl) hC.out.drew (fun hHeld => ?_)
          generalize wr.drew = wd at hHeld ⊢
          refine wpAnyH_take (i := 0) (v := ?v0_100) rfl (by kernel_rfl) (by kernel_rfl) (by kernel_rfl) (fun _ _ _ h => h) (Or.inl ⟨by rfl, ?hy0_100⟩) (by assumption) ?rest0_100
          case hy0_100 =>
            intro W hSw
            obtain ⟨p0, p1, p2, p3, p4, p5, p6⟩ := box7 (show CRel w W w2.heap.size (mrow7 m.k s t m.win m.cap m.least m.before) (mrow7 k s2 t2 win cap least before) from hSw).box; obtain ⟨q0, q1, q2, q3, q4, q5, q6⟩ := box7 (show CRel w W w2.heap.size (mrow7 m.k s t m.win m.cap m.least m.before) (mrow7 k s2 t2 win cap least before) from hSw).made
            go_simp
            try exact rfl
          simp only [Act.put]
          refine wpAnyH_take (i := 1) (v := ?v1_101) rfl (by kernel_rfl) (by kernel_rfl) (by kernel_rfl) (fun _ _ _ h => h) (Or.inl ⟨by rfl, ?hy1_101⟩) (by assumption) ?rest1_101
          case hy1_101 =>
            intro W hSw
            obtain ⟨p0, p1, p2, p3, p4, p5, p6⟩ := box7 (show CRel w W w2.heap.size (mrow7 m.k s t m.win m.cap m.least m.before) (mrow7 k s2 t2 win cap least before) from hSw).box; obtain ⟨q0, q1, q2, q3, q4, q5, q6⟩ := box7 (show CRel w W w2.heap.size (mrow7 m.k s t m.win m.cap m.least m.before) (mrow7 k s2 t2 win cap least before) from hSw).made
            go_simp
            try exact rfl
          simp only [Act.put]
          refine wpAnyH_take (i := 2) (v := ?v2_102) rfl (by kernel_rfl) (by kernel_rfl) (by kernel_rfl) (fun _ _ _ h => h) (Or.inl ⟨by rfl, ?hy2_102⟩) (by assumption) ?rest2_102
          case hy2_102 =>
            intro W hSw
            obtain ⟨p0, p1, p2, p3, p4, p5, p6⟩ := box7 (show CRel w W w2.heap.size (mrow7 m.k s t m.win m.cap m.least m.before) (mrow7 k s2 t2 win cap least before) from hSw).box; obtain ⟨q0, q1, q2, q3, q4, q5, q6⟩ := box7 (show CRel w W w2.heap.size (mrow7 m.k s t m.win m.cap m.least m.before) (mrow7 k s2 t2 win cap least before) from hSw).made
            go_simp
            try exact rfl
          simp only [Act.put]
          refine wpAnyH_take (i := 3) (v := ?v3_103) rfl (by kernel_rfl) (by kernel_rfl) (by kernel_rfl) (fun _ _ _ h => h) (Or.inl ⟨by rfl, ?hy3_103⟩) (by assumption) ?rest3_103
          case hy3_103 =>
            intro W hSw
            go_simp
            try exact rfl
          simp only [Act.put]
          refine wpAnyH_take (i := 4) (v := ?v4_104) rfl (by kernel_rfl) (by kernel_rfl) (by kernel_rfl) (fun _ _ _ h => h) (Or.inl ⟨by rfl, ?hy4_104⟩) (by assumption) ?rest4_104
          case hy4_104 =>
            intro W hSw
            go_simp
            try exact rfl
          simp only [Act.put]
          refine wpAnyH_take (i := 5) (v := ?v5_105) rfl (by kernel_rfl) (by kernel_rfl) (by kernel_rfl) (fun _ _ _ h => h) (Or.inl ⟨by rfl, ?hy5_105⟩) (by assumption) ?rest5_105
          case hy5_105 =>
            intro W hSw
            go_simp
            try exact rfl
          simp only [Act.put]
          refine wpAnyH_take (i := 7) (v := ?v7_106) rfl (by kernel_rfl) (by kernel_rfl) (by kernel_rfl) (fun _ _ _ h => h) (Or.inl ⟨by rfl, ?hy7_106⟩) (by assumption) ?rest7_106
          case hy7_106 =>
            intro W hSw
            go_simp
            try exact rfl
          simp only [Act.put]
          refine wpAnyH_take (i := 10) (v := ?v10_107) rfl (by kernel_rfl) (by kernel_rfl) (by kernel_rfl) (fun _ _ _ h => h) (Or.inl ⟨by rfl, ?hy10_107⟩) (by assumption) ?rest10_107
          case hy10_107 =>
            intro W hSw
            go_simp
            try exact rfl
          simp only [Act.put]
          refine wpAnyH_ready (rs := [6, 13]) (by kernel_rfl) (by simp) ?_
          refine AllReadyH.cons rfl (fun K hK => ?_) (AllReadyH.cons rfl (fun K hK => ?_) (AllReadyH.nil))
          · go_simp
            refine (limits_any wh nn _ hw0 hw1).mono ?_
            rintro e wv8 ⟨⟨kl, rfl⟩, hb⟩
            refine hK.out _ _ (hHeld.world hb) (fun hHeld => ?_)
            clear hK K hb
            refine wpAnyH_ready (rs := [8, 13]) (by kernel_rfl) (by simp) ?_
            refine AllReadyH.cons rfl (fun K hK => ?_) (AllReadyH.cons rfl (fun K hK => ?_) (AllReadyH.nil))
            · go_simp
              refine (change_any k win cap least before f kl s2 t2 x _ hsz2 htz2 hxz).mono ?_
              rintro e wv9 ⟨⟨v, rfl, m3, s3, t3, rfl, hm3⟩, hb⟩
              refine hK.out _ _ (hHeld.world hb) (fun hHeld => ?_)
              clear hK K hb
              refine wpAnyH_ready (rs := [9, 13]) (by kernel_rfl) (by simp) ?_
              refine AllReadyH.cons rfl (fun K hK => ?_) (AllReadyH.cons rfl (fun K hK => ?_) (AllReadyH.nil))
              · go_simp
                have hL := Own.new wv9 #[.int .i64 m.k, .string s, .string t, .int .i64 m.win, .int .i64 m.cap, .int .i64 m.least, .int .i64 m.before, .int .i64 k, .string s2, .string t2, .int .i64 win, .int .i64 cap, .int .i64 least, .int .i64 before, .int .i64 m3.k, .string s3, .string t3, .int .i64 m3.win, .int .i64 m3.cap, .int .i64 m3.least, .int .i64 m3.before] 29
                refine hK.out _ _ (hHeld.alloc (.cells #[.int .i64 m.k, .string s, .string t, .int .i64 m.win, .int .i64 m.cap, .int .i64 m.least, .int .i64 m.before, .int .i64 k, .string s2, .string t2, .int .i64 win, .int .i64 cap, .int .i64 least, .int .i64 before, .int .i64 m3.k, .string s3, .string t3, .int .i64 m3.win, .int .i64 m3.cap, .int .i64 m3.least, .int .i64 m3.before] 29)) (fun hHeld => ?_)
                clear hK K
                generalize wv9.alloc (.cells #[.int .i64 m.k, .string s, .string t, .int .i64 m.win, .int .i64 m.cap, .int .i64 m.least, .int .i64 m.before, .int .i64 k, .string s2, .string t2, .int .i64 win, .int .i64 cap, .int .i64 least, .int .i64 before, .int .i64 m3.k, .string s3, .string t3, .int .i64 m3.win, .int .i64 m3.cap, .int .i64 m3.least, .int .i64 m3.before] 29) = wv10 at hHeld hL ⊢
                generalize wv9.heap.size = bl at hL ⊢
                refine wpAnyH_take (i := 11) (v := ?v11_111) rfl (by kernel_rfl) (by kernel_rfl) (by kernel_rfl) (fun _ _ _ h => h) (Or.inl ⟨by rfl, ?hy11_111⟩) (by assumption) ?rest11_111
                case hy11_111 =>
                  intro W hSw
                  go_simp
                  try exact rfl
                simp only [Act.put]
                refine wpAnyH_ready (rs := [12, 13]) (by kernel_rfl) (by simp) ?_
                refine AllReadyH.cons rfl (fun K hK => ?_) (AllReadyH.cons rfl (fun K hK => ?_) (AllReadyH.nil))
                · obtain ⟨l0, l1, l2, l3, l4, l5, l6⟩ := cells7 hL 0
                  go_simp
                  refine hK.out _ _ hHeld (fun hHeld => ?_)
                  clear hK K l0 l1 l2 l3 l4 l5 l6
                  refine wpAnyH_ready (rs := [13]) (by kernel_rfl) (by simp) ?_
                  refine AllReadyH.cons rfl (fun K hK => ?_) (AllReadyH.nil)
                  · go_simp
                    have hbx := And.intro hHeld.box.lt hHeld.made.lt
                    have hX := Own.new wv10 #[.int .i64 0, .string ⟨#[]⟩, .string ⟨#[]⟩, .int .i64 0, .int .i64 0, .int .i64 0, .int .i64 0] 29
                    replace hL := hL.alloc (.cells #[.int .i64 0, .string ⟨#[]⟩, .string ⟨#[]⟩, .int .i64 0, .int .i64 0, .int .i64 0, .int .i64 0] 29)
                    refine hK.out _ _ (hHeld.alloc (.cells #[.int .i64 0, .string ⟨#[]⟩, .string ⟨#[]⟩, .int .i64 0, .int .i64 0, .int .i64 0, .int .i64 0] 29)) (fun hHeld => ?_)
                    clear hK K
                    generalize wv10.alloc (.cells #[.int .i64 0, .string ⟨#[]⟩, .string ⟨#[]⟩, .int .i64 0, .int .i64 0, .int .i64 0, .int .i64 0] 29) = wv13 at hHeld hX hL ⊢
                    generalize wv10.heap.size = bx at hbx hX ⊢
                    refine wpAnyH_ready (rs := [14]) (by kernel_rfl) (by simp) ?_
                    refine AllReadyH.cons rfl (fun K hK => ?_) (AllReadyH.nil)
                    · obtain ⟨⟨c0, c1, c2, c3, c4, c5, c6⟩, f0, f1, f2, f3, f4, f5, f6⟩ := cells14 hX
                      go_simp
                      replace hX := hX.set 0 (.int .i64 m.k)
                      replace hX := hX.set 1 (.string s)
                      replace hX := hX.set 2 (.string t)
                      replace hX := hX.set 3 (.int .i64 m.win)
                      replace hX := hX.set 4 (.int .i64 m.cap)
                      replace hX := hX.set 5 (.int .i64 m.least)
                      replace hX := hX.set 6 (.int .i64 m.before)
                      have hCs := hHeld.set hbx 0 (.int .i64 m.k)
                      replace hCs := hCs.set hbx 1 (.string s)
                      replace hCs := hCs.set hbx 2 (.string t)
                      replace hCs := hCs.set hbx 3 (.int .i64 m.win)
                      replace hCs := hCs.set hbx 4 (.int .i64 m.cap)
                      replace hCs := hCs.set hbx 5 (.int .i64 m.least)
                      replace hCs := hCs.set hbx 6 (.int .i64 m.before)
                      refine hK.out _ _ hCs (fun hHeld => ?_)
                      clear hK K hCs c0 c1 c2 c3 c4 c5 c6 f0 f1 f2 f3 f4 f5 f6
                      refine wpAnyH_done (by kernel_rfl) ?_ _
                      go_wp2
                      go_meet
                      exact ⟨bx, m, s, t, rfl, Lib.hid hX, Lib.hid ⟨hs.out, ht.out, hsz, htz⟩, Lib.hid hHeld⟩
                · go_simp
                  have hbx := And.intro hHeld.box.lt hHeld.made.lt
                  have hX := Own.new wv10 #[.int .i64 0, .string ⟨#[]⟩, .string ⟨#[]⟩, .int .i64 0, .int .i64 0, .int .i64 0, .int .i64 0] 29
                  replace hL := hL.alloc (.cells #[.int .i64 0, .string ⟨#[]⟩, .string ⟨#[]⟩, .int .i64 0, .int .i64 0, .int .i64 0, .int .i64 0] 29)
                  refine hK.out _ _ (hHeld.alloc (.cells #[.int .i64 0, .string ⟨#[]⟩, .string ⟨#[]⟩, .int .i64 0, .int .i64 0, .int .i64 0, .int .i64 0] 29)) (fun hHeld => ?_)
                  clear hK K
                  generalize wv10.alloc (.cells #[.int .i64 0, .string ⟨#[]⟩, .string ⟨#[]⟩, .int .i64 0, .int .i64 0, .int .i64 0, .int .i64 0] 29) = wv15 at hHeld hX hL ⊢
                  generalize wv10.heap.size = bx at hbx hX ⊢
                  refine wpAnyH_ready (rs := [12]) (by kernel_rfl) (by simp) ?_
                  refine AllReadyH.cons rfl (fun K hK => ?_) (AllReadyH.nil)
                  · obtain ⟨l0, l1, l2, l3, l4, l5, l6⟩ := cells7 hL 0
                    go_simp
                    refine hK.out _ _ hHeld (fun hHeld => ?_)
                    clear hK K l0 l1 l2 l3 l4 l5 l6
                    refine wpAnyH_ready (rs := [14]) (by kernel_rfl) (by simp) ?_
                    refine AllReadyH.cons rfl (fun K hK => ?_) (AllReadyH.nil)
                    · obtain ⟨⟨c0, c1, c2, c3, c4, c5, c6⟩, f0, f1, f2, f3, f4, f5, f6⟩ := cells14 hX
                      go_simp
                      replace hX := hX.set 0 (.int .i64 m.k)
                      replace hX := hX.set 1 (.string s)
                      replace hX := hX.set 2 (.string t)
                      replace hX := hX.set 3 (.int .i64 m.win)
                      replace hX := hX.set 4 (.int .i64 m.cap)
                      replace hX := hX.set 5 (.int .i64 m.least)
                      replace hX := hX.set 6 (.int .i64 m.before)
                      have hCs := hHeld.set hbx 0 (.int .i64 m.k)
                      replace hCs := hCs.set hbx 1 (.string s)
                      replace hCs := hCs.set hbx 2 (.string t)
                      replace hCs := hCs.set hbx 3 (.int .i64 m.win)
                      replace hCs := hCs.set hbx 4 (.int .i64 m.cap)
                      replace hCs := hCs.set hbx 5 (.int .i64 m.least)
                      replace hCs := hCs.set hbx 6 (.int .i64 m.before)
                      refine hK.out _ _ hCs (fun hHeld => ?_)
                      clear hK K hCs c0 c1 c2 c3 c4 c5 c6 f0 f1 f2 f3 f4 f5 f6
                      refine wpAnyH_done (by kernel_rfl) ?_ _
                      go_wp2
                      go_meet
                      exact ⟨bx, m, s, t, rfl, Lib.hid hX, Lib.hid ⟨hs.out, ht.out, hsz, htz⟩, Lib.hid hHeld⟩
              · go_simp
                have hbx := And.intro hHeld.box.lt hHeld.made.lt
                have hX := Own.new wv9 #[.int .i64 0, .string ⟨#[]⟩, .string ⟨#[]⟩, .int .i64 0, .int .i64 0, .int .i64 0, .int .i64 0] 29
                refine hK.out _ _ (hHeld.alloc (.cells #[.int .i64 0, .string ⟨#[]⟩, .string ⟨#[]⟩, .int .i64 0, .int .i64 0, .int .i64 0, .int .i64 0] 29)) (fun hHeld => ?_)
                clear hK K
                generalize wv9.alloc (.cells #[.int .i64 0, .string ⟨#[]⟩, .string ⟨#[]⟩, .int .i64 0, .int .i64 0, .int .i64 0, .int .i64 0] 29) = wv18 at hHeld hX ⊢
                generalize wv9.heap.size = bx at hbx hX ⊢
                refine wpAnyH_ready (rs := [9]) (by kernel_rfl) (by simp) ?_
                refine AllReadyH.cons rfl (fun K hK => ?_) (AllReadyH.nil)
                · go_simp
                  have hL := Own.new wv18 #[.int .i64 m.k, .string s, .string t, .int .i64 m.win, .int .i64 m.cap, .int .i64 m.least, .int .i64 m.before, .int .i64 k, .string s2, .string t2, .int .i64 win, .int .i64 cap, .int .i64 least, .int .i64 before, .int .i64 m3.k, .string s3, .string t3, .int .i64 m3.win, .int .i64 m3.cap, .int .i64 m3.least, .int .i64 m3.before] 29
                  replace hX := hX.alloc (.cells #[.int .i64 m.k, .string s, .string t, .int .i64 m.win, .int .i64 m.cap, .int .i64 m.least, .int .i64 m.before, .int .i64 k, .string s2, .string t2, .int .i64 win, .int .i64 cap, .int .i64 least, .int .i64 before, .int .i64 m3.k, .string s3, .string t3, .int .i64 m3.win, .int .i64 m3.cap, .int .i64 m3.least, .int .i64 m3.before] 29)
                  refine hK.out _ _ (hHeld.alloc (.cells #[.int .i64 m.k, .string s, .string t, .int .i64 m.win, .int .i64 m.cap, .int .i64 m.least, .int .i64 m.before, .int .i64 k, .string s2, .string t2, .int .i64 win, .int .i64 cap, .int .i64 least, .int .i64 before, .int .i64 m3.k, .string s3, .string t3, .int .i64 m3.win, .int .i64 m3.cap, .int .i64 m3.least, .int .i64 m3.before] 29)) (fun hHeld => ?_)
                  clear hK K
                  generalize wv18.alloc (.cells #[.int .i64 m.k, .string s, .string t, .int .i64 m.win, .int .i64 m.cap, .int .i64 m.least, .int .i64 m.before, .int .i64 k, .string s2, .string t2, .int .i64 win, .int .i64 cap, .int .i64 least, .int .i64 before, .int .i64 m3.k, .string s3, .string t3, .int .i64 m3.win, .int .i64 m3.cap, .int .i64 m3.least, .int .i64 m3.before] 29) = wv19 at hHeld hL hX ⊢
                  generalize wv18.heap.size = bl at hL ⊢
                  refine wpAnyH_take (i := 11) (v := ?v11_120) rfl (by kernel_rfl) (by kernel_rfl) (by kernel_rfl) (fun _ _ _ h => h) (Or.inl ⟨by rfl, ?hy11_120⟩) (by assumption) ?rest11_120
                  case hy11_120 =>
                    intro W hSw
                    go_simp
                    try exact rfl
                  simp only [Act.put]
                  refine wpAnyH_ready (rs := [12]) (by kernel_rfl) (by simp) ?_
                  refine AllReadyH.cons rfl (fun K hK => ?_) (AllReadyH.nil)
                  · obtain ⟨l0, l1, l2, l3, l4, l5, l6⟩ := cells7 hL 0
                    go_simp
                    refine hK.out _ _ hHeld (fun hHeld => ?_)
                    clear hK K l0 l1 l2 l3 l4 l5 l6
                    refine wpAnyH_ready (rs := [14]) (by kernel_rfl) (by simp) ?_
                    refine AllReadyH.cons rfl (fun K hK => ?_) (AllReadyH.nil)
                    · obtain ⟨⟨c0, c1, c2, c3, c4, c5, c6⟩, f0, f1, f2, f3, f4, f5, f6⟩ := cells14 hX
                      go_simp
                      replace hX := hX.set 0 (.int .i64 m.k)
                      replace hX := hX.set 1 (.string s)
                      replace hX := hX.set 2 (.string t)
                      replace hX := hX.set 3 (.int .i64 m.win)
                      replace hX := hX.set 4 (.int .i64 m.cap)
                      replace hX := hX.set 5 (.int .i64 m.least)
                      replace hX := hX.set 6 (.int .i64 m.before)
                      have hCs := hHeld.set hbx 0 (.int .i64 m.k)
                      replace hCs := hCs.set hbx 1 (.string s)
                      replace hCs := hCs.set hbx 2 (.string t)
                      replace hCs := hCs.set hbx 3 (.int .i64 m.win)
                      replace hCs := hCs.set hbx 4 (.int .i64 m.cap)
                      replace hCs := hCs.set hbx 5 (.int .i64 m.least)
                      replace hCs := hCs.set hbx 6 (.int .i64 m.before)
                      refine hK.out _ _ hCs (fun hHeld => ?_)
                      clear hK K hCs c0 c1 c2 c3 c4 c5 c6 f0 f1 f2 f3 f4 f5 f6
                      refine wpAnyH_done (by kernel_rfl) ?_ _
                      go_wp2
                      go_meet
                      exact ⟨bx, m, s, t, rfl, Lib.hid hX, Lib.hid ⟨hs.out, ht.out, hsz, htz⟩, Lib.hid hHeld⟩
            · go_simp
              have hbx := And.intro hHeld.box.lt hHeld.made.lt
              have hX := Own.new wv8 #[.int .i64 0, .string ⟨#[]⟩, .string ⟨#[]⟩, .int .i64 0, .int .i64 0, .int .i64 0, .int .i64 0] 29
              refine hK.out _ _ (hHeld.alloc (.cells #[.int .i64 0, .string ⟨#[]⟩, .string ⟨#[]⟩, .int .i64 0, .int .i64 0, .int .i64 0, .int .i64 0] 29)) (fun hHeld => ?_)
              clear hK K
              generalize wv8.alloc (.cells #[.int .i64 0, .string ⟨#[]⟩, .string ⟨#[]⟩, .int .i64 0, .int .i64 0, .int .i64 0, .int .i64 0] 29) = wv23 at hHeld hX ⊢
              generalize wv8.heap.size = bx at hbx hX ⊢
              refine wpAnyH_ready (rs := [8]) (by kernel_rfl) (by simp) ?_
              refine AllReadyH.cons rfl (fun K hK => ?_) (AllReadyH.nil)
              · go_simp
                refine (change_any k win cap least before f kl s2 t2 x _ hsz2 htz2 hxz).mono ?_
                rintro e wv24 ⟨⟨v, rfl, m3, s3, t3, rfl, hm3⟩, hb⟩
                replace hX := hX.below hb hX.lt
                refine hK.out _ _ (hHeld.world hb) (fun hHeld => ?_)
                clear hK K hb
                refine wpAnyH_ready (rs := [9]) (by kernel_rfl) (by simp) ?_
                refine AllReadyH.cons rfl (fun K hK => ?_) (AllReadyH.nil)
                · go_simp
                  have hL := Own.new wv24 #[.int .i64 m.k, .string s, .string t, .int .i64 m.win, .int .i64 m.cap, .int .i64 m.least, .int .i64 m.before, .int .i64 k, .string s2, .string t2, .int .i64 win, .int .i64 cap, .int .i64 least, .int .i64 before, .int .i64 m3.k, .string s3, .string t3, .int .i64 m3.win, .int .i64 m3.cap, .int .i64 m3.least, .int .i64 m3.before] 29
                  replace hX := hX.alloc (.cells #[.int .i64 m.k, .string s, .string t, .int .i64 m.win, .int .i64 m.cap, .int .i64 m.least, .int .i64 m.before, .int .i64 k, .string s2, .string t2, .int .i64 win, .int .i64 cap, .int .i64 least, .int .i64 before, .int .i64 m3.k, .string s3, .string t3, .int .i64 m3.win, .int .i64 m3.cap, .int .i64 m3.least, .int .i64 m3.before] 29)
                  refine hK.out _ _ (hHeld.alloc (.cells #[.int .i64 m.k, .string s, .string t, .int .i64 m.win, .int .i64 m.cap, .int .i64 m.least, .int .i64 m.before, .int .i64 k, .string s2, .string t2, .int .i64 win, .int .i64 cap, .int .i64 least, .int .i64 before, .int .i64 m3.k, .string s3, .string t3, .int .i64 m3.win, .int .i64 m3.cap, .int .i64 m3.least, .int .i64 m3.before] 29)) (fun hHeld => ?_)
                  clear hK K
                  generalize wv24.alloc (.cells #[.int .i64 m.k, .string s, .string t, .int .i64 m.win, .int .i64 m.cap, .int .i64 m.least, .int .i64 m.before, .int .i64 k, .string s2, .string t2, .int .i64 win, .int .i64 cap, .int .i64 least, .int .i64 before, .int .i64 m3.k, .string s3, .string t3, .int .i64 m3.win, .int .i64 m3.cap, .int .i64 m3.least, .int .i64 m3.before] 29) = wv25 at hHeld hL hX ⊢
                  generalize wv24.heap.size = bl at hL ⊢
                  refine wpAnyH_take (i := 11) (v := ?v11_126) rfl (by kernel_rfl) (by kernel_rfl) (by kernel_rfl) (fun _ _ _ h => h) (Or.inl ⟨by rfl, ?hy11_126⟩) (by assumption) ?rest11_126
                  case hy11_126 =>
                    intro W hSw
                    go_simp
                    try exact rfl
                  simp only [Act.put]
                  refine wpAnyH_ready (rs := [12]) (by kernel_rfl) (by simp) ?_
                  refine AllReadyH.cons rfl (fun K hK => ?_) (AllReadyH.nil)
                  · obtain ⟨l0, l1, l2, l3, l4, l5, l6⟩ := cells7 hL 0
                    go_simp
                    refine hK.out _ _ hHeld (fun hHeld => ?_)
                    clear hK K l0 l1 l2 l3 l4 l5 l6
                    refine wpAnyH_ready (rs := [14]) (by kernel_rfl) (by simp) ?_
                    refine AllReadyH.cons rfl (fun K hK => ?_) (AllReadyH.nil)
                    · obtain ⟨⟨c0, c1, c2, c3, c4, c5, c6⟩, f0, f1, f2, f3, f4, f5, f6⟩ := cells14 hX
                      go_simp
                      replace hX := hX.set 0 (.int .i64 m.k)
                      replace hX := hX.set 1 (.string s)
                      replace hX := hX.set 2 (.string t)
                      replace hX := hX.set 3 (.int .i64 m.win)
                      replace hX := hX.set 4 (.int .i64 m.cap)
                      replace hX := hX.set 5 (.int .i64 m.least)
                      replace hX := hX.set 6 (.int .i64 m.before)
                      have hCs := hHeld.set hbx 0 (.int .i64 m.k)
                      replace hCs := hCs.set hbx 1 (.string s)
                      replace hCs := hCs.set hbx 2 (.string t)
                      replace hCs := hCs.set hbx 3 (.int .i64 m.win)
                      replace hCs := hCs.set hbx 4 (.int .i64 m.cap)
                      replace hCs := hCs.set hbx 5 (.int .i64 m.least)
                      replace hCs := hCs.set hbx 6 (.int .i64 m.before)
                      refine hK.out _ _ hCs (fun hHeld => ?_)
                      clear hK K hCs c0 c1 c2 c3 c4 c5 c6 f0 f1 f2 f3 f4 f5 f6
                      refine wpAnyH_done (by kernel_rfl) ?_ _
                      go_wp2
                      go_meet
                      exact ⟨bx, m, s, t, rfl, Lib.hid hX, Lib.hid ⟨hs.out, ht.out, hsz, htz⟩, Lib.hid hHeld⟩
          · go_simp
            have hbx := And.intro hHeld.box.lt hHeld.made.lt
            have hX := Own.new wd #[.int .i64 0, .string ⟨#[]⟩, .string ⟨#[]⟩, .int .i64 0, .int .i64 0, .int .i64 0, .int .i64 0] 29
            refine hK.out _ _ (hHeld.alloc (.cells #[.int .i64 0, .string ⟨#[]⟩, .string ⟨#[]⟩, .int .i64 0, .int .i64 0, .int .i64 0, .int .i64 0] 29)) (fun hHeld => ?_)
            clear hK K
            generalize wd.alloc (.cells #[.int .i64 0, .string ⟨#[]⟩, .string ⟨#[]⟩, .int .i64 0, .int .i64 0, .int .i64 0, .int .i64 0] 29) = wv29 at hHeld hX ⊢
            generalize wd.heap.size = bx at hbx hX ⊢
            refine wpAnyH_ready (rs := [6]) (by kernel_rfl) (by simp) ?_
            refine AllReadyH.cons rfl (fun K hK => ?_) (AllReadyH.nil)
            · go_simp
              refine (limits_any wh nn _ hw0 hw1).mono ?_
              rintro e wv30 ⟨⟨kl, rfl⟩, hb⟩
              replace hX := hX.below hb hX.lt
              refine hK.out _ _ (hHeld.world hb) (fun hHeld => ?_)
              clear hK K hb
              refine wpAnyH_ready (rs := [8]) (by kernel_rfl) (by simp) ?_
              refine AllReadyH.cons rfl (fun K hK => ?_) (AllReadyH.nil)
              · go_simp
                refine (change_any k win cap least before f kl s2 t2 x _ hsz2 htz2 hxz).mono ?_
                rintro e wv31 ⟨⟨v, rfl, m3, s3, t3, rfl, hm3⟩, hb⟩
                replace hX := hX.below hb hX.lt
                refine hK.out _ _ (hHeld.world hb) (fun hHeld => ?_)
                clear hK K hb
                refine wpAnyH_ready (rs := [9]) (by kernel_rfl) (by simp) ?_
                refine AllReadyH.cons rfl (fun K hK => ?_) (AllReadyH.nil)
                · go_simp
                  have hL := Own.new wv31 #[.int .i64 m.k, .string s, .string t, .int .i64 m.win, .int .i64 m.cap, .int .i64 m.least, .int .i64 m.before, .int .i64 k, .string s2, .string t2, .int .i64 win, .int .i64 cap, .int .i64 least, .int .i64 before, .int .i64 m3.k, .string s3, .string t3, .int .i64 m3.win, .int .i64 m3.cap, .int .i64 m3.least, .int .i64 m3.before] 29
                  replace hX := hX.alloc (.cells #[.int .i64 m.k, .string s, .string t, .int .i64 m.win, .int .i64 m.cap, .int .i64 m.least, .int .i64 m.before, .int .i64 k, .string s2, .string t2, .int .i64 win, .int .i64 cap, .int .i64 least, .int .i64 before, .int .i64 m3.k, .string s3, .string t3, .int .i64 m3.win, .int .i64 m3.cap, .int .i64 m3.least, .int .i64 m3.before] 29)
                  refine hK.out _ _ (hHeld.alloc (.cells #[.int .i64 m.k, .string s, .string t, .int .i64 m.win, .int .i64 m.cap, .int .i64 m.least, .int .i64 m.before, .int .i64 k, .string s2, .string t2, .int .i64 win, .int .i64 cap, .int .i64 least, .int .i64 before, .int .i64 m3.k, .string s3, .string t3, .int .i64 m3.win, .int .i64 m3.cap, .int .i64 m3.least, .int .i64 m3.before] 29)) (fun hHeld => ?_)
                  clear hK K
                  generalize wv31.alloc (.cells #[.int .i64 m.k, .string s, .string t, .int .i64 m.win, .int .i64 m.cap, .int .i64 m.least, .int .i64 m.before, .int .i64 k, .string s2, .string t2, .int .i64 win, .int .i64 cap, .int .i64 least, .int .i64 before, .int .i64 m3.k, .string s3, .string t3, .int .i64 m3.win, .int .i64 m3.cap, .int .i64 m3.least, .int .i64 m3.before] 29) = wv32 at hHeld hL hX ⊢
                  generalize wv31.heap.size = bl at hL ⊢
                  refine wpAnyH_take (i := 11) (v := ?v11_133) rfl (by kernel_rfl) (by kernel_rfl) (by kernel_rfl) (fun _ _ _ h => h) (Or.inl ⟨by rfl, ?hy11_133⟩) (by assumption) ?rest11_133
                  case hy11_133 =>
                    intro W hSw
                    go_simp
                    try exact rfl
                  simp only [Act.put]
                  refine wpAnyH_ready (rs := [12]) (by kernel_rfl) (by simp) ?_
                  refine AllReadyH.cons rfl (fun K hK => ?_) (AllReadyH.nil)
                  · obtain ⟨l0, l1, l2, l3, l4, l5, l6⟩ := cells7 hL 0
                    go_simp
                    refine hK.out _ _ hHeld (fun hHeld => ?_)
                    clear hK K l0 l1 l2 l3 l4 l5 l6
                    refine wpAnyH_ready (rs := [14]) (by kernel_rfl) (by simp) ?_
                    refine AllReadyH.cons rfl (fun K hK => ?_) (AllReadyH.nil)
                    · obtain ⟨⟨c0, c1, c2, c3, c4, c5, c6⟩, f0, f1, f2, f3, f4, f5, f6⟩ := cells14 hX
                      go_simp
                      replace hX := hX.set 0 (.int .i64 m.k)
                      replace hX := hX.set 1 (.string s)
                      replace hX := hX.set 2 (.string t)
                      replace hX := hX.set 3 (.int .i64 m.win)
                      replace hX := hX.set 4 (.int .i64 m.cap)
                      replace hX := hX.set 5 (.int .i64 m.least)
                      replace hX := hX.set 6 (.int .i64 m.before)
                      have hCs := hHeld.set hbx 0 (.int .i64 m.k)
                      replace hCs := hCs.set hbx 1 (.string s)
                      replace hCs := hCs.set hbx 2 (.string t)
                      replace hCs := hCs.set hbx 3 (.int .i64 m.win)
                      replace hCs := hCs.set hbx 4 (.int .i64 m.cap)
                      replace hCs := hCs.set hbx 5 (.int .i64 m.least)
                      replace hCs := hCs.set hbx 6 (.int .i64 m.before)
                      refine hK.out _ _ hCs (fun hHeld => ?_)
                      clear hK K hCs c0 c1 c2 c3 c4 c5 c6 f0 f1 f2 f3 f4 f5 f6
                      refine wpAnyH_done (by kernel_rfl) ?_ _
                      go_wp2
                      go_meet
                      exact ⟨bx, m, s, t, rfl, Lib.hid hX, Lib.hid ⟨hs.out, ht.out, hsz, htz⟩, Lib.hid hHeld⟩
        · refine wp_region_held_drew (S := fun W => CRel w W w2.heap.size (mrow7 m.k s t m.win m.cap m.least m.before) (mrow7 k s2 t2 win cap least before)) (by kernel_rfl) hC.out.drew (fun hHeld => ?_)
          generalize wr.drew = wd at hHeld ⊢
          refine wpAnyH_take (i := 0) (v := ?v0_200) rfl (by kernel_rfl) (by kernel_rfl) (by kernel_rfl) (fun _ _ _ h => h) (Or.inl ⟨by rfl, ?hy0_200⟩) (by assumption) ?rest0_200
          case hy0_200 =>
            intro W hSw
            obtain ⟨p0, p1, p2, p3, p4, p5, p6⟩ := box7 (show CRel w W w2.heap.size (mrow7 m.k s t m.win m.cap m.least m.before) (mrow7 k s2 t2 win cap least before) from hSw).box; obtain ⟨q0, q1, q2, q3, q4, q5, q6⟩ := box7 (show CRel w W w2.heap.size (mrow7 m.k s t m.win m.cap m.least m.before) (mrow7 k s2 t2 win cap least before) from hSw).made
            go_simp
            try exact rfl
          simp only [Act.put]
          refine wpAnyH_take (i := 1) (v := ?v1_201) rfl (by kernel_rfl) (by kernel_rfl) (by kernel_rfl) (fun _ _ _ h => h) (Or.inl ⟨by rfl, ?hy1_201⟩) (by assumption) ?rest1_201
          case hy1_201 =>
            intro W hSw
            obtain ⟨p0, p1, p2, p3, p4, p5, p6⟩ := box7 (show CRel w W w2.heap.size (mrow7 m.k s t m.win m.cap m.least m.before) (mrow7 k s2 t2 win cap least before) from hSw).box; obtain ⟨q0, q1, q2, q3, q4, q5, q6⟩ := box7 (show CRel w W w2.heap.size (mrow7 m.k s t m.win m.cap m.least m.before) (mrow7 k s2 t2 win cap least before) from hSw).made
            go_simp
            try exact rfl
          simp only [Act.put]
          refine wpAnyH_take (i := 2) (v := ?v2_202) rfl (by kernel_rfl) (by kernel_rfl) (by kernel_rfl) (fun _ _ _ h => h) (Or.inl ⟨by rfl, ?hy2_202⟩) (by assumption) ?rest2_202
          case hy2_202 =>
            intro W hSw
            obtain ⟨p0, p1, p2, p3, p4, p5, p6⟩ := box7 (show CRel w W w2.heap.size (mrow7 m.k s t m.win m.cap m.least m.before) (mrow7 k s2 t2 win cap least before) from hSw).box; obtain ⟨q0, q1, q2, q3, q4, q5, q6⟩ := box7 (show CRel w W w2.heap.size (mrow7 m.k s t m.win m.cap m.least m.before) (mrow7 k s2 t2 win cap least before) from hSw).made
            go_simp
            try exact rfl
          simp only [Act.put]
          refine wpAnyH_take (i := 3) (v := ?v3_203) rfl (by kernel_rfl) (by kernel_rfl) (by kernel_rfl) (fun _ _ _ h => h) (Or.inl ⟨by rfl, ?hy3_203⟩) (by assumption) ?rest3_203
          case hy3_203 =>
            intro W hSw
            go_simp
            try exact rfl
          simp only [Act.put]
          refine wpAnyH_take (i := 4) (v := ?v4_204) rfl (by kernel_rfl) (by kernel_rfl) (by kernel_rfl) (fun _ _ _ h => h) (Or.inl ⟨by rfl, ?hy4_204⟩) (by assumption) ?rest4_204
          case hy4_204 =>
            intro W hSw
            go_simp
            try exact rfl
          simp only [Act.put]
          refine wpAnyH_take (i := 5) (v := ?v5_205) rfl (by kernel_rfl) (by kernel_rfl) (by kernel_rfl) (fun _ _ _ h => h) (Or.inl ⟨by rfl, ?hy5_205⟩) (by assumption) ?rest5_205
          case hy5_205 =>
            intro W hSw
            go_simp
            try exact rfl
          simp only [Act.put]
          refine wpAnyH_take (i := 7) (v := ?v7_206) rfl (by kernel_rfl) (by kernel_rfl) (by kernel_rfl) (fun _ _ _ h => h) (Or.inl ⟨by rfl, ?hy7_206⟩) (by assumption) ?rest7_206
          case hy7_206 =>
            intro W hSw
            go_simp
            try exact rfl
          simp only [Act.put]
          refine wpAnyH_take (i := 10) (v := ?v10_207) rfl (by kernel_rfl) (by kernel_rfl) (by kernel_rfl) (fun _ _ _ h => h) (Or.inl ⟨by rfl, ?hy10_207⟩) (by assumption) ?rest10_207
          case hy10_207 =>
            intro W hSw
            go_simp
            try exact rfl
          simp only [Act.put]
          refine wpAnyH_ready (rs := [6, 13]) (by kernel_rfl) (by simp) ?_
          refine AllReadyH.cons rfl (fun K hK => ?_) (AllReadyH.cons rfl (fun K hK => ?_) (AllReadyH.nil))
          · go_simp
            refine (limits_any wh nn _ hw0 hw1).mono ?_
            rintro e wv8 ⟨⟨kl, rfl⟩, hb⟩
            refine hK.out _ _ (hHeld.world hb) (fun hHeld => ?_)
            clear hK K hb
            refine wpAnyH_ready (rs := [8, 13]) (by kernel_rfl) (by simp) ?_
            refine AllReadyH.cons rfl (fun K hK => ?_) (AllReadyH.cons rfl (fun K hK => ?_) (AllReadyH.nil))
            · go_simp
              refine (change_any k win cap least before f kl s2 t2 x _ hsz2 htz2 hxz).mono ?_
              rintro e wv9 ⟨⟨v, rfl, m3, s3, t3, rfl, hm3⟩, hb⟩
              refine hK.out _ _ (hHeld.world hb) (fun hHeld => ?_)
              clear hK K hb
              refine wpAnyH_ready (rs := [9, 13]) (by kernel_rfl) (by simp) ?_
              refine AllReadyH.cons rfl (fun K hK => ?_) (AllReadyH.cons rfl (fun K hK => ?_) (AllReadyH.nil))
              · go_simp
                have hL := Own.new wv9 #[.int .i64 m.k, .string s, .string t, .int .i64 m.win, .int .i64 m.cap, .int .i64 m.least, .int .i64 m.before, .int .i64 k, .string s2, .string t2, .int .i64 win, .int .i64 cap, .int .i64 least, .int .i64 before, .int .i64 m3.k, .string s3, .string t3, .int .i64 m3.win, .int .i64 m3.cap, .int .i64 m3.least, .int .i64 m3.before] 29
                refine hK.out _ _ (hHeld.alloc (.cells #[.int .i64 m.k, .string s, .string t, .int .i64 m.win, .int .i64 m.cap, .int .i64 m.least, .int .i64 m.before, .int .i64 k, .string s2, .string t2, .int .i64 win, .int .i64 cap, .int .i64 least, .int .i64 before, .int .i64 m3.k, .string s3, .string t3, .int .i64 m3.win, .int .i64 m3.cap, .int .i64 m3.least, .int .i64 m3.before] 29)) (fun hHeld => ?_)
                clear hK K
                generalize wv9.alloc (.cells #[.int .i64 m.k, .string s, .string t, .int .i64 m.win, .int .i64 m.cap, .int .i64 m.least, .int .i64 m.before, .int .i64 k, .string s2, .string t2, .int .i64 win, .int .i64 cap, .int .i64 least, .int .i64 before, .int .i64 m3.k, .string s3, .string t3, .int .i64 m3.win, .int .i64 m3.cap, .int .i64 m3.least, .int .i64 m3.before] 29) = wv10 at hHeld hL ⊢
                generalize wv9.heap.size = bl at hL ⊢
                refine wpAnyH_take (i := 11) (v := ?v11_211) rfl (by kernel_rfl) (by kernel_rfl) (by kernel_rfl) (fun _ _ _ h => h) (Or.inl ⟨by rfl, ?hy11_211⟩) (by assumption) ?rest11_211
                case hy11_211 =>
                  intro W hSw
                  go_simp
                  try exact rfl
                simp only [Act.put]
                refine wpAnyH_ready (rs := [12, 13]) (by kernel_rfl) (by simp) ?_
                refine AllReadyH.cons rfl (fun K hK => ?_) (AllReadyH.cons rfl (fun K hK => ?_) (AllReadyH.nil))
                · obtain ⟨l0, l1, l2, l3, l4, l5, l6⟩ := cells7 hL 7
                  go_simp
                  refine hK.out _ _ hHeld (fun hHeld => ?_)
                  clear hK K l0 l1 l2 l3 l4 l5 l6
                  refine wpAnyH_ready (rs := [13]) (by kernel_rfl) (by simp) ?_
                  refine AllReadyH.cons rfl (fun K hK => ?_) (AllReadyH.nil)
                  · go_simp
                    have hbx := And.intro hHeld.box.lt hHeld.made.lt
                    have hX := Own.new wv10 #[.int .i64 0, .string ⟨#[]⟩, .string ⟨#[]⟩, .int .i64 0, .int .i64 0, .int .i64 0, .int .i64 0] 29
                    replace hL := hL.alloc (.cells #[.int .i64 0, .string ⟨#[]⟩, .string ⟨#[]⟩, .int .i64 0, .int .i64 0, .int .i64 0, .int .i64 0] 29)
                    refine hK.out _ _ (hHeld.alloc (.cells #[.int .i64 0, .string ⟨#[]⟩, .string ⟨#[]⟩, .int .i64 0, .int .i64 0, .int .i64 0, .int .i64 0] 29)) (fun hHeld => ?_)
                    clear hK K
                    generalize wv10.alloc (.cells #[.int .i64 0, .string ⟨#[]⟩, .string ⟨#[]⟩, .int .i64 0, .int .i64 0, .int .i64 0, .int .i64 0] 29) = wv13 at hHeld hX hL ⊢
                    generalize wv10.heap.size = bx at hbx hX ⊢
                    refine wpAnyH_ready (rs := [14]) (by kernel_rfl) (by simp) ?_
                    refine AllReadyH.cons rfl (fun K hK => ?_) (AllReadyH.nil)
                    · obtain ⟨⟨c0, c1, c2, c3, c4, c5, c6⟩, f0, f1, f2, f3, f4, f5, f6⟩ := cells14 hX
                      go_simp
                      replace hX := hX.set 0 (.int .i64 k)
                      replace hX := hX.set 1 (.string s2)
                      replace hX := hX.set 2 (.string t2)
                      replace hX := hX.set 3 (.int .i64 win)
                      replace hX := hX.set 4 (.int .i64 cap)
                      replace hX := hX.set 5 (.int .i64 least)
                      replace hX := hX.set 6 (.int .i64 before)
                      have hCs := hHeld.set hbx 0 (.int .i64 k)
                      replace hCs := hCs.set hbx 1 (.string s2)
                      replace hCs := hCs.set hbx 2 (.string t2)
                      replace hCs := hCs.set hbx 3 (.int .i64 win)
                      replace hCs := hCs.set hbx 4 (.int .i64 cap)
                      replace hCs := hCs.set hbx 5 (.int .i64 least)
                      replace hCs := hCs.set hbx 6 (.int .i64 before)
                      refine hK.out _ _ hCs (fun hHeld => ?_)
                      clear hK K hCs c0 c1 c2 c3 c4 c5 c6 f0 f1 f2 f3 f4 f5 f6
                      refine wpAnyH_done (by kernel_rfl) ?_ _
                      go_wp2
                      go_meet
                      exact ⟨bx, (mvMade k win cap least before s2 t2), s2, t2, rfl, Lib.hid hX, Lib.hid ⟨rfl, rfl, hsz2, htz2⟩, Lib.hid hHeld⟩
                · go_simp
                  have hbx := And.intro hHeld.box.lt hHeld.made.lt
                  have hX := Own.new wv10 #[.int .i64 0, .string ⟨#[]⟩, .string ⟨#[]⟩, .int .i64 0, .int .i64 0, .int .i64 0, .int .i64 0] 29
                  replace hL := hL.alloc (.cells #[.int .i64 0, .string ⟨#[]⟩, .string ⟨#[]⟩, .int .i64 0, .int .i64 0, .int .i64 0, .int .i64 0] 29)
                  refine hK.out _ _ (hHeld.alloc (.cells #[.int .i64 0, .string ⟨#[]⟩, .string ⟨#[]⟩, .int .i64 0, .int .i64 0, .int .i64 0, .int .i64 0] 29)) (fun hHeld => ?_)
                  clear hK K
                  generalize wv10.alloc (.cells #[.int .i64 0, .string ⟨#[]⟩, .string ⟨#[]⟩, .int .i64 0, .int .i64 0, .int .i64 0, .int .i64 0] 29) = wv15 at hHeld hX hL ⊢
                  generalize wv10.heap.size = bx at hbx hX ⊢
                  refine wpAnyH_ready (rs := [12]) (by kernel_rfl) (by simp) ?_
                  refine AllReadyH.cons rfl (fun K hK => ?_) (AllReadyH.nil)
                  · obtain ⟨l0, l1, l2, l3, l4, l5, l6⟩ := cells7 hL 7
                    go_simp
                    refine hK.out _ _ hHeld (fun hHeld => ?_)
                    clear hK K l0 l1 l2 l3 l4 l5 l6
                    refine wpAnyH_ready (rs := [14]) (by kernel_rfl) (by simp) ?_
                    refine AllReadyH.cons rfl (fun K hK => ?_) (AllReadyH.nil)
                    · obtain ⟨⟨c0, c1, c2, c3, c4, c5, c6⟩, f0, f1, f2, f3, f4, f5, f6⟩ := cells14 hX
                      go_simp
                      replace hX := hX.set 0 (.int .i64 k)
                      replace hX := hX.set 1 (.string s2)
                      replace hX := hX.set 2 (.string t2)
                      replace hX := hX.set 3 (.int .i64 win)
                      replace hX := hX.set 4 (.int .i64 cap)
                      replace hX := hX.set 5 (.int .i64 least)
                      replace hX := hX.set 6 (.int .i64 before)
                      have hCs := hHeld.set hbx 0 (.int .i64 k)
                      replace hCs := hCs.set hbx 1 (.string s2)
                      replace hCs := hCs.set hbx 2 (.string t2)
                      replace hCs := hCs.set hbx 3 (.int .i64 win)
                      replace hCs := hCs.set hbx 4 (.int .i64 cap)
                      replace hCs := hCs.set hbx 5 (.int .i64 least)
                      replace hCs := hCs.set hbx 6 (.int .i64 before)
                      refine hK.out _ _ hCs (fun hHeld => ?_)
                      clear hK K hCs c0 c1 c2 c3 c4 c5 c6 f0 f1 f2 f3 f4 f5 f6
                      refine wpAnyH_done (by kernel_rfl) ?_ _
                      go_wp2
                      go_meet
                      exact ⟨bx, (mvMade k win cap least before s2 t2), s2, t2, rfl, Lib.hid hX, Lib.hid ⟨rfl, rfl, hsz2, htz2⟩, Lib.hid hHeld⟩
              · go_simp
                have hbx := And.intro hHeld.box.lt hHeld.made.lt
                have hX := Own.new wv9 #[.int .i64 0, .string ⟨#[]⟩, .string ⟨#[]⟩, .int .i64 0, .int .i64 0, .int .i64 0, .int .i64 0] 29
                refine hK.out _ _ (hHeld.alloc (.cells #[.int .i64 0, .string ⟨#[]⟩, .string ⟨#[]⟩, .int .i64 0, .int .i64 0, .int .i64 0, .int .i64 0] 29)) (fun hHeld => ?_)
                clear hK K
                generalize wv9.alloc (.cells #[.int .i64 0, .string ⟨#[]⟩, .string ⟨#[]⟩, .int .i64 0, .int .i64 0, .int .i64 0, .int .i64 0] 29) = wv18 at hHeld hX ⊢
                generalize wv9.heap.size = bx at hbx hX ⊢
                refine wpAnyH_ready (rs := [9]) (by kernel_rfl) (by simp) ?_
                refine AllReadyH.cons rfl (fun K hK => ?_) (AllReadyH.nil)
                · go_simp
                  have hL := Own.new wv18 #[.int .i64 m.k, .string s, .string t, .int .i64 m.win, .int .i64 m.cap, .int .i64 m.least, .int .i64 m.before, .int .i64 k, .string s2, .string t2, .int .i64 win, .int .i64 cap, .int .i64 least, .int .i64 before, .int .i64 m3.k, .string s3, .string t3, .int .i64 m3.win, .int .i64 m3.cap, .int .i64 m3.least, .int .i64 m3.before] 29
                  replace hX := hX.alloc (.cells #[.int .i64 m.k, .string s, .string t, .int .i64 m.win, .int .i64 m.cap, .int .i64 m.least, .int .i64 m.before, .int .i64 k, .string s2, .string t2, .int .i64 win, .int .i64 cap, .int .i64 least, .int .i64 before, .int .i64 m3.k, .string s3, .string t3, .int .i64 m3.win, .int .i64 m3.cap, .int .i64 m3.least, .int .i64 m3.before] 29)
                  refine hK.out _ _ (hHeld.alloc (.cells #[.int .i64 m.k, .string s, .string t, .int .i64 m.win, .int .i64 m.cap, .int .i64 m.least, .int .i64 m.before, .int .i64 k, .string s2, .string t2, .int .i64 win, .int .i64 cap, .int .i64 least, .int .i64 before, .int .i64 m3.k, .string s3, .string t3, .int .i64 m3.win, .int .i64 m3.cap, .int .i64 m3.least, .int .i64 m3.before] 29)) (fun hHeld => ?_)
                  clear hK K
                  generalize wv18.alloc (.cells #[.int .i64 m.k, .string s, .string t, .int .i64 m.win, .int .i64 m.cap, .int .i64 m.least, .int .i64 m.before, .int .i64 k, .string s2, .string t2, .int .i64 win, .int .i64 cap, .int .i64 least, .int .i64 before, .int .i64 m3.k, .string s3, .string t3, .int .i64 m3.win, .int .i64 m3.cap, .int .i64 m3.least, .int .i64 m3.before] 29) = wv19 at hHeld hL hX ⊢
                  generalize wv18.heap.size = bl at hL ⊢
                  refine wpAnyH_take (i := 11) (v := ?v11_220) rfl (by kernel_rfl) (by kernel_rfl) (by kernel_rfl) (fun _ _ _ h => h) (Or.inl ⟨by rfl, ?hy11_220⟩) (by assumption) ?rest11_220
                  case hy11_220 =>
                    intro W hSw
                    go_simp
                    try exact rfl
                  simp only [Act.put]
                  refine wpAnyH_ready (rs := [12]) (by kernel_rfl) (by simp) ?_
                  refine AllReadyH.cons rfl (fun K hK => ?_) (AllReadyH.nil)
                  · obtain ⟨l0, l1, l2, l3, l4, l5, l6⟩ := cells7 hL 7
                    go_simp
                    refine hK.out _ _ hHeld (fun hHeld => ?_)
                    clear hK K l0 l1 l2 l3 l4 l5 l6
                    refine wpAnyH_ready (rs := [14]) (by kernel_rfl) (by simp) ?_
                    refine AllReadyH.cons rfl (fun K hK => ?_) (AllReadyH.nil)
                    · obtain ⟨⟨c0, c1, c2, c3, c4, c5, c6⟩, f0, f1, f2, f3, f4, f5, f6⟩ := cells14 hX
                      go_simp
                      replace hX := hX.set 0 (.int .i64 k)
                      replace hX := hX.set 1 (.string s2)
                      replace hX := hX.set 2 (.string t2)
                      replace hX := hX.set 3 (.int .i64 win)
                      replace hX := hX.set 4 (.int .i64 cap)
                      replace hX := hX.set 5 (.int .i64 least)
                      replace hX := hX.set 6 (.int .i64 before)
                      have hCs := hHeld.set hbx 0 (.int .i64 k)
                      replace hCs := hCs.set hbx 1 (.string s2)
                      replace hCs := hCs.set hbx 2 (.string t2)
                      replace hCs := hCs.set hbx 3 (.int .i64 win)
                      replace hCs := hCs.set hbx 4 (.int .i64 cap)
                      replace hCs := hCs.set hbx 5 (.int .i64 least)
                      replace hCs := hCs.set hbx 6 (.int .i64 before)
                      refine hK.out _ _ hCs (fun hHeld => ?_)
                      clear hK K hCs c0 c1 c2 c3 c4 c5 c6 f0 f1 f2 f3 f4 f5 f6
                      refine wpAnyH_done (by kernel_rfl) ?_ _
                      go_wp2
                      go_meet
                      exact ⟨bx, (mvMade k win cap least before s2 t2), s2, t2, rfl, Lib.hid hX, Lib.hid ⟨rfl, rfl, hsz2, htz2⟩, Lib.hid hHeld⟩
            · go_simp
              have hbx := And.intro hHeld.box.lt hHeld.made.lt
              have hX := Own.new wv8 #[.int .i64 0, .string ⟨#[]⟩, .string ⟨#[]⟩, .int .i64 0, .int .i64 0, .int .i64 0, .int .i64 0] 29
              refine hK.out _ _ (hHeld.alloc (.cells #[.int .i64 0, .string ⟨#[]⟩, .string ⟨#[]⟩, .int .i64 0, .int .i64 0, .int .i64 0, .int .i64 0] 29)) (fun hHeld => ?_)
              clear hK K
              generalize wv8.alloc (.cells #[.int .i64 0, .string ⟨#[]⟩, .string ⟨#[]⟩, .int .i64 0, .int .i64 0, .int .i64 0, .int .i64 0] 29) = wv23 at hHeld hX ⊢
              generalize wv8.heap.size = bx at hbx hX ⊢
              refine wpAnyH_ready (rs := [8]) (by kernel_rfl) (by simp) ?_
              refine AllReadyH.cons rfl (fun K hK => ?_) (AllReadyH.nil)
              · go_simp
                refine (change_any k win cap least before f kl s2 t2 x _ hsz2 htz2 hxz).mono ?_
                rintro e wv24 ⟨⟨v, rfl, m3, s3, t3, rfl, hm3⟩, hb⟩
                replace hX := hX.below hb hX.lt
                refine hK.out _ _ (hHeld.world hb) (fun hHeld => ?_)
                clear hK K hb
                refine wpAnyH_ready (rs := [9]) (by kernel_rfl) (by simp) ?_
                refine AllReadyH.cons rfl (fun K hK => ?_) (AllReadyH.nil)
                · go_simp
                  have hL := Own.new wv24 #[.int .i64 m.k, .string s, .string t, .int .i64 m.win, .int .i64 m.cap, .int .i64 m.least, .int .i64 m.before, .int .i64 k, .string s2, .string t2, .int .i64 win, .int .i64 cap, .int .i64 least, .int .i64 before, .int .i64 m3.k, .string s3, .string t3, .int .i64 m3.win, .int .i64 m3.cap, .int .i64 m3.least, .int .i64 m3.before] 29
                  replace hX := hX.alloc (.cells #[.int .i64 m.k, .string s, .string t, .int .i64 m.win, .int .i64 m.cap, .int .i64 m.least, .int .i64 m.before, .int .i64 k, .string s2, .string t2, .int .i64 win, .int .i64 cap, .int .i64 least, .int .i64 before, .int .i64 m3.k, .string s3, .string t3, .int .i64 m3.win, .int .i64 m3.cap, .int .i64 m3.least, .int .i64 m3.before] 29)
                  refine hK.out _ _ (hHeld.alloc (.cells #[.int .i64 m.k, .string s, .string t, .int .i64 m.win, .int .i64 m.cap, .int .i64 m.least, .int .i64 m.before, .int .i64 k, .string s2, .string t2, .int .i64 win, .int .i64 cap, .int .i64 least, .int .i64 before, .int .i64 m3.k, .string s3, .string t3, .int .i64 m3.win, .int .i64 m3.cap, .int .i64 m3.least, .int .i64 m3.before] 29)) (fun hHeld => ?_)
                  clear hK K
                  generalize wv24.alloc (.cells #[.int .i64 m.k, .string s, .string t, .int .i64 m.win, .int .i64 m.cap, .int .i64 m.least, .int .i64 m.before, .int .i64 k, .string s2, .string t2, .int .i64 win, .int .i64 cap, .int .i64 least, .int .i64 before, .int .i64 m3.k, .string s3, .string t3, .int .i64 m3.win, .int .i64 m3.cap, .int .i64 m3.least, .int .i64 m3.before] 29) = wv25 at hHeld hL hX ⊢
                  generalize wv24.heap.size = bl at hL ⊢
                  refine wpAnyH_take (i := 11) (v := ?v11_226) rfl (by kernel_rfl) (by kernel_rfl) (by kernel_rfl) (fun _ _ _ h => h) (Or.inl ⟨by rfl, ?hy11_226⟩) (by assumption) ?rest11_226
                  case hy11_226 =>
                    intro W hSw
                    go_simp
                    try exact rfl
                  simp only [Act.put]
                  refine wpAnyH_ready (rs := [12]) (by kernel_rfl) (by simp) ?_
                  refine AllReadyH.cons rfl (fun K hK => ?_) (AllReadyH.nil)
                  · obtain ⟨l0, l1, l2, l3, l4, l5, l6⟩ := cells7 hL 7
                    go_simp
                    refine hK.out _ _ hHeld (fun hHeld => ?_)
                    clear hK K l0 l1 l2 l3 l4 l5 l6
                    refine wpAnyH_ready (rs := [14]) (by kernel_rfl) (by simp) ?_
                    refine AllReadyH.cons rfl (fun K hK => ?_) (AllReadyH.nil)
                    · obtain ⟨⟨c0, c1, c2, c3, c4, c5, c6⟩, f0, f1, f2, f3, f4, f5, f6⟩ := cells14 hX
                      go_simp
                      replace hX := hX.set 0 (.int .i64 k)
                      replace hX := hX.set 1 (.string s2)
                      replace hX := hX.set 2 (.string t2)
                      replace hX := hX.set 3 (.int .i64 win)
                      replace hX := hX.set 4 (.int .i64 cap)
                      replace hX := hX.set 5 (.int .i64 least)
                      replace hX := hX.set 6 (.int .i64 before)
                      have hCs := hHeld.set hbx 0 (.int .i64 k)
                      replace hCs := hCs.set hbx 1 (.string s2)
                      replace hCs := hCs.set hbx 2 (.string t2)
                      replace hCs := hCs.set hbx 3 (.int .i64 win)
                      replace hCs := hCs.set hbx 4 (.int .i64 cap)
                      replace hCs := hCs.set hbx 5 (.int .i64 least)
                      replace hCs := hCs.set hbx 6 (.int .i64 before)
                      refine hK.out _ _ hCs (fun hHeld => ?_)
                      clear hK K hCs c0 c1 c2 c3 c4 c5 c6 f0 f1 f2 f3 f4 f5 f6
                      refine wpAnyH_done (by kernel_rfl) ?_ _
                      go_wp2
                      go_meet
                      exact ⟨bx, (mvMade k win cap least before s2 t2), s2, t2, rfl, Lib.hid hX, Lib.hid ⟨rfl, rfl, hsz2, htz2⟩, Lib.hid hHeld⟩
          · go_simp
            have hbx := And.intro hHeld.box.lt hHeld.made.lt
            have hX := Own.new wd #[.int .i64 0, .string ⟨#[]⟩, .string ⟨#[]⟩, .int .i64 0, .int .i64 0, .int .i64 0, .int .i64 0] 29
            refine hK.out _ _ (hHeld.alloc (.cells #[.int .i64 0, .string ⟨#[]⟩, .string ⟨#[]⟩, .int .i64 0, .int .i64 0, .int .i64 0, .int .i64 0] 29)) (fun hHeld => ?_)
            clear hK K
            generalize wd.alloc (.cells #[.int .i64 0, .string ⟨#[]⟩, .string ⟨#[]⟩, .int .i64 0, .int .i64 0, .int .i64 0, .int .i64 0] 29) = wv29 at hHeld hX ⊢
            generalize wd.heap.size = bx at hbx hX ⊢
            refine wpAnyH_ready (rs := [6]) (by kernel_rfl) (by simp) ?_
            refine AllReadyH.cons rfl (fun K hK => ?_) (AllReadyH.nil)
            · go_simp
              refine (limits_any wh nn _ hw0 hw1).mono ?_
              rintro e wv30 ⟨⟨kl, rfl⟩, hb⟩
              replace hX := hX.below hb hX.lt
              refine hK.out _ _ (hHeld.world hb) (fun hHeld => ?_)
              clear hK K hb
              refine wpAnyH_ready (rs := [8]) (by kernel_rfl) (by simp) ?_
              refine AllReadyH.cons rfl (fun K hK => ?_) (AllReadyH.nil)
              · go_simp
                refine (change_any k win cap least before f kl s2 t2 x _ hsz2 htz2 hxz).mono ?_
                rintro e wv31 ⟨⟨v, rfl, m3, s3, t3, rfl, hm3⟩, hb⟩
                replace hX := hX.below hb hX.lt
                refine hK.out _ _ (hHeld.world hb) (fun hHeld => ?_)
                clear hK K hb
                refine wpAnyH_ready (rs := [9]) (by kernel_rfl) (by simp) ?_
                refine AllReadyH.cons rfl (fun K hK => ?_) (AllReadyH.nil)
                · go_simp
                  have hL := Own.new wv31 #[.int .i64 m.k, .string s, .string t, .int .i64 m.win, .int .i64 m.cap, .int .i64 m.least, .int .i64 m.before, .int .i64 k, .string s2, .string t2, .int .i64 win, .int .i64 cap, .int .i64 least, .int .i64 before, .int .i64 m3.k, .string s3, .string t3, .int .i64 m3.win, .int .i64 m3.cap, .int .i64 m3.least, .int .i64 m3.before] 29
                  replace hX := hX.alloc (.cells #[.int .i64 m.k, .string s, .string t, .int .i64 m.win, .int .i64 m.cap, .int .i64 m.least, .int .i64 m.before, .int .i64 k, .string s2, .string t2, .int .i64 win, .int .i64 cap, .int .i64 least, .int .i64 before, .int .i64 m3.k, .string s3, .string t3, .int .i64 m3.win, .int .i64 m3.cap, .int .i64 m3.least, .int .i64 m3.before] 29)
                  refine hK.out _ _ (hHeld.alloc (.cells #[.int .i64 m.k, .string s, .string t, .int .i64 m.win, .int .i64 m.cap, .int .i64 m.least, .int .i64 m.before, .int .i64 k, .string s2, .string t2, .int .i64 win, .int .i64 cap, .int .i64 least, .int .i64 before, .int .i64 m3.k, .string s3, .string t3, .int .i64 m3.win, .int .i64 m3.cap, .int .i64 m3.least, .int .i64 m3.before] 29)) (fun hHeld => ?_)
                  clear hK K
                  generalize wv31.alloc (.cells #[.int .i64 m.k, .string s, .string t, .int .i64 m.win, .int .i64 m.cap, .int .i64 m.least, .int .i64 m.before, .int .i64 k, .string s2, .string t2, .int .i64 win, .int .i64 cap, .int .i64 least, .int .i64 before, .int .i64 m3.k, .string s3, .string t3, .int .i64 m3.win, .int .i64 m3.cap, .int .i64 m3.least, .int .i64 m3.before] 29) = wv32 at hHeld hL hX ⊢
                  generalize wv31.heap.size = bl at hL ⊢
                  refine wpAnyH_take (i := 11) (v := ?v11_233) rfl (by kernel_rfl) (by kernel_rfl) (by kernel_rfl) (fun _ _ _ h => h) (Or.inl ⟨by rfl, ?hy11_233⟩) (by assumption) ?rest11_233
                  case hy11_233 =>
                    intro W hSw
                    go_simp
                    try exact rfl
                  simp only [Act.put]
                  refine wpAnyH_ready (rs := [12]) (by kernel_rfl) (by simp) ?_
                  refine AllReadyH.cons rfl (fun K hK => ?_) (AllReadyH.nil)
                  · obtain ⟨l0, l1, l2, l3, l4, l5, l6⟩ := cells7 hL 7
                    go_simp
                    refine hK.out _ _ hHeld (fun hHeld => ?_)
                    clear hK K l0 l1 l2 l3 l4 l5 l6
                    refine wpAnyH_ready (rs := [14]) (by kernel_rfl) (by simp) ?_
                    refine AllReadyH.cons rfl (fun K hK => ?_) (AllReadyH.nil)
                    · obtain ⟨⟨c0, c1, c2, c3, c4, c5, c6⟩, f0, f1, f2, f3, f4, f5, f6⟩ := cells14 hX
                      go_simp
                      replace hX := hX.set 0 (.int .i64 k)
                      replace hX := hX.set 1 (.string s2)
                      replace hX := hX.set 2 (.string t2)
                      replace hX := hX.set 3 (.int .i64 win)
                      replace hX := hX.set 4 (.int .i64 cap)
                      replace hX := hX.set 5 (.int .i64 least)
                      replace hX := hX.set 6 (.int .i64 before)
                      have hCs := hHeld.set hbx 0 (.int .i64 k)
                      replace hCs := hCs.set hbx 1 (.string s2)
                      replace hCs := hCs.set hbx 2 (.string t2)
                      replace hCs := hCs.set hbx 3 (.int .i64 win)
                      replace hCs := hCs.set hbx 4 (.int .i64 cap)
                      replace hCs := hCs.set hbx 5 (.int .i64 least)
                      replace hCs := hCs.set hbx 6 (.int .i64 before)
                      refine hK.out _ _ hCs (fun hHeld => ?_)
                      clear hK K hCs c0 c1 c2 c3 c4 c5 c6 f0 f1 f2 f3 f4 f5 f6
                      refine wpAnyH_done (by kernel_rfl) ?_ _
                      go_wp2
                      go_meet
                      exact ⟨bx, (mvMade k win cap least before s2 t2), s2, t2, rfl, Lib.hid hX, Lib.hid ⟨rfl, rfl, hsz2, htz2⟩, Lib.hid hHeld⟩
        · refine wp_region_held_drew (S := fun W => CRel w W w2.heap.size (mrow7 m.k s t m.win m.cap m.least m.before) (mrow7 k s2 t2 win cap least before)) (by kernel_rfl) hC.out.drew (fun hHeld => ?_)
          generalize wr.drew = wd at hHeld ⊢
          refine wpAnyH_take (i := 0) (v := ?v0_300) rfl (by kernel_rfl) (by kernel_rfl) (by kernel_rfl) (fun _ _ _ h => h) (Or.inl ⟨by rfl, ?hy0_300⟩) (by assumption) ?rest0_300
          case hy0_300 =>
            intro W hSw
            obtain ⟨p0, p1, p2, p3, p4, p5, p6⟩ := box7 (show CRel w W w2.heap.size (mrow7 m.k s t m.win m.cap m.least m.before) (mrow7 k s2 t2 win cap least before) from hSw).box; obtain ⟨q0, q1, q2, q3, q4, q5, q6⟩ := box7 (show CRel w W w2.heap.size (mrow7 m.k s t m.win m.cap m.least m.before) (mrow7 k s2 t2 win cap least before) from hSw).made
            go_simp
            try exact rfl
          simp only [Act.put]
          refine wpAnyH_take (i := 1) (v := ?v1_301) rfl (by kernel_rfl) (by kernel_rfl) (by kernel_rfl) (fun _ _ _ h => h) (Or.inl ⟨by rfl, ?hy1_301⟩) (by assumption) ?rest1_301
          case hy1_301 =>
            intro W hSw
            obtain ⟨p0, p1, p2, p3, p4, p5, p6⟩ := box7 (show CRel w W w2.heap.size (mrow7 m.k s t m.win m.cap m.least m.before) (mrow7 k s2 t2 win cap least before) from hSw).box; obtain ⟨q0, q1, q2, q3, q4, q5, q6⟩ := box7 (show CRel w W w2.heap.size (mrow7 m.k s t m.win m.cap m.least m.before) (mrow7 k s2 t2 win cap least before) from hSw).made
            go_simp
            try exact rfl
          simp only [Act.put]
          refine wpAnyH_take (i := 2) (v := ?v2_302) rfl (by kernel_rfl) (by kernel_rfl) (by kernel_rfl) (fun _ _ _ h => h) (Or.inl ⟨by rfl, ?hy2_302⟩) (by assumption) ?rest2_302
          case hy2_302 =>
            intro W hSw
            obtain ⟨p0, p1, p2, p3, p4, p5, p6⟩ := box7 (show CRel w W w2.heap.size (mrow7 m.k s t m.win m.cap m.least m.before) (mrow7 k s2 t2 win cap least before) from hSw).box; obtain ⟨q0, q1, q2, q3, q4, q5, q6⟩ := box7 (show CRel w W w2.heap.size (mrow7 m.k s t m.win m.cap m.least m.before) (mrow7 k s2 t2 win cap least before) from hSw).made
            go_simp
            try exact rfl
          simp only [Act.put]
          refine wpAnyH_take (i := 3) (v := ?v3_303) rfl (by kernel_rfl) (by kernel_rfl) (by kernel_rfl) (fun _ _ _ h => h) (Or.inl ⟨by rfl, ?hy3_303⟩) (by assumption) ?rest3_303
          case hy3_303 =>
            intro W hSw
            go_simp
            try exact rfl
          simp only [Act.put]
          refine wpAnyH_take (i := 4) (v := ?v4_304) rfl (by kernel_rfl) (by kernel_rfl) (by kernel_rfl) (fun _ _ _ h => h) (Or.inl ⟨by rfl, ?hy4_304⟩) (by assumption) ?rest4_304
          case hy4_304 =>
            intro W hSw
            go_simp
            try exact rfl
          simp only [Act.put]
          refine wpAnyH_take (i := 5) (v := ?v5_305) rfl (by kernel_rfl) (by kernel_rfl) (by kernel_rfl) (fun _ _ _ h => h) (Or.inl ⟨by rfl, ?hy5_305⟩) (by assumption) ?rest5_305
          case hy5_305 =>
            intro W hSw
            go_simp
            try exact rfl
          simp only [Act.put]
          refine wpAnyH_take (i := 7) (v := ?v7_306) rfl (by kernel_rfl) (by kernel_rfl) (by kernel_rfl) (fun _ _ _ h => h) (Or.inl ⟨by rfl, ?hy7_306⟩) (by assumption) ?rest7_306
          case hy7_306 =>
            intro W hSw
            go_simp
            try exact rfl
          simp only [Act.put]
          refine wpAnyH_take (i := 10) (v := ?v10_307) rfl (by kernel_rfl) (by kernel_rfl) (by kernel_rfl) (fun _ _ _ h => h) (Or.inl ⟨by rfl, ?hy10_307⟩) (by assumption) ?rest10_307
          case hy10_307 =>
            intro W hSw
            go_simp
            try exact rfl
          simp only [Act.put]
          refine wpAnyH_ready (rs := [6, 13]) (by kernel_rfl) (by simp) ?_
          refine AllReadyH.cons rfl (fun K hK => ?_) (AllReadyH.cons rfl (fun K hK => ?_) (AllReadyH.nil))
          · go_simp
            refine (limits_any wh nn _ hw0 hw1).mono ?_
            rintro e wv8 ⟨⟨kl, rfl⟩, hb⟩
            refine hK.out _ _ (hHeld.world hb) (fun hHeld => ?_)
            clear hK K hb
            refine wpAnyH_ready (rs := [8, 13]) (by kernel_rfl) (by simp) ?_
            refine AllReadyH.cons rfl (fun K hK => ?_) (AllReadyH.cons rfl (fun K hK => ?_) (AllReadyH.nil))
            · go_simp
              refine (change_any k win cap least before f kl s2 t2 x _ hsz2 htz2 hxz).mono ?_
              rintro e wv9 ⟨⟨v, rfl, m3, s3, t3, rfl, hm3⟩, hb⟩
              refine hK.out _ _ (hHeld.world hb) (fun hHeld => ?_)
              clear hK K hb
              refine wpAnyH_ready (rs := [9, 13]) (by kernel_rfl) (by simp) ?_
              refine AllReadyH.cons rfl (fun K hK => ?_) (AllReadyH.cons rfl (fun K hK => ?_) (AllReadyH.nil))
              · go_simp
                have hL := Own.new wv9 #[.int .i64 m.k, .string s, .string t, .int .i64 m.win, .int .i64 m.cap, .int .i64 m.least, .int .i64 m.before, .int .i64 k, .string s2, .string t2, .int .i64 win, .int .i64 cap, .int .i64 least, .int .i64 before, .int .i64 m3.k, .string s3, .string t3, .int .i64 m3.win, .int .i64 m3.cap, .int .i64 m3.least, .int .i64 m3.before] 29
                refine hK.out _ _ (hHeld.alloc (.cells #[.int .i64 m.k, .string s, .string t, .int .i64 m.win, .int .i64 m.cap, .int .i64 m.least, .int .i64 m.before, .int .i64 k, .string s2, .string t2, .int .i64 win, .int .i64 cap, .int .i64 least, .int .i64 before, .int .i64 m3.k, .string s3, .string t3, .int .i64 m3.win, .int .i64 m3.cap, .int .i64 m3.least, .int .i64 m3.before] 29)) (fun hHeld => ?_)
                clear hK K
                generalize wv9.alloc (.cells #[.int .i64 m.k, .string s, .string t, .int .i64 m.win, .int .i64 m.cap, .int .i64 m.least, .int .i64 m.before, .int .i64 k, .string s2, .string t2, .int .i64 win, .int .i64 cap, .int .i64 least, .int .i64 before, .int .i64 m3.k, .string s3, .string t3, .int .i64 m3.win, .int .i64 m3.cap, .int .i64 m3.least, .int .i64 m3.before] 29) = wv10 at hHeld hL ⊢
                generalize wv9.heap.size = bl at hL ⊢
                refine wpAnyH_take (i := 11) (v := ?v11_311) rfl (by kernel_rfl) (by kernel_rfl) (by kernel_rfl) (fun _ _ _ h => h) (Or.inl ⟨by rfl, ?hy11_311⟩) (by assumption) ?rest11_311
                case hy11_311 =>
                  intro W hSw
                  go_simp
                  try exact rfl
                simp only [Act.put]
                refine wpAnyH_ready (rs := [12, 13]) (by kernel_rfl) (by simp) ?_
                refine AllReadyH.cons rfl (fun K hK => ?_) (AllReadyH.cons rfl (fun K hK => ?_) (AllReadyH.nil))
                · obtain ⟨l0, l1, l2, l3, l4, l5, l6⟩ := cells7 hL 14
                  go_simp
                  refine hK.out _ _ hHeld (fun hHeld => ?_)
                  clear hK K l0 l1 l2 l3 l4 l5 l6
                  refine wpAnyH_ready (rs := [13]) (by kernel_rfl) (by simp) ?_
                  refine AllReadyH.cons rfl (fun K hK => ?_) (AllReadyH.nil)
                  · go_simp
                    have hbx := And.intro hHeld.box.lt hHeld.made.lt
                    have hX := Own.new wv10 #[.int .i64 0, .string ⟨#[]⟩, .string ⟨#[]⟩, .int .i64 0, .int .i64 0, .int .i64 0, .int .i64 0] 29
                    replace hL := hL.alloc (.cells #[.int .i64 0, .string ⟨#[]⟩, .string ⟨#[]⟩, .int .i64 0, .int .i64 0, .int .i64 0, .int .i64 0] 29)
                    refine hK.out _ _ (hHeld.alloc (.cells #[.int .i64 0, .string ⟨#[]⟩, .string ⟨#[]⟩, .int .i64 0, .int .i64 0, .int .i64 0, .int .i64 0] 29)) (fun hHeld => ?_)
                    clear hK K
                    generalize wv10.alloc (.cells #[.int .i64 0, .string ⟨#[]⟩, .string ⟨#[]⟩, .int .i64 0, .int .i64 0, .int .i64 0, .int .i64 0] 29) = wv13 at hHeld hX hL ⊢
                    generalize wv10.heap.size = bx at hbx hX ⊢
                    refine wpAnyH_ready (rs := [14]) (by kernel_rfl) (by simp) ?_
                    refine AllReadyH.cons rfl (fun K hK => ?_) (AllReadyH.nil)
                    · obtain ⟨⟨c0, c1, c2, c3, c4, c5, c6⟩, f0, f1, f2, f3, f4, f5, f6⟩ := cells14 hX
                      go_simp
                      replace hX := hX.set 0 (.int .i64 m3.k)
                      replace hX := hX.set 1 (.string s3)
                      replace hX := hX.set 2 (.string t3)
                      replace hX := hX.set 3 (.int .i64 m3.win)
                      replace hX := hX.set 4 (.int .i64 m3.cap)
                      replace hX := hX.set 5 (.int .i64 m3.least)
                      replace hX := hX.set 6 (.int .i64 m3.before)
                      have hCs := hHeld.set hbx 0 (.int .i64 m3.k)
                      replace hCs := hCs.set hbx 1 (.string s3)
                      replace hCs := hCs.set hbx 2 (.string t3)
                      replace hCs := hCs.set hbx 3 (.int .i64 m3.win)
                      replace hCs := hCs.set hbx 4 (.int .i64 m3.cap)
                      replace hCs := hCs.set hbx 5 (.int .i64 m3.least)
                      replace hCs := hCs.set hbx 6 (.int .i64 m3.before)
                      refine hK.out _ _ hCs (fun hHeld => ?_)
                      clear hK K hCs c0 c1 c2 c3 c4 c5 c6 f0 f1 f2 f3 f4 f5 f6
                      refine wpAnyH_done (by kernel_rfl) ?_ _
                      go_wp2
                      go_meet
                      exact ⟨bx, m3, s3, t3, rfl, Lib.hid hX, Lib.hid hm3, Lib.hid hHeld⟩
                · go_simp
                  have hbx := And.intro hHeld.box.lt hHeld.made.lt
                  have hX := Own.new wv10 #[.int .i64 0, .string ⟨#[]⟩, .string ⟨#[]⟩, .int .i64 0, .int .i64 0, .int .i64 0, .int .i64 0] 29
                  replace hL := hL.alloc (.cells #[.int .i64 0, .string ⟨#[]⟩, .string ⟨#[]⟩, .int .i64 0, .int .i64 0, .int .i64 0, .int .i64 0] 29)
                  refine hK.out _ _ (hHeld.alloc (.cells #[.int .i64 0, .string ⟨#[]⟩, .string ⟨#[]⟩, .int .i64 0, .int .i64 0, .int .i64 0, .int .i64 0] 29)) (fun hHeld => ?_)
                  clear hK K
                  generalize wv10.alloc (.cells #[.int .i64 0, .string ⟨#[]⟩, .string ⟨#[]⟩, .int .i64 0, .int .i64 0, .int .i64 0, .int .i64 0] 29) = wv15 at hHeld hX hL ⊢
                  generalize wv10.heap.size = bx at hbx hX ⊢
                  refine wpAnyH_ready (rs := [12]) (by kernel_rfl) (by simp) ?_
                  refine AllReadyH.cons rfl (fun K hK => ?_) (AllReadyH.nil)
                  · obtain ⟨l0, l1, l2, l3, l4, l5, l6⟩ := cells7 hL 14
                    go_simp
                    refine hK.out _ _ hHeld (fun hHeld => ?_)
                    clear hK K l0 l1 l2 l3 l4 l5 l6
                    refine wpAnyH_ready (rs := [14]) (by kernel_rfl) (by simp) ?_
                    refine AllReadyH.cons rfl (fun K hK => ?_) (AllReadyH.nil)
                    · obtain ⟨⟨c0, c1, c2, c3, c4, c5, c6⟩, f0, f1, f2, f3, f4, f5, f6⟩ := cells14 hX
                      go_simp
                      replace hX := hX.set 0 (.int .i64 m3.k)
                      replace hX := hX.set 1 (.string s3)
                      replace hX := hX.set 2 (.string t3)
                      replace hX := hX.set 3 (.int .i64 m3.win)
                      replace hX := hX.set 4 (.int .i64 m3.cap)
                      replace hX := hX.set 5 (.int .i64 m3.least)
                      replace hX := hX.set 6 (.int .i64 m3.before)
                      have hCs := hHeld.set hbx 0 (.int .i64 m3.k)
                      replace hCs := hCs.set hbx 1 (.string s3)
                      replace hCs := hCs.set hbx 2 (.string t3)
                      replace hCs := hCs.set hbx 3 (.int .i64 m3.win)
                      replace hCs := hCs.set hbx 4 (.int .i64 m3.cap)
                      replace hCs := hCs.set hbx 5 (.int .i64 m3.least)
                      replace hCs := hCs.set hbx 6 (.int .i64 m3.before)
                      refine hK.out _ _ hCs (fun hHeld => ?_)
                      clear hK K hCs c0 c1 c2 c3 c4 c5 c6 f0 f1 f2 f3 f4 f5 f6
                      refine wpAnyH_done (by kernel_rfl) ?_ _
                      go_wp2
                      go_meet
                      exact ⟨bx, m3, s3, t3, rfl, Lib.hid hX, Lib.hid hm3, Lib.hid hHeld⟩
              · go_simp
                have hbx := And.intro hHeld.box.lt hHeld.made.lt
                have hX := Own.new wv9 #[.int .i64 0, .string ⟨#[]⟩, .string ⟨#[]⟩, .int .i64 0, .int .i64 0, .int .i64 0, .int .i64 0] 29
                refine hK.out _ _ (hHeld.alloc (.cells #[.int .i64 0, .string ⟨#[]⟩, .string ⟨#[]⟩, .int .i64 0, .int .i64 0, .int .i64 0, .int .i64 0] 29)) (fun hHeld => ?_)
                clear hK K
                generalize wv9.alloc (.cells #[.int .i64 0, .string ⟨#[]⟩, .string ⟨#[]⟩, .int .i64 0, .int .i64 0, .int .i64 0, .int .i64 0] 29) = wv18 at hHeld hX ⊢
                generalize wv9.heap.size = bx at hbx hX ⊢
                refine wpAnyH_ready (rs := [9]) (by kernel_rfl) (by simp) ?_
                refine AllReadyH.cons rfl (fun K hK => ?_) (AllReadyH.nil)
                · go_simp
                  have hL := Own.new wv18 #[.int .i64 m.k, .string s, .string t, .int .i64 m.win, .int .i64 m.cap, .int .i64 m.least, .int .i64 m.before, .int .i64 k, .string s2, .string t2, .int .i64 win, .int .i64 cap, .int .i64 least, .int .i64 before, .int .i64 m3.k, .string s3, .string t3, .int .i64 m3.win, .int .i64 m3.cap, .int .i64 m3.least, .int .i64 m3.before] 29
                  replace hX := hX.alloc (.cells #[.int .i64 m.k, .string s, .string t, .int .i64 m.win, .int .i64 m.cap, .int .i64 m.least, .int .i64 m.before, .int .i64 k, .string s2, .string t2, .int .i64 win, .int .i64 cap, .int .i64 least, .int .i64 before, .int .i64 m3.k, .string s3, .string t3, .int .i64 m3.win, .int .i64 m3.cap, .int .i64 m3.least, .int .i64 m3.before] 29)
                  refine hK.out _ _ (hHeld.alloc (.cells #[.int .i64 m.k, .string s, .string t, .int .i64 m.win, .int .i64 m.cap, .int .i64 m.least, .int .i64 m.before, .int .i64 k, .string s2, .string t2, .int .i64 win, .int .i64 cap, .int .i64 least, .int .i64 before, .int .i64 m3.k, .string s3, .string t3, .int .i64 m3.win, .int .i64 m3.cap, .int .i64 m3.least, .int .i64 m3.before] 29)) (fun hHeld => ?_)
                  clear hK K
                  generalize wv18.alloc (.cells #[.int .i64 m.k, .string s, .string t, .int .i64 m.win, .int .i64 m.cap, .int .i64 m.least, .int .i64 m.before, .int .i64 k, .string s2, .string t2, .int .i64 win, .int .i64 cap, .int .i64 least, .int .i64 before, .int .i64 m3.k, .string s3, .string t3, .int .i64 m3.win, .int .i64 m3.cap, .int .i64 m3.least, .int .i64 m3.before] 29) = wv19 at hHeld hL hX ⊢
                  generalize wv18.heap.size = bl at hL ⊢
                  refine wpAnyH_take (i := 11) (v := ?v11_320) rfl (by kernel_rfl) (by kernel_rfl) (by kernel_rfl) (fun _ _ _ h => h) (Or.inl ⟨by rfl, ?hy11_320⟩) (by assumption) ?rest11_320
                  case hy11_320 =>
                    intro W hSw
                    go_simp
                    try exact rfl
                  simp only [Act.put]
                  refine wpAnyH_ready (rs := [12]) (by kernel_rfl) (by simp) ?_
                  refine AllReadyH.cons rfl (fun K hK => ?_) (AllReadyH.nil)
                  · obtain ⟨l0, l1, l2, l3, l4, l5, l6⟩ := cells7 hL 14
                    go_simp
                    refine hK.out _ _ hHeld (fun hHeld => ?_)
                    clear hK K l0 l1 l2 l3 l4 l5 l6
                    refine wpAnyH_ready (rs := [14]) (by kernel_rfl) (by simp) ?_
                    refine AllReadyH.cons rfl (fun K hK => ?_) (AllReadyH.nil)
                    · obtain ⟨⟨c0, c1, c2, c3, c4, c5, c6⟩, f0, f1, f2, f3, f4, f5, f6⟩ := cells14 hX
                      go_simp
                      replace hX := hX.set 0 (.int .i64 m3.k)
                      replace hX := hX.set 1 (.string s3)
                      replace hX := hX.set 2 (.string t3)
                      replace hX := hX.set 3 (.int .i64 m3.win)
                      replace hX := hX.set 4 (.int .i64 m3.cap)
                      replace hX := hX.set 5 (.int .i64 m3.least)
                      replace hX := hX.set 6 (.int .i64 m3.before)
                      have hCs := hHeld.set hbx 0 (.int .i64 m3.k)
                      replace hCs := hCs.set hbx 1 (.string s3)
                      replace hCs := hCs.set hbx 2 (.string t3)
                      replace hCs := hCs.set hbx 3 (.int .i64 m3.win)
                      replace hCs := hCs.set hbx 4 (.int .i64 m3.cap)
                      replace hCs := hCs.set hbx 5 (.int .i64 m3.least)
                      replace hCs := hCs.set hbx 6 (.int .i64 m3.before)
                      refine hK.out _ _ hCs (fun hHeld => ?_)
                      clear hK K hCs c0 c1 c2 c3 c4 c5 c6 f0 f1 f2 f3 f4 f5 f6
                      refine wpAnyH_done (by kernel_rfl) ?_ _
                      go_wp2
                      go_meet
                      exact ⟨bx, m3, s3, t3, rfl, Lib.hid hX, Lib.hid hm3, Lib.hid hHeld⟩
            · go_simp
              have hbx := And.intro hHeld.box.lt hHeld.made.lt
              have hX := Own.new wv8 #[.int .i64 0, .string ⟨#[]⟩, .string ⟨#[]⟩, .int .i64 0, .int .i64 0, .int .i64 0, .int .i64 0] 29
              refine hK.out _ _ (hHeld.alloc (.cells #[.int .i64 0, .string ⟨#[]⟩, .string ⟨#[]⟩, .int .i64 0, .int .i64 0, .int .i64 0, .int .i64 0] 29)) (fun hHeld => ?_)
              clear hK K
              generalize wv8.alloc (.cells #[.int .i64 0, .string ⟨#[]⟩, .string ⟨#[]⟩, .int .i64 0, .int .i64 0, .int .i64 0, .int .i64 0] 29) = wv23 at hHeld hX ⊢
              generalize wv8.heap.size = bx at hbx hX ⊢
              refine wpAnyH_ready (rs := [8]) (by kernel_rfl) (by simp) ?_
              refine AllReadyH.cons rfl (fun K hK => ?_) (AllReadyH.nil)
              · go_simp
                refine (change_any k win cap least before f kl s2 t2 x _ hsz2 htz2 hxz).mono ?_
                rintro e wv24 ⟨⟨v, rfl, m3, s3, t3, rfl, hm3⟩, hb⟩
                replace hX := hX.below hb hX.lt
                refine hK.out _ _ (hHeld.world hb) (fun hHeld => ?_)
                clear hK K hb
                refine wpAnyH_ready (rs := [9]) (by kernel_rfl) (by simp) ?_
                refine AllReadyH.cons rfl (fun K hK => ?_) (AllReadyH.nil)
                · go_simp
                  have hL := Own.new wv24 #[.int .i64 m.k, .string s, .string t, .int .i64 m.win, .int .i64 m.cap, .int .i64 m.least, .int .i64 m.before, .int .i64 k, .string s2, .string t2, .int .i64 win, .int .i64 cap, .int .i64 least, .int .i64 before, .int .i64 m3.k, .string s3, .string t3, .int .i64 m3.win, .int .i64 m3.cap, .int .i64 m3.least, .int .i64 m3.before] 29
                  replace hX := hX.alloc (.cells #[.int .i64 m.k, .string s, .string t, .int .i64 m.win, .int .i64 m.cap, .int .i64 m.least, .int .i64 m.before, .int .i64 k, .string s2, .string t2, .int .i64 win, .int .i64 cap, .int .i64 least, .int .i64 before, .int .i64 m3.k, .string s3, .string t3, .int .i64 m3.win, .int .i64 m3.cap, .int .i64 m3.least, .int .i64 m3.before] 29)
                  refine hK.out _ _ (hHeld.alloc (.cells #[.int .i64 m.k, .string s, .string t, .int .i64 m.win, .int .i64 m.cap, .int .i64 m.least, .int .i64 m.before, .int .i64 k, .string s2, .string t2, .int .i64 win, .int .i64 cap, .int .i64 least, .int .i64 before, .int .i64 m3.k, .string s3, .string t3, .int .i64 m3.win, .int .i64 m3.cap, .int .i64 m3.least, .int .i64 m3.before] 29)) (fun hHeld => ?_)
                  clear hK K
                  generalize wv24.alloc (.cells #[.int .i64 m.k, .string s, .string t, .int .i64 m.win, .int .i64 m.cap, .int .i64 m.least, .int .i64 m.before, .int .i64 k, .string s2, .string t2, .int .i64 win, .int .i64 cap, .int .i64 least, .int .i64 before, .int .i64 m3.k, .string s3, .string t3, .int .i64 m3.win, .int .i64 m3.cap, .int .i64 m3.least, .int .i64 m3.before] 29) = wv25 at hHeld hL hX ⊢
                  generalize wv24.heap.size = bl at hL ⊢
                  refine wpAnyH_take (i := 11) (v := ?v11_326) rfl (by kernel_rfl) (by kernel_rfl) (by kernel_rfl) (fun _ _ _ h => h) (Or.inl ⟨by rfl, ?hy11_326⟩) (by assumption) ?rest11_326
                  case hy11_326 =>
                    intro W hSw
                    go_simp
                    try exact rfl
                  simp only [Act.put]
                  refine wpAnyH_ready (rs := [12]) (by kernel_rfl) (by simp) ?_
                  refine AllReadyH.cons rfl (fun K hK => ?_) (AllReadyH.nil)
                  · obtain ⟨l0, l1, l2, l3, l4, l5, l6⟩ := cells7 hL 14
                    go_simp
                    refine hK.out _ _ hHeld (fun hHeld => ?_)
                    clear hK K l0 l1 l2 l3 l4 l5 l6
                    refine wpAnyH_ready (rs := [14]) (by kernel_rfl) (by simp) ?_
                    refine AllReadyH.cons rfl (fun K hK => ?_) (AllReadyH.nil)
                    · obtain ⟨⟨c0, c1, c2, c3, c4, c5, c6⟩, f0, f1, f2, f3, f4, f5, f6⟩ := cells14 hX
                      go_simp
                      replace hX := hX.set 0 (.int .i64 m3.k)
                      replace hX := hX.set 1 (.string s3)
                      replace hX := hX.set 2 (.string t3)
                      replace hX := hX.set 3 (.int .i64 m3.win)
                      replace hX := hX.set 4 (.int .i64 m3.cap)
                      replace hX := hX.set 5 (.int .i64 m3.least)
                      replace hX := hX.set 6 (.int .i64 m3.before)
                      have hCs := hHeld.set hbx 0 (.int .i64 m3.k)
                      replace hCs := hCs.set hbx 1 (.string s3)
                      replace hCs := hCs.set hbx 2 (.string t3)
                      replace hCs := hCs.set hbx 3 (.int .i64 m3.win)
                      replace hCs := hCs.set hbx 4 (.int .i64 m3.cap)
                      replace hCs := hCs.set hbx 5 (.int .i64 m3.least)
                      replace hCs := hCs.set hbx 6 (.int .i64 m3.before)
                      refine hK.out _ _ hCs (fun hHeld => ?_)
                      clear hK K hCs c0 c1 c2 c3 c4 c5 c6 f0 f1 f2 f3 f4 f5 f6
                      refine wpAnyH_done (by kernel_rfl) ?_ _
                      go_wp2
                      go_meet
                      exact ⟨bx, m3, s3, t3, rfl, Lib.hid hX, Lib.hid hm3, Lib.hid hHeld⟩
          · go_simp
            have hbx := And.intro hHeld.box.lt hHeld.made.lt
            have hX := Own.new wd #[.int .i64 0, .string ⟨#[]⟩, .string ⟨#[]⟩, .int .i64 0, .int .i64 0, .int .i64 0, .int .i64 0] 29
            refine hK.out _ _ (hHeld.alloc (.cells #[.int .i64 0, .string ⟨#[]⟩, .string ⟨#[]⟩, .int .i64 0, .int .i64 0, .int .i64 0, .int .i64 0] 29)) (fun hHeld => ?_)
            clear hK K
            generalize wd.alloc (.cells #[.int .i64 0, .string ⟨#[]⟩, .string ⟨#[]⟩, .int .i64 0, .int .i64 0, .int .i64 0, .int .i64 0] 29) = wv29 at hHeld hX ⊢
            generalize wd.heap.size = bx at hbx hX ⊢
            refine wpAnyH_ready (rs := [6]) (by kernel_rfl) (by simp) ?_
            refine AllReadyH.cons rfl (fun K hK => ?_) (AllReadyH.nil)
            · go_simp
              refine (limits_any wh nn _ hw0 hw1).mono ?_
              rintro e wv30 ⟨⟨kl, rfl⟩, hb⟩
              replace hX := hX.below hb hX.lt
              refine hK.out _ _ (hHeld.world hb) (fun hHeld => ?_)
              clear hK K hb
              refine wpAnyH_ready (rs := [8]) (by kernel_rfl) (by simp) ?_
              refine AllReadyH.cons rfl (fun K hK => ?_) (AllReadyH.nil)
              · go_simp
                refine (change_any k win cap least before f kl s2 t2 x _ hsz2 htz2 hxz).mono ?_
                rintro e wv31 ⟨⟨v, rfl, m3, s3, t3, rfl, hm3⟩, hb⟩
                replace hX := hX.below hb hX.lt
                refine hK.out _ _ (hHeld.world hb) (fun hHeld => ?_)
                clear hK K hb
                refine wpAnyH_ready (rs := [9]) (by kernel_rfl) (by simp) ?_
                refine AllReadyH.cons rfl (fun K hK => ?_) (AllReadyH.nil)
                · go_simp
                  have hL := Own.new wv31 #[.int .i64 m.k, .string s, .string t, .int .i64 m.win, .int .i64 m.cap, .int .i64 m.least, .int .i64 m.before, .int .i64 k, .string s2, .string t2, .int .i64 win, .int .i64 cap, .int .i64 least, .int .i64 before, .int .i64 m3.k, .string s3, .string t3, .int .i64 m3.win, .int .i64 m3.cap, .int .i64 m3.least, .int .i64 m3.before] 29
                  replace hX := hX.alloc (.cells #[.int .i64 m.k, .string s, .string t, .int .i64 m.win, .int .i64 m.cap, .int .i64 m.least, .int .i64 m.before, .int .i64 k, .string s2, .string t2, .int .i64 win, .int .i64 cap, .int .i64 least, .int .i64 before, .int .i64 m3.k, .string s3, .string t3, .int .i64 m3.win, .int .i64 m3.cap, .int .i64 m3.least, .int .i64 m3.before] 29)
                  refine hK.out _ _ (hHeld.alloc (.cells #[.int .i64 m.k, .string s, .string t, .int .i64 m.win, .int .i64 m.cap, .int .i64 m.least, .int .i64 m.before, .int .i64 k, .string s2, .string t2, .int .i64 win, .int .i64 cap, .int .i64 least, .int .i64 before, .int .i64 m3.k, .string s3, .string t3, .int .i64 m3.win, .int .i64 m3.cap, .int .i64 m3.least, .int .i64 m3.before] 29)) (fun hHeld => ?_)
                  clear hK K
                  generalize wv31.alloc (.cells #[.int .i64 m.k, .string s, .string t, .int .i64 m.win, .int .i64 m.cap, .int .i64 m.least, .int .i64 m.before, .int .i64 k, .string s2, .string t2, .int .i64 win, .int .i64 cap, .int .i64 least, .int .i64 before, .int .i64 m3.k, .string s3, .string t3, .int .i64 m3.win, .int .i64 m3.cap, .int .i64 m3.least, .int .i64 m3.before] 29) = wv32 at hHeld hL hX ⊢
                  generalize wv31.heap.size = bl at hL ⊢
                  refine wpAnyH_take (i := 11) (v := ?v11_333) rfl (by kernel_rfl) (by kernel_rfl) (by kernel_rfl) (fun _ _ _ h => h) (Or.inl ⟨by rfl, ?hy11_333⟩) (by assumption) ?rest11_333
                  case hy11_333 =>
                    intro W hSw
                    go_simp
                    try exact rfl
                  simp only [Act.put]
                  refine wpAnyH_ready (rs := [12]) (by kernel_rfl) (by simp) ?_
                  refine AllReadyH.cons rfl (fun K hK => ?_) (AllReadyH.nil)
                  · obtain ⟨l0, l1, l2, l3, l4, l5, l6⟩ := cells7 hL 14
                    go_simp
                    refine hK.out _ _ hHeld (fun hHeld => ?_)
                    clear hK K l0 l1 l2 l3 l4 l5 l6
                    refine wpAnyH_ready (rs := [14]) (by kernel_rfl) (by simp) ?_
                    refine AllReadyH.cons rfl (fun K hK => ?_) (AllReadyH.nil)
                    · obtain ⟨⟨c0, c1, c2, c3, c4, c5, c6⟩, f0, f1, f2, f3, f4, f5, f6⟩ := cells14 hX
                      go_simp
                      replace hX := hX.set 0 (.int .i64 m3.k)
                      replace hX := hX.set 1 (.string s3)
                      replace hX := hX.set 2 (.string t3)
                      replace hX := hX.set 3 (.int .i64 m3.win)
                      replace hX := hX.set 4 (.int .i64 m3.cap)
                      replace hX := hX.set 5 (.int .i64 m3.least)
                      replace hX := hX.set 6 (.int .i64 m3.before)
                      have hCs := hHeld.set hbx 0 (.int .i64 m3.k)
                      replace hCs := hCs.set hbx 1 (.string s3)
                      replace hCs := hCs.set hbx 2 (.string t3)
                      replace hCs := hCs.set hbx 3 (.int .i64 m3.win)
                      replace hCs := hCs.set hbx 4 (.int .i64 m3.cap)
                      replace hCs := hCs.set hbx 5 (.int .i64 m3.least)
                      replace hCs := hCs.set hbx 6 (.int .i64 m3.before)
                      refine hK.out _ _ hCs (fun hHeld => ?_)
                      clear hK K hCs c0 c1 c2 c3 c4 c5 c6 f0 f1 f2 f3 f4 f5 f6
                      refine wpAnyH_done (by kernel_rfl) ?_ _
                      go_wp2
                      go_meet
                      exact ⟨bx, m3, s3, t3, rfl, Lib.hid hX, Lib.hid hm3, Lib.hid hHeld⟩
      · clear hC
        obtain ⟨bx, m3, s3, t3, rfl, hX, hm3, hC⟩ := hcut
        obtain ⟨pt, pe, hp⟩ : ∃ pt pe, Hid (printV m3 = .tuple #[.string pt, .int .i64 pe]) := by
          by_cases h0 : chkM m3 = 0
          · exact ⟨_, _, Lib.hid (printV_ok h0)⟩
          · exact ⟨_, _, Lib.hid (printV_bad h0)⟩
        obtain ⟨z0, z1, z2, z3, z4, z5, z6⟩ := box7 hX.out
        go_wp2_with fail
        refine (print_m m3 s3 t3 _ hm3.out.1 hm3.out.2.1 (hT.out.below hC.out.below)).mono ?_
        rintro e wd ⟨rfl, hb4⟩
        rw [hp.out]
        have hX4 := Lib.hid (hX.out.below hb4 hX.out.lt)
        have hC4 := Lib.hid (hC.out.world hb4)
        clear hb4 z0 z1 z2 z3 z4 z5 z6
        obtain ⟨z0, z1, z2, z3, z4, z5, z6⟩ := box7 hX4.out
        go_wp2_with fail
        refine (print_mr m3 s3 t3 _ hm3.out.1 hm3.out.2.1 hm3.out.2.2.1 hm3.out.2.2.2).mono ?_
        rintro e we ⟨rfl, hb5⟩
        rw [hp.out]
        have hX5 := Lib.hid (hX4.out.below hb5 hX4.out.lt)
        have hC5 := Lib.hid (hC4.out.world hb5)
        clear hb5 z0 z1 z2 z3 z4 z5 z6 hX4 hC4 hX hC hp
        go_wp2_with fail
        have hX6 := Lib.hid hX5.out.drew
        have hC6 := Lib.hid hC5.out.drew
        generalize hck : chkM m3 = ck
        replace hck := Lib.hid hck
        go_region_held3 (fun W => W.cell? ⟨bx, 0, none⟩ = some (.int .i64 m3.k) ∧ W.cell? ⟨bx, 1, none⟩ = some (.string s3) ∧ W.cell? ⟨bx, 2, none⟩ = some (.string t3) ∧ W.cell? ⟨bx, 3, none⟩ = some (.int .i64 m3.win) ∧ W.cell? ⟨bx, 4, none⟩ = some (.int .i64 m3.cap) ∧ W.cell? ⟨bx, 5, none⟩ = some (.int .i64 m3.least) ∧ W.cell? ⟨bx, 6, none⟩ = some (.int .i64 m3.before)) (first | exact box7 hX8.out | exact box7 hX7.out | exact box7 hX6.out)
          (first
            | (go_at_call 21; refine (check_m m3 s3 t3 _ hm3.out.1 hm3.out.2.1 (hT.out.below hC6.out.below)).mono ?_; rintro e u1 ⟨rfl, hb2⟩; rw [hck.out]; have hC7 := Lib.hid (hC6.out.world hb2); have hX7 := Lib.hid (hX6.out.below hb2 hX6.out.lt); clear hb2)
            | (go_at_call 25; refine (check_mr m3 s3 t3 _ hm3.out.1 hm3.out.2.1 hm3.out.2.2.1 hm3.out.2.2.2).mono ?_; rintro e u2 ⟨rfl, hb2⟩; rw [hck.out]; have hC8 := Lib.hid (hC7.out.world hb2); have hX8 := Lib.hid (hX7.out.below hb2 hX7.out.lt); clear hb2))
        all_goals
          go_wp2_with fail
          go_roundw
          case rel => exact ⟨i + 1, by omega, by go_num, hC8⟩
          case measure => (first | (simp [intOf]; omega) | simp [intOf])
    · obtain rfl : i = 3 := by omega
      go_wp2
      go_ret
      exact ⟨rfl, hC.out.below⟩

end Go.Proofs.YtnghpjijfdpmkaaDoor.metric

