/- The reference's value. The reference's Decode. -/
import Derived.Test.YtamkmdlfhlbbeaaGreatDoorKJ14
import Derived.Deep.AppendLies
import Derived.Deep.RegionLawGrows
import Derived.Test.YtamkmdlfhlbbeaaGreatDoorKSuE
namespace Go.Proofs.YtamkmdlfhlbbeaaGreatDoor.wire
open Go.RowKit Go.Proofs.YtamkmdlfhlbbeaaGreatDoor Go.Proofs.YtamkmdlfhlbbeaaGreatDoor.schema Go.Proofs.YtamkmdlfhlbbeaaGreatDoor.value Go.Proofs.YtamkmdlfhlbbeaaGreatDoor.text Go.Proofs.YtamkmdlfhlbbeaaGreatDoor.clause Go.Proofs.YtamkmdlfhlbbeaaGreatDoor.subj Go.Proofs.YtamkmdlfhlbbeaaGreatDoor.draw

attribute [local go_sem ↓] Go.wp_at_zero Go.wp_at_succ

set_option maxRecDepth 100000 in
set_option maxHeartbeats 16000000 in
theorem getV_ref (M : Mem) (g : Nat) (w : World) (s : St) (hM : Sub M (but g w)) (h : RdR M g w s) :
    Calls Tryz.prog 66 #[.pointer (some ⟨g, 0, none⟩)] w fun e w' => ValIs w.heap.size g (rdV false s).1 e w' ∧ RdR M g w' (rdV false s).2 ∧ w.grownBy w' (some g) := by
  have I := isRdR M g
  have hgl := h.lt
  have hR0 := I.alloc h (.cells zeroVal 51)
  have hG0 := g_alloc (grown_refl w (some g)) (.cells zeroVal 51)
  have hN := Lib.hid (number_ref M g _ s (hM.trans (sub_of_grown hG0)) hR0)
  have hZ0 := Own.new w zeroVal 51
  replace hG0 := Lib.hid hG0
  replace hZ0 := Lib.hid hZ0
  clear h hR0
  unfold zeroVal at hN hG0 hZ0
  go_enter Tryz.func66, Tryz.ntmps66
  go_wp2_with fail
  refine hN.out.mono ?_
  clear hN
  rintro e w1 ⟨rfl, hR1, hG1⟩
  obtain ⟨k, hk⟩ : ∃ k, (rdN s).1 = k := ⟨_, rfl⟩
  obtain ⟨s1, hs1⟩ : ∃ t, (rdN s).2 = t := ⟨_, rfl⟩
  rw [hs1] at hR1
  have hV : GV (RdR M g) g w.heap.size w1.heap.size s1 #[.int .i64 k, .int .i64 0, .string ⟨#[]⟩, .slice none 0 0] w (w1.alloc (.cells #[.int .i64 k, .int .i64 0, .string ⟨#[]⟩, .slice none 0 0] 51)) :=
    ⟨I.alloc hR1 _, g_alloc (g_call hG0.out hG1) _, (hZ0.out.kept hG1 (by simp; omega)).alloc _, Own.new w1 _ _, hgl, Nat.le_refl _, by have := hG1.size; simp at this; omega⟩
  replace hV := Lib.hid hV
  replace I := Lib.hid I
  replace hM := Lib.hid hM
  have hlow : Hid (w.heap.size < w1.heap.size) := Lib.hid (by have := hG1.size; simp at this; omega)
  clear hR1 hG1 hG0 hZ0
  rw [hk]
  by_cases h12 : k = 1 ∨ k = 2
  · have hE := Lib.hid (rdV_12 (b := false) (s := s) (by rw [hk]; exact h12))
    rw [hk, hs1] at hE
    replace hk := Lib.hid hk
    rcases h12 with rfl | rfl
    · go_wp2_with fail
      obtain ⟨gv, hgv⟩ : ∃ v, v = w1.heap.size := ⟨_, rfl⟩
      rw [← hgv] at hV hlow ⊢
      generalize World.alloc w1 _ = w2 at hV ⊢
      clear hgv
      refine (number_ref M g w2 s1 (hM.out.trans (sub_of_grown hV.out.grown)) hV.out.rd).mono ?_
      rintro e w3 ⟨rfl, hR3, hG3⟩
      have hV3 := Lib.hid (hV.out.call hG3 hR3)
      obtain ⟨x, hx⟩ : ∃ x, Hid ((rdN s1).1 = x) := ⟨_, Lib.hid rfl⟩
      rw [hx.out]
      rw [hx.out] at hE
      obtain ⟨⟨⟨y0, y1, y2, y3⟩, f0, f1, f2, f3⟩, ⟨⟨z0, z1, z2, z3⟩, g0, g1, g2, g3⟩, hvl, hrl, hrv, hvr⟩ := hV3.out.cells
      have hwr := hV3.out.wr
      have hS := Lib.hid ((hV3.out.set I.out 1 (.int .i64 x)).fin I.out)
      clear hR3 hG3 hV
      go_wp2
      refine bodyPost_ret (v := .agg #[.int .i64 1, .int .i64 x, .string ⟨#[]⟩, .slice none 0 0]) (by simp [results, Tryz.results66, go_sem, z0, z1, z2, z3]) rfl ?_
      refine ⟨⟨⟨_, x, ⟨#[]⟩, none, 0, 0, []⟩, rfl, by rw [hE.out]; exact ⟨rfl, rfl, rfl, rfl⟩, LAt.flat _ _ _ _ (by decide)⟩, ?_⟩
      rw [hE.out]
      exact hS.out _ _ _ _
    · go_wp2_with fail
      obtain ⟨gv, hgv⟩ : ∃ v, v = w1.heap.size := ⟨_, rfl⟩
      rw [← hgv] at hV hlow ⊢
      generalize World.alloc w1 _ = w2 at hV ⊢
      clear hgv
      refine (number_ref M g w2 s1 (hM.out.trans (sub_of_grown hV.out.grown)) hV.out.rd).mono ?_
      rintro e w3 ⟨rfl, hR3, hG3⟩
      have hV3 := Lib.hid (hV.out.call hG3 hR3)
      obtain ⟨x, hx⟩ : ∃ x, Hid ((rdN s1).1 = x) := ⟨_, Lib.hid rfl⟩
      rw [hx.out]
      rw [hx.out] at hE
      obtain ⟨⟨⟨y0, y1, y2, y3⟩, f0, f1, f2, f3⟩, ⟨⟨z0, z1, z2, z3⟩, g0, g1, g2, g3⟩, hvl, hrl, hrv, hvr⟩ := hV3.out.cells
      have hwr := hV3.out.wr
      have hS := Lib.hid ((hV3.out.set I.out 1 (.int .i64 x)).fin I.out)
      clear hR3 hG3 hV
      go_wp2
      refine bodyPost_ret (v := .agg #[.int .i64 2, .int .i64 x, .string ⟨#[]⟩, .slice none 0 0]) (by simp [results, Tryz.results66, go_sem, z0, z1, z2, z3]) rfl ?_
      refine ⟨⟨⟨_, x, ⟨#[]⟩, none, 0, 0, []⟩, rfl, by rw [hE.out]; exact ⟨rfl, rfl, rfl, rfl⟩, LAt.flat _ _ _ _ (by decide)⟩, ?_⟩
      rw [hE.out]
      exact hS.out _ _ _ _
  by_cases h5 : k = 5
  · subst h5
    have hE := Lib.hid (rdV_5 (b := false) (s := s) hk)
    rw [hs1] at hE
    replace hk := Lib.hid hk
    obtain ⟨i0, hi, hz0, hz1, hz2⟩ := info_parts info9s
    go_wp2_with fail
    obtain ⟨gv, hgv⟩ : ∃ v, v = w1.heap.size := ⟨_, rfl⟩
    rw [← hgv] at hV hlow ⊢
    generalize World.alloc w1 _ = w2 at hV ⊢
    clear hgv
    refine (count_ref M g w2 s1 (hM.out.trans (sub_of_grown hV.out.grown)) 20 (by decide) hV.out.rd).mono ?_
    rintro e w3 ⟨rfl, hR3, hG3⟩
    have hV3 := Lib.hid (hV.out.call hG3 hR3)
    have hn20 := rdLen_few (m := 20) (by decide) s1
    obtain ⟨n, hn⟩ : ∃ n, (rdLen 20 s1).1 = n := ⟨_, rfl⟩
    obtain ⟨s2, hs2⟩ : ∃ t, (rdLen 20 s1).2 = t := ⟨_, rfl⟩
    rw [hn] at hn20 ⊢
    rw [hs2] at hV3
    rw [hn, hs2] at hE
    have hst := Lib.hid (show RelT (RdR M g) g w.heap.size gv n s2 0 w w3 from ⟨none, 0, [], s2, RepAt.start _ _ _, (fun t ht => by cases ht), hV3.out, World.ownsRow_nil w3 (gv + 1) _ _⟩)
    clear hR3 hG3 hV hV3 hn hs2
    go_wp2_with fail
    go_loopw [5] (fun s5 wr => ∃ j : Nat, j ≤ n ∧ s5 = .int .i64 j ∧ Hid (RelT (RdR M g) g w.heap.size gv n s2 j w wr)) (fun s5 _ => n - (intOf s5).toNat)
    case atStart => exact ⟨0, by omega, by simp, hst⟩
    case round =>
      clear hst
      obtain ⟨j, hj, rfl, hR⟩ := hrel
      obtain ⟨va, vc, acc, sj, hA, hF, hV, hown⟩ := hR.out
      clear hR
      replace hV := Lib.hid hV
      by_cases hlt : j < n
      case neg =>
        obtain rfl : j = n := by omega
        have hrep := hA.done
        rw [hrep] at hE
        have hlen := hA.len
        obtain ⟨⟨⟨y0, y1, y2, y3⟩, f0, f1, f2, f3⟩, ⟨⟨z0, z1, z2, z3⟩, g0, g1, g2, g3⟩, hvl, hrl, hrv, hvr⟩ := hV.out.cells
        have hwr := hV.out.wr
        have hgw := hV.out.gw
        have hS := Lib.hid (hV.out.fin I.out)
        have hL := Lib.hid (list_fin (B := w.heap.size) (g := g) hown hlen hF (by omega) hV.out.rv (Nat.le_refl _) hgw)
        replace hA := Lib.hid hA
        replace hF := Lib.hid hF
        replace hown := Lib.hid hown
        replace hlen := Lib.hid hlen
        have c0 : ¬ (0 : Int) < (j : Int) - (j : Int) := by omega
        go_wp2
        refine bodyPost_ret (v := .agg #[.int .i64 5, .int .i64 0, .string ⟨#[]⟩, .slice va j vc]) (by simp [results, Tryz.results66, go_sem, z0, z1, z2, z3]) rfl ?_
        refine ⟨⟨⟨5, 0, ⟨#[]⟩, va, j, vc, acc.map fun t => ⟨t.toArray⟩⟩, rfl, by rw [hE.out]; exact ⟨rfl, rfl, rfl, rfl⟩, hL.out _ _ _ _⟩, ?_⟩
        rw [hE.out]
        exact hS.out _ _ _ _
      have hlow2 := hlow.out
      have hV4 := Lib.hid (hV.out.drew I.out)
      have hT := Lib.hid (rtext_ref M g wr.drew sj (hM.out.trans (sub_of_grown hV4.out.grown)) 200 (by decide) hV4.out.rd)
      obtain ⟨⟨⟨y0, y1, y2, y3⟩, f0, f1, f2, f3⟩, -, hvl, -, -, -⟩ := hV.out.cells
      have c0 : (0 : Int) < (n : Int) - (j : Int) := by omega
      have hgw := hV.out.gw
      have hwr := hV.out.wr
      have hrv := hV.out.rv
      replace hA := Lib.hid hA
      replace hF := Lib.hid hF
      replace hown := Lib.hid hown
      go_wp2_with fail
      go_region_law
        ((first
          | (refine step_append_lies _ (by rfl) _ _ _ (by rfl) (gv + 1) 9 i0 (.string ⟨#[]⟩) 1 16 Tryz.underlying46 hi hz0 hz1 hz2 rfl (by omega) (.slice va j vc) j _ (by rfl) (hown5.out.alloc _) ⟨w5.heap.size, 0, none⟩ 1 1 [sv (rdT 200 sj).1] (by rfl) (by rfl) (World.news_of_block (cs := #[sv (rdT 200 sj).1]) (t := 9) (fr := (0, 0)) (heap_alloc_new w5 _)) (by simp [sv, Value.oneCell']) (by omega) (by unfold maxLen; omega) (by omega) (by simp; omega) (w5.heap.size + 1) (by simp) ?_; intro gg cap w6 hown6 hgrow6 hat hlt6; have hV6 := Lib.hid ((hV5.out.alloc I.out _).app I.out (hown5.out.alloc _) hgrow6); obtain ⟨⟨⟨u0, u1, u2, u3⟩, k0, k1, k2, k3⟩, -, hul, -, -, -⟩ := hV6.out.cells)
          | (go_simp; go_at_call 65; refine hT.out.mono ?_; rintro e w5 ⟨rfl, hR5, hG5⟩; have hV5 := Lib.hid (hV4.out.call hG5 hR5); have hown5 := Lib.hid (owns_kept (owns_drew hown.out) hG5 (by omega)); obtain ⟨⟨⟨x0, x1, x2, x3⟩, e0, e1, e2, e3⟩, -, hxl, -, -, -⟩ := hV5.out.cells; clear hR5 hG5)))
      all_goals
        have hN := Lib.hid (relT_next I.out hlt hA.out hF.out hV5.out hown5.out hgrow6 hown6)
        clear hgrow6 hown6 hat
        go_wp2
        go_roundw
        case rel => exact ⟨j + 1, by omega, by first | (go_num) | (congr 1; omega), hN⟩
        case measure => simp [intOf]; omega
  · have hE := Lib.hid (rdV_34 (b := false) (s := s) (by rw [hk]; exact h12) (by rw [hk]; omega) (by rw [hk]; exact Or.inr (Or.inr rfl)))
    rw [hk, hs1] at hE
    replace hk := Lib.hid hk
    have d1 : ¬ k = 1 := by omega
    have d2 : ¬ k = 2 := by omega
    · go_wp2_with fail
      obtain ⟨gv, hgv⟩ : ∃ v, v = w1.heap.size := ⟨_, rfl⟩
      rw [← hgv] at hV hlow ⊢
      generalize World.alloc w1 _ = w2 at hV ⊢
      clear hgv
      refine (rtext_ref M g w2 s1 (hM.out.trans (sub_of_grown hV.out.grown)) 200 (by decide) hV.out.rd).mono ?_
      rintro e w3 ⟨rfl, hR3, hG3⟩
      have hV3 := Lib.hid (hV.out.call hG3 hR3)
      obtain ⟨x, hx⟩ : ∃ x : ByteArray, Hid ((⟨(rdT 200 s1).1.toArray⟩ : ByteArray) = x) := ⟨_, Lib.hid rfl⟩
      have hxz : x.size ≤ 200 := by
        have := rdT_few (m := 200) (by decide) s1
        rw [← hx.out]
        show (rdT 200 s1).1.toArray.size ≤ 200
        simp
        omega
      rw [hx.out]
      rw [hx.out] at hE
      obtain ⟨⟨⟨y0, y1, y2, y3⟩, f0, f1, f2, f3⟩, ⟨⟨z0, z1, z2, z3⟩, g0, g1, g2, g3⟩, hvl, hrl, hrv, hvr⟩ := hV3.out.cells
      have hwr := hV3.out.wr
      have hS := Lib.hid ((hV3.out.set I.out 2 (.string x)).fin I.out)
      replace hxz := Lib.hid hxz
      clear hR3 hG3 hV
      go_wp2
      refine bodyPost_ret (v := .agg #[.int .i64 k, .int .i64 0, .string x, .slice none 0 0]) (by simp [results, Tryz.results66, go_sem, z0, z1, z2, z3]) rfl ?_
      refine ⟨⟨⟨_, 0, x, none, 0, 0, []⟩, rfl, by rw [hE.out]; exact ⟨rfl, rfl, rfl, rfl⟩, LAt.flat _ _ _ _ (by have := hxz.out; omega)⟩, ?_⟩
      rw [hE.out]
      exact hS.out _ _ _ _

end Go.Proofs.YtamkmdlfhlbbeaaGreatDoor.wire

namespace Go.Proofs.YtamkmdlfhlbbeaaGreatDoor.wire
open Go.RowKit Go.Proofs.YtamkmdlfhlbbeaaGreatDoor Go.Proofs.YtamkmdlfhlbbeaaGreatDoor.schema Go.Proofs.YtamkmdlfhlbbeaaGreatDoor.value Go.Proofs.YtamkmdlfhlbbeaaGreatDoor.text Go.Proofs.YtamkmdlfhlbbeaaGreatDoor.clause Go.Proofs.YtamkmdlfhlbbeaaGreatDoor.subj Go.Proofs.YtamkmdlfhlbbeaaGreatDoor.draw

attribute [local go_sem ↓] Go.wp_at_zero Go.wp_at_succ

set_option maxRecDepth 100000 in
set_option maxHeartbeats 16000000 in
theorem decode_ref (a : Option Addr) (n c : Nat) (l : List UInt8) (w : World) (h : BV w.cell? (.slice a n c) l) (_hn : n ≤ 1073741824) (hT : STabs w) :
    Calls Tryz.prog 30 #[.slice a n c] w fun e w' => DecIs l e w' ∧ Below w.heap.size w w' := by
  have hb0 : Below w.heap.size w (w.alloc (.cells #[.slice none 0 0] 24)) := (Below.refl _ _).alloc (Nat.le_refl _) _
  have hNew := Lib.hid (new_ref a n c l _ (h.mono (sub_of_below hb0)))
  have hZ0 := Own.new w #[.slice none 0 0] 24
  replace hZ0 := Lib.hid hZ0
  replace hb0 := Lib.hid hb0
  replace hT := Lib.hid hT
  clear h _hn
  obtain ⟨i0, hi0, hz0, hz1, hz2⟩ := info_parts info3
  obtain ⟨j0, hj0, hy0, hy1, hy2⟩ := info_parts info5
  go_enter Tryz.func30, Tryz.ntmps30
  go_wp2_with fail
  refine hNew.out.mono ?_
  clear hNew
  rintro e w1 ⟨g, rfl, hgg, hR1, hb1⟩
  have I := Lib.hid (isRdR (but g w1) g)
  have hlow := Lib.hid (hb0.out.trans (hb1.mono hb0.out.size))
  have hgr : w.heap.size < g := by simp at hgg; omega
  have hO : DO (RdR (but g w1) g) g w.heap.size w1.heap.size (some l) (.slice none 0 0) w1 (w1.alloc (.cells #[.slice none 0 0] 24)) :=
    ⟨I.out.alloc hR1 _, g_alloc (grown_refl w1 (some g)) _, (hZ0.out.below hb1 hZ0.out.lt).alloc _, Own.new w1 _ _, hgr, I.out.lt hR1, Nat.le_refl _⟩
  replace hO := Lib.hid hO
  clear hR1 hb1 hZ0 hb0 hgg
  go_wp2_with fail
  obtain ⟨gs, hgs⟩ : ∃ v, Hid (v = w1.heap.size) := ⟨_, Lib.hid rfl⟩
  rw [← hgs.out] at hO ⊢
  generalize World.alloc w1 _ = u0 at hO ⊢
  refine (count_ref (but g w1) g u0 (some l) (sub_of_grown hO.out.grown) 4 (by decide) hO.out.rd).mono ?_
  rintro e u1 ⟨rfl, hR, hG⟩
  have hO1 := Lib.hid (hO.out.call hG hR)
  have hn4 := rdLen_few (m := 4) (by decide) (some l)
  obtain ⟨N, hN⟩ : ∃ n, Hid ((rdLen 4 (some l)).1 = n) := ⟨_, Lib.hid rfl⟩
  obtain ⟨s0, hs0⟩ : ∃ t, Hid ((rdLen 4 (some l)).2 = t) := ⟨_, Lib.hid rfl⟩
  rw [hN.out] at hn4 ⊢
  rw [hs0.out] at hO1
  have hst := Lib.hid (show RelO (RdR (but g w1) g) false g w.heap.size gs N s0 w1 0 u1 from ⟨none, 0, [], [], s0, RepAt.start _ _ _, alike_nil _, (fun c hc => by cases hc), (fun c hc => by cases hc), hO1.out, World.ownsRow_nil u1 (gs + 1) _ _⟩)
  clear hR hG hO hO1
  go_wp2_with fail
  go_loopw [7] (fun s7 wr => ∃ i : Nat, i ≤ N ∧ s7 = .int .i64 i ∧ Hid (RelO (RdR (but g w1) g) false g w.heap.size gs N s0 w1 i wr)) (fun s7 _ => N - (intOf s7).toNat)
  case atStart => exact ⟨0, by omega, by simp, hst⟩
  case round =>
    clear hst
    obtain ⟨i, hi, rfl, hR⟩ := hrel
    by_cases hlt : i < N
    case neg =>
      obtain rfl : i = N := by omega
      obtain ⟨va, vc, acc, hal, hnm, hD, hS⟩ := relO_done (l := l) hN.out (by rw [hs0.out]; exact hR.out)
      clear hR
      replace hal := Lib.hid hal
      replace hnm := Lib.hid hnm
      have hD1 := Lib.hid hD
      have hEnd := Lib.hid (end_ref (but g w1) g wr _ hD.rd)
      have hgw := hD.gw
      have hws := hD.ws
      have hw1 := hlow.out.size
      have hSS : SAt (newM (gs + 1) g wr) (.slice va i vc) acc := hS
      replace hS := Lib.hid hSS
      clear hD hSS
      have cN : ¬ (i : Int) < (i : Int) := by omega
      go_wp2_with fail
      refine hEnd.out.mono ?_
      clear hEnd
      rintro e w' ⟨⟨r, rfl, hr⟩, hw'⟩
      obtain ⟨q, rfl⟩ := hw'
      have hDe := Lib.hid (hD1.out.call (grown_drewN wr q _) (RdR.drewN hD1.out.rd q))
      have hSe := Lib.hid (show SAt (newM (gs + 1) g (wr.drewN q)) (.slice va i vc) acc from hS.out)
      generalize wr.drewN q = we at hDe hSe ⊢
      have hDl : Below w.heap.size w we := hlow.out.grown hDe.out.grown hw1 (fun k hk => by injection hk with hk; omega)
      have hSc : SAt we.cell? (.slice va i vc) acc := hSe.out.mono (Sub.trans (newM_but _ _ _) (but_sub _ _))
      have hTe := hT.out.below hDl
      have hChk := Lib.hid (scheck_ref acc va i vc _ hSc hnm.out.nm hTe)
      have q0 := hDe.out.sub.cell 0
      have q1 := hDe.out.sub.lt
      have r0 := hDe.out.res.cell 0
      have r1 := hDe.out.res.free 0
      have r2 := hDe.out.res.lt
      simp only [List.getElem?_toArray, List.getElem?_cons_zero] at q0 r0
      replace hDl := Lib.hid hDl
      replace hSc := Lib.hid hSc
      clear hTe
      by_cases hfin : (rdS false l).2 = some []
      case neg =>
        have hr0 : ¬ r = 0 := fun e => hfin (hr.1 e)
        have hr1 : (r == 0) = false := by simpa using hr0
        have hbad := Lib.hid (fun (w : World) => decIs_bad (bb := false) (l := l) (w := w) (fun h => hfin h.1))
        clear hr
        replace hfin := Lib.hid hfin
        go_wp2
        refine bodyPost_ret (v := .tuple #[.agg #[.slice none 0 0], .int .i64 1]) (by simp [results, Tryz.results30, go_sem, r0]) rfl ?_
        exact ⟨hbad.out _, Below.setCell hDl.out (by simp) _⟩
      have hr0 : r = 0 := hr.2 hfin
      subst hr0
      clear hr
      go_wp2_with fail
      refine hChk.out.mono ?_
      clear hChk
      rintro e w7 ⟨rfl, hb7⟩
      rw [sub_alike hal.out]
      have hDl7 := Lib.hid (hDl.out.trans (hb7.mono hDl.out.size))
      have hSub7 := hDe.out.sub.below hb7 hDe.out.sub.lt
      have hRes7 := hDe.out.res.below hb7 hDe.out.res.lt
      have hS7 := Lib.hid (hSc.out.mono (sub_of_below hb7))
      have hSz := Lib.hid (show SAt (newM (gs + 1) g w7) (.slice va i vc) acc from hSe.out.mono (newM_grown (grown_of_below hb7 (some g))))
      clear q0 q1 r0 r1 r2 hb7
      have q0 := hSub7.cell 0
      have q1 := hSub7.lt
      have r0 := hRes7.cell 0
      have r1 := hRes7.free 0
      have r2 := hRes7.lt
      simp only [List.getElem?_toArray, List.getElem?_cons_zero] at q0 r0
      replace hSub7 := Lib.hid hSub7
      replace hRes7 := Lib.hid hRes7
      obtain ⟨z, hz⟩ : ∃ z, subS (rdS false l).1 = z := ⟨_, rfl⟩
      rw [hz]
      by_cases hz0' : z = 0
      case neg =>
        have hz1' : (z == 0) = false := by simpa using hz0'
        have hbad := Lib.hid (fun (w : World) => decIs_bad (bb := false) (l := l) (w := w) (fun h => hz0' (hz.symm.trans h.2)))
        replace hz := Lib.hid hz
        replace hfin := Lib.hid hfin
        go_wp2
        refine bodyPost_ret (v := .tuple #[.agg #[.slice none 0 0], .int .i64 1]) (by simp [results, Tryz.results30, go_sem, r0]) rfl ?_
        exact ⟨hbad.out _, Below.setCell hDl7.out (by simp) _⟩
      subst hz0'
      have hgood := Lib.hid (fun (w : World) h => decIs_good (bb := false) (l := l) (w := w) (a := va) (n := i) (c := vc) (l' := acc) hfin hz hal.out h)
      have hrg := Lib.hid hDe.out.rg
      replace hz := Lib.hid hz
      replace hfin := Lib.hid hfin
      go_wp2
      refine bodyPost_ret (v := .tuple #[.agg #[.slice va i vc], .int .i64 0]) (by simp [results, Tryz.results30, go_sem, r0]) rfl ?_
      refine ⟨hgood.out _ (hSz.out.mono (Sub.trans (newM_set (by have := hrg.out; simp; omega) _) (Sub.trans (newM_but _ _ _) (but_sub _ _)))), Below.setCell hDl7.out (by simp) _⟩
    obtain ⟨va, vc, acc, plain, s, hA, hAl, hNm, hLs, hO, hown⟩ := hR.out
    clear hR
    have hgw := hO.gw
    have hws := hO.ws
    have cN : (i : Int) < (N : Int) := by omega
    replace hO := Lib.hid hO
    go_wp2_with fail
    refine (rtext_ref (but g w1) g wr s (sub_of_grown hO.out.grown) 32 (by decide) hO.out.rd).mono ?_
    rintro e u2 ⟨rfl, hR2, hG2⟩
    have hO2 := Lib.hid (hO.out.call hG2 hR2)
    have hown2 := Lib.hid (owns_kept hown hG2 (by omega))
    have hLs2 := Lib.hid (fun c hc => (hLs c hc).mono (newG_grown hG2))
    obtain ⟨kind, hkind⟩ : ∃ k : ByteArray, Hid (k = ⟨(rdT 32 s).1.toArray⟩) := ⟨_, Lib.hid rfl⟩
    rw [← hkind.out]
    clear hR2 hG2 hO hown hLs
    go_wp2_with fail
    refine (rtext_ref (but g w1) g u2 (rdT 32 s).2 (sub_of_grown hO2.out.grown) 200 (by decide) hO2.out.rd).mono ?_
    rintro e u3 ⟨rfl, hR3, hG3⟩
    have hO3 := Lib.hid (hO2.out.call hG3 hR3)
    have hown3 := Lib.hid (owns_kept hown2.out hG3 (by omega))
    have hLs3 := Lib.hid (fun c hc => (hLs2.out c hc).mono (newG_grown hG3))
    have hkey200 := rdT_few (m := 200) (by decide) (rdT 32 s).2
    obtain ⟨key, hkey⟩ : ∃ k : ByteArray, Hid (k = ⟨(rdT 200 (rdT 32 s).2).1.toArray⟩) := ⟨_, Lib.hid rfl⟩
    have hkz : Hid (key.size ≤ 200) := Lib.hid (by rw [hkey.out]; show (rdT 200 (rdT 32 s).2).1.toArray.size ≤ 200; simp; omega)
    rw [← hkey.out]
    obtain ⟨s2, hs2⟩ : ∃ t, Hid ((rdT 200 (rdT 32 s).2).2 = t) := ⟨_, Lib.hid rfl⟩
    rw [hs2.out] at hO3 hR3
    have hg3 : g < u3.heap.size := I.out.lt hR3
    have hI : DI (RdR (but g w1) g) g u3.heap.size s2 kind key (.slice none 0 0) u3 (u3.alloc (.cells #[.string kind, .string key, .slice none 0 0] 37)) :=
      ⟨I.out.alloc hR3 _, g_alloc (grown_refl u3 (some g)) _, Own.new u3 _ _, hg3, Nat.le_refl _⟩
    replace hI := Lib.hid hI
    have hs3 : gs < u3.heap.size := hO3.out.sub.lt
    clear hR3 hG3 hO2 hown2 hLs2 hkey200
    go_wp2_with fail
    obtain ⟨gc, hgc⟩ : ∃ v, v = u3.heap.size := ⟨_, rfl⟩
    rw [← hgc] at hI hs3 hg3 ⊢
    generalize World.alloc u3 _ = u4 at hI ⊢
    refine (count_ref (but g w1) g u4 s2 (sub_of_grown (g_call hO3.out.grown hI.out.grown)) 20 (by decide) hI.out.rd).mono ?_
    rintro e u5 ⟨rfl, hR5, hG5⟩
    have hI5 := Lib.hid (hI.out.call hG5 hR5)
    have hm20 := rdLen_few (m := 20) (by decide) s2
    obtain ⟨m, hm⟩ : ∃ n, Hid ((rdLen 20 s2).1 = n) := ⟨_, Lib.hid rfl⟩
    obtain ⟨s3, hs3'⟩ : ∃ t, Hid ((rdLen 20 s2).2 = t) := ⟨_, Lib.hid rfl⟩
    rw [hm.out] at hm20 ⊢
    rw [hs3'.out] at hI5
    have hst2 := Lib.hid (show RelI (RdR (but g w1) g) false g gc m s3 kind key u3 0 u5 from ⟨none, 0, [], [], s3, RepAt.start _ _ _, alike_nil _, (fun c hc => by cases hc), (fun c hc => by cases hc), hI5.out, World.ownsRow_nil u5 (gc + 1) _ _⟩)
    replace hgc := Lib.hid hgc
    replace hA := Lib.hid hA
    replace hAl := Lib.hid hAl
    replace hNm := Lib.hid hNm
    clear hR5 hG5 hI hI5
    go_wp2_with fail
    go_loopw [10] (fun s10 wq => ∃ j : Nat, j ≤ m ∧ s10 = .int .i64 j ∧ Hid (RelI (RdR (but g w1) g) false g gc m s3 kind key u3 j wq)) (fun s10 _ => m - (intOf s10).toNat)
    case atStart => exact ⟨0, by omega, by simp, hst2⟩
    case round =>
      clear hst2
      obtain ⟨j, hj, rfl, hQ⟩ := hrel
      by_cases hjlt : j < m
      case neg =>
        obtain rfl : j = m := by omega
        obtain ⟨va2, vc2, acc2, hal2, hnm2, hC2, hI2⟩ := relI_done (t := s2) hm.out (by rw [hs3'.out]; exact hQ.out) hkz.out
        clear hQ
        have e2 : (rdAs false s2).2 = (rdC false s).2 := by rw [← hs2.out]; rfl
        have hO6 := Lib.hid (hO3.out.call hI2.grown (e2 ▸ hI2.rd))
        have hown6 := Lib.hid (owns_kept hown3.out hI2.grown (by omega))
        have hLs6 := Lib.hid (fun c hc => (hLs3.out c hc).mono (newG_grown hI2.grown))
        have hob := Lib.hid (fun k hk => Nat.lt_succ_of_lt (hgc.out ▸ (hown3.out.lt k hk).2))
        have d0 := hO6.out.sub.cell 0
        have d1 := hO6.out.sub.lt
        obtain ⟨c0, c1, c2⟩ := own3cc hI2.own
        have c3 := hI2.own.lt
        have d2 : gs + 1 ≤ wr.heap.size := by omega
        simp only [List.getElem?_toArray, List.getElem?_cons_zero] at d0
        replace hI2 := Lib.hid hI2
        replace hC2 := Lib.hid hC2
        replace hal2 := Lib.hid hal2
        replace hnm2 := Lib.hid hnm2
        have cM : ¬ (j : Int) < (j : Int) := by omega
        go_wp2_with (at_builtin; refine wpList_append_lies _ rfl _ _ 22 rfl (gs + 1) 37 i0 (.agg #[.string ⟨#[]⟩, .string ⟨#[]⟩, .slice none 0 0]) 3 56 Tryz.underlying22 hi0 hz0 hz1 hz2 rfl (by decide) (.slice va i vc) i (acc.map CT.row).flatten rfl (hown6.out.alloc _) ⟨wr.heap.size, 0, none⟩ 1 1 [.string kind, .string key, .slice va2 j vc2] rfl rfl (World.news_of_block (cs := #[.string kind, .string key, .slice va2 j vc2]) (t := 37) (fr := (0, 0)) (Own.new' rfl)) (by simp [Value.oneCell']) (by omega) (by unfold maxLen; omega) (by omega) (by simp; omega) (wr.heap.size + 1) (by simp) ?_; intro gg cap w6 hown7 hgrow7 hat hlt7; have hO7 := Lib.hid ((hO6.out.alloc I.out _).app I.out (hown6.out.alloc _) hgrow7); have e0 := hO7.out.sub.cell 0; have e1 := hO7.out.sub.free 0; have e3 := hO7.out.sub.lt; simp only [List.getElem?_toArray, List.getElem?_cons_zero] at e0)
        have hN' := Lib.hid (relO_next (gc := gc) I.out hlt hA.out hAl.out hNm.out hLs6.out hO6.out hown6.out hkind.out hkey.out (by rw [hs2.out]; exact hal2.out) hnm2.out hC2.out (by omega) hob.out hgrow7 hat hown7)
        clear hgrow7 hown7 hat
        go_wp2
        go_roundw
        case rel => exact ⟨i + 1, by omega, by first | go_num | (congr 1; omega), hN'⟩
        case measure => simp [intOf]; omega
      obtain ⟨va2, vc2, acc2, plain2, sj, hA2, hAl2, hNm2, hLs2, hI2, hown2⟩ := hQ.out
      clear hQ
      have hgr2 := g_call hO3.out.grown hI2.grown
      have cM : (j : Int) < (m : Int) := by omega
      replace hA2 := Lib.hid hA2
      replace hAl2 := Lib.hid hAl2
      replace hNm2 := Lib.hid hNm2
      obtain ⟨nm, hnm⟩ : ∃ k : ByteArray, Hid (k = ⟨(rdT 32 sj).1.toArray⟩) := ⟨_, Lib.hid rfl⟩
      have hT3 := Lib.hid (rtext_ref (but g w1) g wr sj (sub_of_grown hgr2) 32 (by decide) hI2.rd)
      rw [← hnm.out] at hT3
      replace hI2 := Lib.hid hI2
      replace hown2 := Lib.hid hown2
      replace hLs2 := Lib.hid hLs2
      replace hgr2 := Lib.hid hgr2
      go_wp2_with fail
      refine hT3.out.mono ?_
      clear hT3
      rintro e w3 ⟨rfl, hR4, hG4⟩
      have hI3 := Lib.hid (hI2.out.call hG4 hR4)
      have hI4 := Lib.hid (hI3.out.drew I.out)
      have hown4 := Lib.hid (owns_drew (owns_kept hown2.out hG4 (by omega)))
      have hLs4 := Lib.hid (fun a ha => (show AAt (newG (gc + 1) g (Value.slice va2 j vc2).ownBlock w3.drew) a from AAt.mono (newG_grown hG4) (hLs2.out a ha)))
      have hVc := Lib.hid (getV_ref (but g w1) g w3.drew (rdT 32 sj).2 (sub_of_grown (g_call hO3.out.grown hI4.out.grown)) hI4.out.rd)
      have z2 := hI3.out.own.cell 2
      have zl : gc < w3.heap.size := hI3.out.own.lt
      have zd : gc < w3.drew.heap.size := hI4.out.own.lt
      simp only [List.getElem?_toArray, List.getElem?_cons_succ, List.getElem?_cons_zero] at z2
      clear hR4 hG4
      go_wp2_with fail
      go_region_law
        ((first
          | (refine step_append_lies _ (by rfl) _ _ _ (by rfl) (gc + 1) 79 j0 _ 5 72 Tryz.underlying35 hj0 hy0 hy1 hy2 rfl (by omega) (.slice va2 j vc2) j _ (by rfl) (hown5.out.alloc _) ⟨w5.heap.size, 0, none⟩ 1 1 [.string nm, .int .i64 dv.kind, .int .i64 dv.num, .string dv.text, .slice dv.ptr dv.len dv.cap] (by rfl) (by rfl) (World.news_of_block (cs := #[.string nm, .int .i64 dv.kind, .int .i64 dv.num, .string dv.text, .slice dv.ptr dv.len dv.cap]) (t := 79) (fr := (0, 0)) (heap_alloc_new w5 _)) (by simp [Value.oneCell']) (by omega) (by unfold maxLen; omega) (by omega) (by simp; omega) (w5.heap.size + 1) (by simp) ?_; intro gg cap w6 hown6 hgrow6 hat hlt6; have hI6 := Lib.hid ((hI5.out.alloc I.out _).app I.out (hown5.out.alloc _) hgrow6); have t2 := hI6.out.own.cell 2; have t3 := hI6.out.own.free 2; have t4 := hI6.out.own.lt; simp only [List.getElem?_toArray, List.getElem?_cons_succ, List.getElem?_cons_zero] at t2)
          | (go_simp; go_at_call 66; refine hVc.out.mono ?_; rintro e w5 ⟨⟨dv, rfl, hsv, hLd⟩, hR5, hG5⟩; have hI5 := Lib.hid (hI4.out.call hG5 hR5); have hown5 := Lib.hid (owns_kept hown4.out hG5 (by omega)); have hLs5 := Lib.hid (fun a ha => AAt.mono (newG_grown hG5) (hLs4.out a ha)); have hob2 := Lib.hid (fun k hk => (hown4.out.lt k hk).2); have x2 := hI5.out.own.cell 2; have xl := hI5.out.own.lt; simp only [List.getElem?_toArray, List.getElem?_cons_succ, List.getElem?_cons_zero] at x2; replace hsv := Lib.hid hsv; replace hLd := Lib.hid hLd; clear hR5 hG5)))
      all_goals
        rw [hnm.out] at hown6
        have hN' := Lib.hid (relI_next (B := w3.drew.heap.size) I.out hjlt hA2.out hAl2.out hNm2.out hLs5.out hI5.out hown5.out hsv.out hLd.out (by omega) hob2.out hgrow6 hat hown6)
        clear hgrow6 hown6 hat
        go_wp2
        go_roundw
        case rel => exact ⟨j + 1, by omega, by first | go_num | (congr 1; omega), hN'⟩
        case measure => simp [intOf]; omega

end Go.Proofs.YtamkmdlfhlbbeaaGreatDoor.wire
