/- SubjectTrip: the walk. -/
import Derived.Test.YtamkmdlfhlbbeaaGreatDoorKWrXp
import Derived.Test.YtamkmdlfhlbbeaaGreatDoorKJ13
import Derived.Test.YtamkmdlfhlbbeaaGreatDoorKSuP
import Derived.Test.YtamkmdlfhlbbeaaGreatDoorKSuA
import Derived.Test.YtamkmdlfhlbbeaaGreatDoorKSuV
import Derived.Test.YtamkmdlfhlbbeaaGreatDoorKJ16
import Derived.Deep.RegionHeld3
namespace Go.Proofs.YtamkmdlfhlbbeaaGreatDoor.subj
open Go.RowKit Go.Sort Go.Proofs.YtamkmdlfhlbbeaaGreatDoor Go.Proofs.YtamkmdlfhlbbeaaGreatDoor.schema Go.Proofs.YtamkmdlfhlbbeaaGreatDoor.value Go.Proofs.YtamkmdlfhlbbeaaGreatDoor.text Go.Proofs.YtamkmdlfhlbbeaaGreatDoor.clause Go.Proofs.YtamkmdlfhlbbeaaGreatDoor.draw Go.Proofs.YtamkmdlfhlbbeaaGreatDoor.wire

attribute [local go_sem ↓] Go.wp_at_zero Go.wp_at_succ

theorem pairs_alike {l' p l : List CT} (h : subj.Alike SameC l' p) (h2 : subj.Alike SameC l p) : Pairs CEq l' l :=
  ⟨h.1.trans h2.1.symm, fun i h1 h3 => ceq_two (h.2 i h1 (by have := h.1; omega)) (h2.2 i h3 (by have := h.1; omega))⟩
theorem same_nm (l : List CT) : subj.Alike SameC l (l.map nmC) := ⟨by simp, fun i h1 h2 => by rw [List.getElem_map]; exact ⟨rfl, rfl, ⟨by simp [nmC], fun k h3 h4 => by simp only [nmC, List.getElem_map]; exact ⟨rfl, rfl, rfl, rfl, rfl⟩⟩⟩⟩

set_option maxRecDepth 100000 in
set_option maxHeartbeats 16000000 in
theorem trip_walk (a : Option Addr) (n c : Nat) (sa : Option Addr) (sn sc : Nat) (ls : List CT) (w : World) (h : BytesAt w.cell? a n c) (hSs : SAt w.cell? (.slice sa sn sc) ls) (hNs : Nm ls) (hg : ∀ b, w.heap.size ≤ b → Glob (but b w)) (hT : STabs w) :
    Calls Tryz.prog 7 #[.agg #[.slice sa sn sc], .slice a n c] w fun e w' => e = .returned (.bool true) ∧ Below w.heap.size w w' := by
  have hB0 : Below w.heap.size w (w.alloc (.cells #[.slice sa sn sc] 24)) := (Below.refl _ _).alloc (Nat.le_refl _) _
  have hOs := Lib.hid (Own.new w #[.slice sa sn sc] 24)
  have hA := Lib.hid h
  have hg0 := Lib.hid hg
  have hT0 := Lib.hid hT
  replace hSs := Lib.hid hSs
  replace hNs := Lib.hid hNs
  replace hB0 := Lib.hid hB0
  clear h hg hT
  go_enter Tryz.func7, Tryz.ntmps7
  go_wp2_with fail
  generalize w.alloc (.cells #[.slice sa sn sc] 24) = w0 at hB0 hOs ⊢
  obtain ⟨gs, hgs⟩ : ∃ g : Nat, Hid (g = w.heap.size) := ⟨_, Lib.hid rfl⟩
  rw [← hgs.out] at hOs ⊢
  refine (sawake_any _ (hT0.out.below hB0.out)).mono ?_
  rintro e w1 ⟨rfl, hb1⟩
  have hB1 := Lib.hid (hB0.out.trans (hb1.mono hB0.out.size))
  have hOs1 := hOs.out.below hb1 hOs.out.lt
  have s0 := hOs1.cell 0
  simp only [List.getElem?_toArray, List.getElem?_cons_zero] at s0
  have hsl := hOs1.lt
  replace hOs1 := Lib.hid hOs1
  clear hb1 hB0 hOs
  go_wp2_with fail
  refine (small_any ls sa sn sc _ (hSs.out.mono (sub_of_below hB1.out))).mono ?_
  rintro e w2 ⟨rfl, hb2⟩
  have hB2 := Lib.hid (hB1.out.trans (hb2.mono hB1.out.size))
  have hOs2 := Lib.hid (hOs1.out.below hb2 hsl)
  clear hb2 hB1 hOs1 s0 hsl
  cases hsm : smallB ls
  case false =>
    clear hsm
    go_wp2
    go_ret
    exact ⟨rfl, hB2.out⟩
  clear hsm
  go_wp2_with fail
  refine (draw.new_any a n c 80 _ (by omega) (by omega) (hA.out.mono (sub_of_below hB2.out))).mono ?_
  rintro e w3 ⟨rfl, ⟨a', n', c', hC⟩, hb3⟩
  have hsz : w.heap.size ≤ w2.heap.size := hB2.out.size
  have hlt := hC.lt
  have hge : gs < w2.heap.size := hOs2.out.lt
  have hB3 := Lib.hid (hB2.out.trans (hb3.mono hsz))
  have hOs3 := Lib.hid (hOs2.out.below hb3 hOs2.out.lt)
  have hC3 := Lib.hid hC
  have hg3 := Lib.hid ((hg0.out w2.heap.size hsz).mono (sub_of_grown (grown_of_below ((hB2.out.trans (hb3.mono hsz)).mono (Nat.le_refl _)) _)))
  clear hC hb3 hB2 hOs2
  go_wp2_with fail
  refine (subject_any w2.heap.size a' n' c' _ hC3.out hg3.out).mono ?_
  rintro e w4 ⟨⟨va, vn, vc, l, rfl, hok, hS4⟩, hH4, hG4⟩
  have hG5 : w3.grownBy (w4.alloc (.cells #[.slice va vn vc] 24)) (some w2.heap.size) := g_alloc hG4 _
  have hC5 := Lib.hid (hC3.out.still hG5 (hH4.alloc _))
  have hg5 := Lib.hid (hg3.out.mono (sub_of_grown hG5))
  have hB5 := Lib.hid (hB3.out.trans (below_of_grown hG5 hB3.out.size hsz))
  have hOx5 := Lib.hid (Own.new w4 #[.slice va vn vc] 24)
  have hOs5 := Lib.hid (hOs3.out.kept hG5 (by simp; omega))
  have hS5 := Lib.hid ((hS4.mono (newM_grown (g_alloc (grown_refl w4 (some w2.heap.size)) (.cells #[.slice va vn vc] 24)))).mono (newM_but _ _ _))
  have hx4 : w2.heap.size < w4.heap.size := hH4.lt
  replace hok := Lib.hid hok
  clear hG5 hG4 hH4 hS4 hC3 hg3 hB3 hOs3
  go_wp2_with fail
  generalize w4.alloc (.cells #[.slice va vn vc] 24) = w5 at hC5 hg5 hB5 hOx5 hOs5 hS5 ⊢
  obtain ⟨gx, hgx⟩ : ∃ g : Nat, g = w4.heap.size := ⟨_, rfl⟩
  rw [← hgx] at hOx5 hx4 ⊢
  clear hgx
  have x0 := hOx5.out.cell 0
  have y0 := hOs5.out.cell 0
  simp only [List.getElem?_toArray, List.getElem?_cons_zero] at x0 y0
  go_cut [29, 30, 31] (fun t29 t30 t31 wy => ∃ (gy : Nat) (ua : Option Addr) (un uc : Nat) (lu : List CT), t29 = .slice (some ⟨gy, 0, none⟩) 3 3 ∧ t30 = .int .i64 3 ∧ t31 = .int .i64 0 ∧ Hid (Own wy gy #[.slice sa sn sc, .slice va vn vc, .slice ua un uc] 24) ∧ Hid (Nm lu) ∧ Hid (SAt wy.cell? (.slice ua un uc) lu) ∧ Hid (w5.grownBy wy (some w2.heap.size)))
  case first =>
    have hKp : Hid (∀ u : World, w5.grownBy u (some w2.heap.size) → u.cell? ⟨gx, 0, none⟩ = some (.slice va vn vc) ∧ u.cell? ⟨gs, 0, none⟩ = some (.slice sa sn sc)) := Lib.hid fun u hu => ⟨hu.cell x0 (by simp; omega), hu.cell y0 (by simp; omega)⟩
    have cA := Lib.hid (spoil_any w2.heap.size a' n' c' va vn vc l w5.drew hC5.out.drew hg5.out hS5.out hok.out.1.len (okSub_nmR hok.out.1) (okSub_fewR hok.out.1))
    clear x0 y0
    go_region_held3 (fun u => u.cell? ⟨gx, 0, none⟩ = some (.slice va vn vc) ∧ u.cell? ⟨gs, 0, none⟩ = some (.slice sa sn sc))
      (exact hKp.out _ (by repeat (first | assumption | exact grown_refl _ _ | apply g_drew | apply g_alloc)))
      ((go_at_call 14; (with_reducible refine cA.out.mono ?_); rintro e u1 ⟨⟨ua, un, uc, lu, rfl, ⟨-, hNu, -⟩, hS6⟩, hH6, hG6⟩; have hz1 : w5.grownBy u1 (some w2.heap.size) := grown_trans (grown_drew w5 _) hG6; replace hNu := Lib.hid hNu; replace hS6 := Lib.hid ((hS6.mono (but_sub _ _)).mono (sub_of_below ((Below.refl u1.heap.size u1).alloc (Nat.le_refl _) (.cells #[.slice sa sn sc, .slice va vn vc, .slice ua un uc] 24)))); clear hH6 hG6))
    all_goals
      go_wp2
      go_meet
      exact ⟨_, ua, un, uc, lu, rfl, rfl, rfl, Lib.hid (Own.new u1 _ _), hNu, hS6, Lib.hid (g_alloc hz1 _)⟩
  case rest =>
    obtain ⟨gy, ua, un, uc, lu, rfl, rfl, rfl, hY, hNu, hSu, hGy⟩ := hcut
    clear x0 y0
    have hB7 := Lib.hid (hB5.out.trans (below_of_grown hGy.out hB5.out.size hsz))
    have hSt := Lib.hid ((hS5.out.mono (sub_of_grown hGy.out)).mono (but_sub _ _))
    have hSr := Lib.hid (hSs.out.mono (sub_of_below hB7.out))
    have hT7 := Lib.hid (hT0.out.below hB7.out)
    have hF : Hid (∀ j, j < 3 → ∃ (za : Option Addr) (zn zc : Nat) (lz : List CT), (#[.slice sa sn sc, .slice va vn vc, .slice ua un uc] : Array Value)[j]? = some (.slice za zn zc) ∧ SAt wc.cell? (.slice za zn zc) lz ∧ Nm lz) := Lib.hid (by
      intro j hj
      rcases (show j = 0 ∨ j = 1 ∨ j = 2 by omega) with rfl | rfl | rfl
      · exact ⟨_, _, _, ls, rfl, hSr.out, hNs.out⟩
      · exact ⟨_, _, _, l, rfl, hSt.out, okSub_nmR hok.out.1⟩
      · exact ⟨_, _, _, lu, rfl, hSu.out, hNu.out⟩)
    generalize wc = wn at hY hB7 hT7 hF ⊢
    clear hSr hSt hSu hNu hGy hC5 hg5 hB5 hOx5 hOs5 hS5 hok hx4
    go_wp2_with fail
    go_loopw [31] (fun s31 wr => ∃ i : Nat, i ≤ 3 ∧ s31 = .int .i64 i ∧ Hid (Below wn.heap.size wn wr)) (fun s31 _ => 3 - (intOf s31).toNat)
    case atStart => exact ⟨0, by omega, rfl, Lib.hid (Below.refl _ _)⟩
    case round =>
      obtain ⟨i, hi, rfl, hy⟩ := hrel
      have hBr := Lib.hid (hB7.out.trans (hy.out.mono hB7.out.size))
      by_cases hlt3 : i < 3
      case neg =>
        go_wp2
        go_ret
        exact ⟨rfl, hBr.out⟩
      obtain ⟨za, zn, zc, lz, hce, hSz, hNz⟩ := hF.out i hlt3
      have hYr := hY.out.below hy.out hY.out.lt
      have c0 := (hYr.cell i).trans hce
      have hyl := hYr.lt
      have n0 : (0 : Int) ≤ (i : Int) := by omega
      have n1 : (i : Int) < 3 := by omega
      have hbx : Below wr.heap.size wr (wr.alloc (.cells #[.slice za zn zc] 24)) := (Below.refl _ _).alloc (Nat.le_refl _) _
      have hyx := Lib.hid (hy.out.trans (hbx.mono hy.out.size))
      have hOt := Lib.hid (Own.new wr #[.slice za zn zc] 24)
      have hSx := Lib.hid (hSz.mono (sub_of_below hyx.out))
      replace hNz := Lib.hid hNz
      clear hbx hYr hce hSz hy
      go_wp2_with fail
      generalize wr.alloc (.cells #[.slice za zn zc] 24) = wx at hyx hOt hSx ⊢
      obtain ⟨gt, hgt⟩ : ∃ g : Nat, g = wr.heap.size := ⟨_, rfl⟩
      rw [← hgt] at hOt ⊢
      clear hgt c0 hyl
      refine (encode_any lz za zn zc wx hSx.out (hT7.out.below hyx.out)).mono ?_
      rintro e u1 ⟨hE1, hb1⟩
      have hy1 := Lib.hid (hyx.out.trans (hb1.mono hyx.out.size))
      have hO1 := hOt.out.below hb1 hOt.out.lt
      have hS1 := Lib.hid (hSx.out.mono (sub_of_below hb1))
      have t0 := hO1.cell 0
      simp only [List.getElem?_toArray, List.getElem?_cons_zero] at t0
      have tl := hO1.lt
      replace hO1 := Lib.hid hO1
      clear hb1 hyx hOt hSx
      rcases hE1 with ⟨hs, a1, n1', c1, rfl, hn1, hB1⟩ | ⟨hs, rfl⟩
      · have hV1 := Lib.hid (bv_of_bs hB1)
        have hs' := Lib.hid hs
        replace hn1 := Lib.hid hn1
        clear hs hB1
        go_wp2_with fail
        refine (encode_ref lz za zn zc u1 hS1.out (hT7.out.below hy1.out) hNz.out).mono ?_
        rintro e u2 ⟨hE2, hb2⟩
        rcases hE2 with ⟨-, a2, n2, c2, rfl, hn2, hB2⟩ | ⟨hs2, -⟩
        case inr => exact absurd hs'.out hs2
        have hy2 := Lib.hid (hy1.out.trans (hb2.mono hy1.out.size))
        have hO2 := hO1.out.below hb2 hO1.out.lt
        have hS2 := Lib.hid (hS1.out.mono (sub_of_below hb2))
        have hV2 := hV1.out.mono (sub_of_below hb2)
        have hcv1 := conv_bv hV2
        have hcv2 := conv_bv (bv_of_bs hB2)
        have hdec := Lib.hid (decode_any a1 n1' c1 (encS lz) u2 hV2 (by have := encS_few hs'.out; have := hn1.out; omega) (hT7.out.below hy2.out))
        obtain ⟨E, hE⟩ : ∃ E : ByteArray, (⟨(encS lz).toArray⟩ : ByteArray) = E := ⟨_, rfl⟩
        rw [hE] at hcv1 hcv2
        replace hE := Lib.hid hE
        clear t0 tl
        have t0 := hO2.cell 0
        simp only [List.getElem?_toArray, List.getElem?_cons_zero] at t0
        have tl := hO2.lt
        replace hO2 := Lib.hid hO2
        replace hn2 := Lib.hid hn2
        clear hb2 hB2 hV2 hy1 hO1 hS1 hV1
        go_wp2_with fail
        refine hdec.out.mono ?_
        clear hdec hcv1 hcv2
        rintro e u3 ⟨⟨a3, n3, c3, l3, rfl, hal, hS3⟩, hb3⟩
        have hd := decS_put hs'.out true
        rw [hd] at hal ⊢
        have hP := Lib.hid (pairs_alike hal (same_nm lz))
        have hbA : Below u3.heap.size u3 (u3.alloc (.cells #[.slice a3 n3 c3] 24)) := (Below.refl _ _).alloc (Nat.le_refl _) _
        have hy3 := Lib.hid (hy2.out.trans ((hb3.trans (hbA.mono hb3.size)).mono hy2.out.size))
        have hO3 := (hO2.out.below hb3 hO2.out.lt)
        have hO3' := hO3.below hbA hO3.lt
        have hN3 := Own.new u3 #[.slice a3 n3 c3] 24
        have cS := Lib.hid (same_ref l3 lz a3 za n3 zn c3 zc _ (hS3.mono (sub_of_below hbA)) ((hS2.out.mono (sub_of_below hb3)).mono (sub_of_below hbA)))
        clear t0 tl
        have t0 := hO3.cell 0
        simp only [List.getElem?_toArray, List.getElem?_cons_zero] at t0
        have tl := hO3.lt
        replace hO3 := Lib.hid hO3
        replace hO3' := Lib.hid hO3'
        replace hN3 := Lib.hid hN3
        clear hal hS3 hb3 hbA hy2 hO2 hS2 hd
        go_wp2_with fail
        refine cS.out.mono ?_
        rintro e u4 ⟨⟨b, rfl, hb⟩, hb4⟩
        obtain rfl : b = true := hb.2 hP.out
        have hy4 := Lib.hid (hy3.out.trans (hb4.mono hy3.out.size))
        clear hb hb4 cS hP hy3 t0 tl hO3 hO3' hN3
        go_wp2
        go_roundw
        case rel => exact ⟨i + 1, by omega, by go_num, hy4⟩
        case measure => simp [intOf]; omega
      · have hs' := Lib.hid hs
        obtain ⟨z, hz⟩ : ∃ z, subS lz = z := ⟨_, rfl⟩
        go_wp2_with fail
        refine (encode_ref lz za zn zc u1 hS1.out (hT7.out.below hy1.out) hNz.out).mono ?_
        rintro e u2 ⟨hE2, hb2⟩
        rcases hE2 with ⟨hs2, -⟩ | ⟨-, rfl⟩
        case inl => exact absurd hs2 hs'.out
        have hy2 := Lib.hid (hy1.out.trans (hb2.mono hy1.out.size))
        rw [hz] at hs ⊢
        have hz1 : (z == 0) = false := by simpa using hs
        have hcv := conv_bv (w := u2) (BV.nil _)
        replace hz := Lib.hid hz
        clear hb2 hy1 hO1 hS1 t0 tl
        go_wp2
        go_roundw
        case rel => exact ⟨i + 1, by omega, by go_num, hy2⟩
        case measure => simp [intOf]; omega

end Go.Proofs.YtamkmdlfhlbbeaaGreatDoor.subj

