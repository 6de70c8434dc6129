/- SubjectDecodes: the walk. -/
import Derived.Test.YtamkmdlfhlbbeaaGreatDoorKWrXp
import Derived.Test.YtamkmdlfhlbbeaaGreatDoorKJ15
import Derived.Test.YtamkmdlfhlbbeaaGreatDoorKJ13
import Derived.Test.YtamkmdlfhlbbeaaGreatDoorKWrP
import Derived.Test.YtamkmdlfhlbbeaaGreatDoorKSuA
import Derived.Test.YtamkmdlfhlbbeaaGreatDoorKJ16
import Derived.Test.YtamkmdlfhlbbeaaGreatDoorKClB
import Derived.Deep.RegionHeld3
namespace Go.Proofs.YtamkmdlfhlbbeaaGreatDoor.subj
open Go.RowKit Go.Sort Go.Proofs.YtamkmdlfhlbbeaaGreatDoor Go.Proofs.YtamkmdlfhlbbeaaGreatDoor.schema Go.Proofs.YtamkmdlfhlbbeaaGreatDoor.value Go.Proofs.YtamkmdlfhlbbeaaGreatDoor.text Go.Proofs.YtamkmdlfhlbbeaaGreatDoor.clause Go.Proofs.YtamkmdlfhlbbeaaGreatDoor.draw Go.Proofs.YtamkmdlfhlbbeaaGreatDoor.wire

attribute [local go_sem ↓] Go.wp_at_zero Go.wp_at_succ

theorem pairs_alikeD {l' p l : List CT} (h : subj.Alike SameC l' p) (h2 : subj.Alike SameC l p) : Pairs CEq l' l :=
  ⟨h.1.trans h2.1.symm, fun i h1 h3 => ceq_two (h.2 i h1 (by have := h.1; omega)) (h2.2 i h3 (by have := h.1; omega))⟩
theorem encS_pos (l : List CT) : 0 < (encS l).length := by
  unfold encS putN
  rw [List.length_append]
  have := grp_pos (zz (l.length : Int))
  omega

set_option maxRecDepth 100000 in
set_option maxHeartbeats 16000000 in
theorem decodes_walk (ba : Option Addr) (bn bc : Nat) (a : Option Addr) (n c : Nat) (at_ by_ : Int) (w : World) (hb : BytesAt w.cell? ba bn bc) (h : BytesAt w.cell? a n c) (hat1 : -9223372036854775808 ≤ at_) (hat2 : at_ ≤ 9223372036854775807) (hby1 : 0 ≤ by_) (hby2 : by_ ≤ 255) (hg : ∀ b, w.heap.size ≤ b → Glob (but b w)) (hT : STabs w) :
    Calls Tryz.prog 6 #[.slice ba bn bc, .slice a n c, .int .i64 at_, .int .u8 by_] w fun e w' => e = .returned (.bool true) ∧ Below w.heap.size w w' := by
  obtain ⟨lb, hlb⟩ := bv_of_bytes hb
  have hA := Lib.hid h
  have hg0 := Lib.hid hg
  have hT0 := Lib.hid hT
  replace hlb := Lib.hid hlb
  clear h hg hT hb
  go_enter Tryz.func6, Tryz.ntmps6
  go_wp2_with fail
  refine (sawake_any _ hT0.out).mono ?_
  rintro e w2 ⟨rfl, hb1⟩
  have hB2 := Lib.hid hb1
  clear hb1
  by_cases hlong : 300 < bn
  case pos =>
    have hl1 : (300 : Int) < (bn : Int) := by omega
    go_wp2
    go_ret
    exact ⟨rfl, hB2.out⟩
  have hl1 : ¬ (300 : Int) < (bn : Int) := by omega
  go_wp2_with fail
  refine (draw.new_any a n c 60 _ (by omega) (by omega) (hA.out.mono (sub_of_below hB2.out))).mono ?_
  rintro e w3 ⟨rfl, ⟨a', n', c', hC⟩, hb3⟩
  have hsz : w.heap.size ≤ w2.heap.size := hB2.out.size
  have hB3 := Lib.hid (hB2.out.trans (hb3.mono hsz))
  have hC3 := Lib.hid hC
  have hg3 := Lib.hid ((hg0.out w2.heap.size hsz).mono (sub_of_grown (grown_of_below ((hB2.out.trans (hb3.mono hsz)).mono (Nat.le_refl _)) _)))
  clear hC hb3 hB2
  go_wp2_with fail
  refine (subject_any w2.heap.size a' n' c' _ hC3.out hg3.out).mono ?_
  rintro e w4 ⟨⟨va, vn, vc, l, rfl, hok, hS4⟩, hH4, hG4⟩
  have hB4 := Lib.hid (hB3.out.trans (below_of_grown hG4 hB3.out.size hsz))
  have hS4' := Lib.hid ((hS4.mono (newM_but _ _ _)).mono (but_sub _ _))
  have hs0 := sub_ok hok.1
  replace hok := Lib.hid hok
  clear hG4 hH4 hS4 hC3 hg3 hB3
  go_wp2_with fail
  refine (encode_ref l va vn vc w4 hS4'.out (hT0.out.below hB4.out) (okSub_nmR hok.out.1)).mono ?_
  rintro e w5 ⟨hE, hb5⟩
  rcases hE with ⟨-, da, dn, dc, rfl, hdn, hD⟩ | ⟨hs2, -⟩
  case inr => exact absurd hs0 hs2
  have hB5 := Lib.hid (hB4.out.trans (hb5.mono hB4.out.size))
  have hpos := encS_pos l
  have hfew := encS_few hs0
  obtain ⟨E, hE⟩ : ∃ E, encS l = E := ⟨_, rfl⟩
  rw [hE] at hdn hD hpos hfew
  have hDV := Lib.hid (bv_of_bs hD)
  clear hb5 hB4 hS4' hok hs0 hE hD
  have d1 : (1 : Int) ≤ (dn : Int) := by omega
  have hdl : dn ≤ 342018 := by omega
  replace hdn := Lib.hid hdn
  replace hpos := Lib.hid hpos
  clear hfew
  have hMod := Lib.hid (mod_any at_ (dn : Int) w5 (by omega) (by omega) hat1 hat2)
  go_wp2_with fail
  refine hMod.out.mono ?_
  clear hMod
  rintro e w6 ⟨⟨k', rfl, hk0, hk1⟩, rfl⟩
  obtain ⟨k, rfl⟩ := Int.eq_ofNat_of_zero_le hk0
  have hkn : k < dn := by omega
  have hkE : Hid (k < E.length) := Lib.hid (by have := hdn.out; omega)
  obtain ⟨ub, hub⟩ : ∃ u, Hid (E[k]'hkE.out = u) := ⟨_, Lib.hid rfl⟩
  have hB0 := Lib.hid (bs_nil w5.heap.size w5)
  go_wp2_with (at_builtin; refine wpList_append_bytes rfl _ _ rfl w5.heap.size _ 0 _ [] rfl hB0.out rfl da dn dc E rfl hDV.out (by omega) (by omega) ?_; intro xa xc w7 hX hxl hb7; simp only [Nat.zero_add, List.nil_append] at hX hxl ⊢; obtain ⟨gx, rfl, hgx1, hgx2, hfr, hcl⟩ := bs_some hX hpos.out; have hb7' := Lib.hid hb7; have hX' := Lib.hid hX; have f1 := hfr k; have c1 := hcl k hkE.out; rw [hub.out] at c1; clear hb7 hX hfr hcl hB0 hxl)
  have hu2 : ((ub.toNat : Int) + by_) % 256 = ((UInt8.ofNat (((ub.toNat : Int) + by_) % 256).toNat).toNat : Int) := by rw [byte_of (by omega)]; omega
  obtain ⟨u2, hu2'⟩ : ∃ u, UInt8.ofNat (((ub.toNat : Int) + by_) % 256).toNat = u := ⟨_, rfl⟩
  rw [hu2'] at hu2
  rw [hu2]
  have hX2 := Lib.hid (bs_set hX'.out k u2)
  have hbS : Below w5.heap.size w5 (w7.setCell ⟨gx, k, none⟩ (.int .u8 u2.toNat)) := Below.setCell hb7'.out (by simp; omega) _
  have hBx := Lib.hid (hB5.out.trans (hbS.mono hB5.out.size))
  have hDV2 := Lib.hid (hDV.out.mono (sub_of_below hbS))
  have hlb2 := Lib.hid (hlb.out.mono (sub_of_below hBx.out))
  obtain ⟨uy, rfl⟩ : ∃ u : UInt8, by_ = (u.toNat : Int) := ⟨UInt8.ofNat by_.toNat, by rw [byte_of (by omega)]; omega⟩
  have hgx3 : gx < (w7.setCell ⟨gx, k, none⟩ (.int .u8 u2.toNat)).heap.size := by simpa [World.setCell] using hgx2
  clear hbS hb7' hX' hDV hlb hB5 f1 c1 hu2 hu2' hub hkE hgx2
  generalize World.setCell w7 ⟨gx, k, none⟩ (.int .u8 u2.toNat) = wx at hX2 hBx hDV2 hlb2 hgx3 ⊢
  have hk1 : (k : Int) ≤ (dc : Int) := by have := hDV2.out.len; omega
  have hk2 : (0 : Int) ≤ (k : Int) := by omega
  have hcc := hDV2.out.len.2.1
  have hB0 : Hid (∀ u : World, BS wx.heap.size (.slice none 0 0) [] u) := Lib.hid (fun u => bs_nil wx.heap.size u)
  have hle0 : Hid (0 + dn ≤ 140737488355328) := Lib.hid (by omega)
  have hle1 : Hid (dn + 1 ≤ 140737488355328) := Lib.hid (by omega)
  replace hdn := Lib.hid hdn.out
  go_cut [55, 56, 57] (fun t55 t56 t57 wy => ∃ (gy : Nat) (vc2 : Nat) (va2 : Option Addr), t55 = .slice (some ⟨gy, 0, none⟩) 5 5 ∧ t56 = .int .i64 5 ∧ t57 = .int .i64 0 ∧ Hid (Own wy gy #[.slice ba bn bc, .slice da dn dc, .slice (some ⟨gx, 0, none⟩) dn xc, .slice da k dc, .slice va2 (dn + 1) vc2] 25) ∧ Hid (BV wy.cell? (.slice va2 (dn + 1) vc2) (E ++ [uy])) ∧ Hid (Below wx.heap.size wx wy))
  case first =>
    obtain ⟨wd, hwd⟩ : ∃ wd, wx.drew = wd := ⟨_, rfl⟩
    have hbd : Below wx.heap.size wx wd := by rw [← hwd]; exact (Below.refl wx.heap.size wx).grown (grown_drew wx none) (Nat.le_refl _) (fun k e => by cases e)
    have hsd : wx.heap.size ≤ wd.heap.size := hbd.size
    have hDVd := Lib.hid (hDV2.out.mono (sub_of_below hbd))
    replace hbd := Lib.hid hbd
    refine wp_region_held_drew (S := fun _ => True) (by kernel_rfl) trivial (fun hHeld => ?_)
    rw [hwd]
    clear hwd
    refine wpAnyH_take (i := 0) (oi := ?oi1) (v := ?v1) ?ho1 (by kernel_rfl) (by kernel_rfl) (by kernel_rfl) ?hp1 (Or.inl ⟨?hw1, ?hy1⟩) (by assumption) ?rest1
    case ho1 => simp only [List.getElem?_toArray, List.getElem?_cons_zero]; rfl
    case hp1 => exact fun _ _ _ h => h
    case hw1 => rfl
    case hy1 =>
      intro W hSw
      go_simp
      try exact rfl
    simp only [Act.put, List.setIfInBounds_toArray, List.set_cons_zero, List.set_cons_succ]
    refine wpAnyH_take (i := 1) (oi := ?oi2) (v := ?v2) ?ho2 (by kernel_rfl) (by kernel_rfl) (by kernel_rfl) ?hp2 (Or.inl ⟨?hw2, ?hy2⟩) (by assumption) ?rest2
    case ho2 => simp only [List.getElem?_toArray, List.getElem?_cons_succ, List.getElem?_cons_zero]; rfl
    case hp2 => exact fun _ _ _ h => h
    case hw2 => rfl
    case hy2 =>
      intro W hSw
      go_simp
      try exact rfl
    simp only [Act.put, List.setIfInBounds_toArray, List.set_cons_zero, List.set_cons_succ]
    refine wpAnyH_take (i := 2) (oi := ?oi3) (v := ?v3) ?ho3 (by kernel_rfl) (by kernel_rfl) (by kernel_rfl) ?hp3 (Or.inl ⟨?hw3, ?hy3⟩) (by assumption) ?rest3
    case ho3 => simp only [List.getElem?_toArray, List.getElem?_cons_succ, List.getElem?_cons_zero]; rfl
    case hp3 => exact fun _ _ _ h => h
    case hw3 => rfl
    case hy3 =>
      intro W hSw
      go_simp
      try exact rfl
    simp only [Act.put, List.setIfInBounds_toArray, List.set_cons_zero, List.set_cons_succ]
    refine wpAnyH_take (i := 3) (oi := ?oi4) (v := ?v4) ?ho4 (by kernel_rfl) (by kernel_rfl) (by kernel_rfl) ?hp4 (Or.inl ⟨?hw4, ?hy4⟩) (by assumption) ?rest4
    case ho4 => simp only [List.getElem?_toArray, List.getElem?_cons_succ, List.getElem?_cons_zero]; rfl
    case hp4 => exact fun _ _ _ h => h
    case hw4 => rfl
    case hy4 =>
      intro W hSw
      go_simp
      try exact rfl
    simp only [Act.put, List.setIfInBounds_toArray, List.set_cons_zero, List.set_cons_succ]
    refine wpAnyH_take (i := 4) (oi := ?oi5) (v := ?v5) ?ho5 (by kernel_rfl) (by kernel_rfl) (by kernel_rfl) ?hp5 (Or.inl ⟨?hw5, ?hy5⟩) (by assumption) ?rest5
    case ho5 => simp only [List.getElem?_toArray, List.getElem?_cons_succ, List.getElem?_cons_zero]; rfl
    case hp5 => exact fun _ _ _ h => h
    case hw5 => rfl
    case hy5 =>
      intro W hSw
      go_simp
      try exact rfl
    simp only [Act.put, List.setIfInBounds_toArray, List.set_cons_zero, List.set_cons_succ]
    refine wpAnyH_take (i := 5) (oi := ?oi6) (v := ?v6) ?ho6 (by kernel_rfl) (by kernel_rfl) (by kernel_rfl) ?hp6 (Or.inl ⟨?hw6, ?hy6⟩) (by assumption) ?rest6
    case ho6 => simp only [List.getElem?_toArray, List.getElem?_cons_succ, List.getElem?_cons_zero]; rfl
    case hp6 => exact fun _ _ _ h => h
    case hw6 => rfl
    case hy6 =>
      intro W hSw
      go_simp
      try exact rfl
    simp only [Act.put, List.setIfInBounds_toArray, List.set_cons_zero, List.set_cons_succ]
    refine wpAnyH_take (i := 6) (oi := ?oi7) (v := ?v7) ?ho7 (by kernel_rfl) (by kernel_rfl) (by kernel_rfl) ?hp7 (Or.inl ⟨?hw7, ?hy7⟩) (by assumption) ?rest7
    case ho7 => simp only [List.getElem?_toArray, List.getElem?_cons_succ, List.getElem?_cons_zero]; rfl
    case hp7 => exact fun _ _ _ h => h
    case hw7 => rfl
    case hy7 =>
      intro W hSw
      go_simp
      try exact rfl
    simp only [Act.put, List.setIfInBounds_toArray, List.set_cons_zero, List.set_cons_succ]
    refine wpAnyH_take (i := 8) (oi := ?oi8) (v := ?v8) ?ho8 (by kernel_rfl) (by kernel_rfl) (by kernel_rfl) ?hp8 (Or.inl ⟨?hw8, ?hy8⟩) (by assumption) ?rest8
    case ho8 => simp only [List.getElem?_toArray, List.getElem?_cons_succ, List.getElem?_cons_zero]; rfl
    case hp8 => exact fun _ _ _ h => h
    case hw8 => rfl
    case hy8 =>
      intro W hSw
      go_simp
      try exact rfl
    simp only [Act.put, List.setIfInBounds_toArray, List.set_cons_zero, List.set_cons_succ]
    refine wpAnyH_take (i := 13) (oi := ?oi9) (v := ?v9) ?ho9 (by kernel_rfl) (by kernel_rfl) (by kernel_rfl) ?hp9 (Or.inl ⟨?hw9, ?hy9⟩) (by assumption) ?rest9
    case ho9 => simp only [List.getElem?_toArray, List.getElem?_cons_succ, List.getElem?_cons_zero]; rfl
    case hp9 => exact fun _ _ _ h => h
    case hw9 => rfl
    case hy9 =>
      intro W hSw
      go_simp
      try exact rfl
    simp only [Act.put, List.setIfInBounds_toArray, List.set_cons_zero, List.set_cons_succ]
    refine wpAnyH_ready (rs := [7, 9]) (by kernel_rfl) (by simp) ?_
    refine AllReadyH.cons rfl (fun K hK => ?_) (AllReadyH.cons rfl (fun K hK => ?_) AllReadyH.nil)
    · refine step_append_bytes (by rfl) _ _ (by rfl) wx.heap.size _ 0 _ [] (by rfl) (hB0.out _) (by rfl) da dn dc E (by rfl) hDVd.out hle0.out hsd ?_
      intro va3 vc3 w8 hB8 hn8 hb8 hg8
      rw [Nat.zero_add, List.nil_append] at hB8
      rw [Nat.zero_add]
      have hBx8 := Lib.hid (hbd.out.trans hb8)
      have hs8 := hBx8.out.size
      replace hB8 := Lib.hid hB8
      replace hg8 := Lib.hid hg8
      clear hn8 hb8
      refine hK.out _ _ trivial (fun hHeld => ?_)
      clear hK K
      try simp only [Act.put, List.setIfInBounds_toArray]
      refine wpAnyH_ready (rs := [9]) (by kernel_rfl) (by simp) ?_
      refine AllReadyH.cons rfl (fun K hK => ?_) AllReadyH.nil
      go_simp
      refine hK.out _ _ trivial (fun hHeld => ?_)
      clear hK K
      try simp only [Act.put, List.setIfInBounds_toArray, List.set_cons_zero, List.set_cons_succ]
      refine wpAnyH_ready (rs := [10]) (by kernel_rfl) (by simp) ?_
      refine AllReadyH.cons rfl (fun K hK => ?_) AllReadyH.nil
      refine step_append_bytes (by rfl) _ _ (by rfl) wx.heap.size va3 dn vc3 E (by rfl) (BS.below hB8.out ((Below.refl w8.heap.size w8).alloc (Nat.le_refl _) _)) hdn.out _ 1 1 [uy] (by rfl) (bv_lit (Own.new w8 _ _) rfl) hle1.out (by simp; omega) ?_
      intro va4 vc4 w9 hB9 hn9 hb9 hg9
      have hV9 := Lib.hid (bv_of_bs hB9)
      have hBx9 := Lib.hid ((hBx8.out.alloc hs8 (.cells #[.int .u8 (uy.toNat : Int)] 5)).trans hb9)
      have hs9 := hBx9.out.size
      clear hn9 hb9 hg9 hB9
      refine hK.out _ _ trivial (fun hHeld => ?_)
      clear hK K
      try simp only [Act.put, List.setIfInBounds_toArray]
      refine wpAnyH_ready (rs := [11]) (by kernel_rfl) (by simp) ?_
      refine AllReadyH.cons rfl (fun K hK => ?_) AllReadyH.nil
      go_simp
      refine hK.out _ _ trivial (fun hHeld => ?_)
      clear hK K
      try simp only [Act.put, List.setIfInBounds_toArray, List.set_cons_zero, List.set_cons_succ]
      refine wpAnyH_take (i := 12) (oi := ?oi10) (v := ?v10) ?ho10 (by kernel_rfl) (by kernel_rfl) (by kernel_rfl) ?hp10 (Or.inl ⟨?hw10, ?hy10⟩) (by assumption) ?rest10
      case ho10 => simp only [List.getElem?_toArray, List.getElem?_cons_succ, List.getElem?_cons_zero]; rfl
      case hp10 => exact fun _ _ _ h => h
      case hw10 => rfl
      case hy10 =>
        intro W hSw
        go_simp
        try exact rfl
      simp only [Act.put, List.setIfInBounds_toArray, List.set_cons_zero, List.set_cons_succ]
      refine wpAnyH_done (by kernel_rfl) ?_ _
      go_wp2
      go_meet
      exact ⟨_, _, _, rfl, rfl, rfl, Lib.hid (Own.new w9 _ _), Lib.hid (hV9.out.mono (sub_of_below ((Below.refl w9.heap.size w9).alloc (Nat.le_refl _) _))), Lib.hid (hBx9.out.alloc hs9 _)⟩
    · go_simp
      refine hK.out _ _ trivial (fun hHeld => ?_)
      clear hK K
      try simp only [Act.put, List.setIfInBounds_toArray, List.set_cons_zero, List.set_cons_succ]
      refine wpAnyH_ready (rs := [7]) (by kernel_rfl) (by simp) ?_
      refine AllReadyH.cons rfl (fun K hK => ?_) AllReadyH.nil
      refine step_append_bytes (by rfl) _ _ (by rfl) wx.heap.size _ 0 _ [] (by rfl) (hB0.out _) (by rfl) da dn dc E (by rfl) (hDVd.out.mono (sub_of_below ((Below.refl wd.heap.size wd).alloc (Nat.le_refl _) _))) hle0.out (by simp; omega) ?_
      intro va3 vc3 w8 hB8 hn8 hb8 hg8
      rw [Nat.zero_add, List.nil_append] at hB8
      rw [Nat.zero_add]
      have hBx8 := Lib.hid ((hbd.out.alloc hsd (.cells #[.int .u8 (uy.toNat : Int)] 5)).trans hb8)
      have hs8 := hBx8.out.size
      replace hB8 := Lib.hid hB8
      replace hg8 := Lib.hid hg8
      clear hn8 hb8
      refine hK.out _ _ trivial (fun hHeld => ?_)
      clear hK K
      try simp only [Act.put, List.setIfInBounds_toArray]
      refine wpAnyH_ready (rs := [10]) (by kernel_rfl) (by simp) ?_
      refine AllReadyH.cons rfl (fun K hK => ?_) AllReadyH.nil
      refine step_append_bytes (by rfl) _ _ (by rfl) wx.heap.size va3 dn vc3 E (by rfl) hB8.out hdn.out _ 1 1 [uy] (by rfl) (bv_lit ((Own.new wd _ _).kept hg8.out (by simp [Value.ownBlock])) rfl) hle1.out hs8 ?_
      intro va4 vc4 w9 hB9 hn9 hb9 hg9
      have hV9 := Lib.hid (bv_of_bs hB9)
      have hBx9 := Lib.hid (hBx8.out.trans hb9)
      have hs9 := hBx9.out.size
      clear hn9 hb9 hg9 hB9
      refine hK.out _ _ trivial (fun hHeld => ?_)
      clear hK K
      try simp only [Act.put]
      refine wpAnyH_ready (rs := [11]) (by kernel_rfl) (by simp) ?_
      refine AllReadyH.cons rfl (fun K hK => ?_) AllReadyH.nil
      go_simp
      refine hK.out _ _ trivial (fun hHeld => ?_)
      clear hK K
      try simp only [Act.put, List.setIfInBounds_toArray, List.set_cons_zero, List.set_cons_succ]
      refine wpAnyH_take (i := 12) (oi := ?oi11) (v := ?v11) ?ho11 (by kernel_rfl) (by kernel_rfl) (by kernel_rfl) ?hp11 (Or.inl ⟨?hw11, ?hy11⟩) (by assumption) ?rest11
      case ho11 => simp only [List.getElem?_toArray, List.getElem?_cons_succ, List.getElem?_cons_zero]; rfl
      case hp11 => exact fun _ _ _ h => h
      case hw11 => rfl
      case hy11 =>
        intro W hSw
        go_simp
        try exact rfl
      simp only [Act.put, List.setIfInBounds_toArray, List.set_cons_zero, List.set_cons_succ]
      refine wpAnyH_done (by kernel_rfl) ?_ _
      go_wp2
      go_meet
      exact ⟨_, _, _, rfl, rfl, rfl, Lib.hid (Own.new w9 _ _), Lib.hid (hV9.out.mono (sub_of_below ((Below.refl w9.heap.size w9).alloc (Nat.le_refl _) _))), Lib.hid (hBx9.out.alloc hs9 _)⟩
  case rest =>
    obtain ⟨gy, vc2, va2, rfl, rfl, rfl, hY, hV2, hbc⟩ := hcut
    have hBc := Lib.hid (hBx.out.trans (hbc.out.mono hBx.out.size))
    have hXc := Lib.hid (bv_of_bs (BS.below hX2.out hbc.out))
    have hF : Hid (∀ j, j < 5 → ∃ (za : Option Addr) (zn zc : Nat) (lz : List UInt8), (#[.slice ba bn bc, .slice da dn dc, .slice (some ⟨gx, 0, none⟩) dn xc, .slice da k dc, .slice va2 (dn + 1) vc2] : Array Value)[j]? = some (.slice za zn zc) ∧ BV wc.cell? (.slice za zn zc) lz ∧ zn ≤ 1073741824) := Lib.hid (by
      intro j hj
      rcases (show j = 0 ∨ j = 1 ∨ j = 2 ∨ j = 3 ∨ j = 4 by omega) with rfl | rfl | rfl | rfl | rfl
      · exact ⟨_, _, _, lb, rfl, hlb2.out.mono (sub_of_below hbc.out), by omega⟩
      · exact ⟨_, _, _, E, rfl, hDV2.out.mono (sub_of_below hbc.out), by omega⟩
      · exact ⟨_, _, _, _, rfl, hXc.out, by omega⟩
      · exact ⟨_, _, _, _, rfl, BV.cut (hDV2.out.mono (sub_of_below hbc.out)) (by omega), by omega⟩
      · exact ⟨_, _, _, _, rfl, hV2.out, by omega⟩)
    have hTc := Lib.hid (hT0.out.below hBc.out)
    generalize wc = wn at hY hBc hF hTc ⊢
    clear hX2 hBx hDV2 hlb2 hgx3 hV2 hbc hXc hk1 hk2 hcc hB0 hle0 hle1 hdn hkn hdl d1
    go_wp2_with fail
    go_loopw [57] (fun s57 wr => ∃ i : Nat, i ≤ 5 ∧ s57 = .int .i64 i ∧ Hid (Below wn.heap.size wn wr)) (fun s57 _ => 5 - (intOf s57).toNat)
    case atStart => exact ⟨0, by omega, rfl, Lib.hid (Below.refl _ _)⟩
    case round =>
      obtain ⟨i, hi, rfl, hy⟩ := hrel
      have hBr := Lib.hid (hBc.out.trans (hy.out.mono hBc.out.size))
      by_cases hlt5 : i < 5
      case neg =>
        go_wp2
        go_ret
        exact ⟨rfl, hBr.out⟩
      obtain ⟨za, zn, zc, lz, hce, hVz, hzn⟩ := hF.out i hlt5
      have hYr := hY.out.below hy.out hY.out.lt
      have c0 := (hYr.cell i).trans hce
      have hyl := hYr.lt
      have n0 : (0 : Int) ≤ (i : Int) := by omega
      have n1 : (i : Int) < 5 := by omega
      have hV0 := Lib.hid (hVz.mono (sub_of_below hy.out))
      clear hYr hce hVz
      go_wp2_with fail
      refine (decode_any za zn zc lz wr hV0.out hzn (hTc.out.below hy.out)).mono ?_
      rintro e u1 ⟨⟨a1, n1', c1, l1, rfl, hal1, hS1⟩, hb1⟩
      obtain ⟨z, hz⟩ : ∃ z, Hid ((decS true lz).2 = z) := ⟨_, Lib.hid rfl⟩
      rw [hz.out]
      have hbA : Below u1.heap.size u1 (u1.alloc (.cells #[.slice a1 n1' c1] 24)) := (Below.refl _ _).alloc (Nat.le_refl _) _
      have hyA := Lib.hid (hy.out.trans ((hb1.trans (hbA.mono hb1.size)).mono hy.out.size))
      have hO1 := Lib.hid (Own.new u1 #[.slice a1 n1' c1] 24)
      have hSA := Lib.hid (hS1.mono (sub_of_below hbA))
      have hVA := Lib.hid ((hV0.out.mono (sub_of_below hb1)).mono (sub_of_below hbA))
      replace hal1 := Lib.hid hal1
      clear hb1 hbA hS1 c0 hyl hy hBr hV0
      go_wp2_with fail
      generalize u1.alloc (.cells #[.slice a1 n1' c1] 24) = uA at hyA hO1 hSA hVA ⊢
      obtain ⟨g1, hg1⟩ : ∃ g : Nat, g = u1.heap.size := ⟨_, rfl⟩
      rw [← hg1] at hO1 ⊢
      clear hg1
      refine (decode_ref za zn zc lz uA hVA.out hzn (hTc.out.below hyA.out)).mono ?_
      rintro e u2 ⟨⟨a2, n2, c2, l2, rfl, hal2, hS2⟩, hb2⟩
      rw [hz.out]
      have hbB : Below u2.heap.size u2 (u2.alloc (.cells #[.slice a2 n2 c2] 24)) := (Below.refl _ _).alloc (Nat.le_refl _) _
      have hyB := Lib.hid (hyA.out.trans ((hb2.trans (hbB.mono hb2.size)).mono hyA.out.size))
      have hO2 := hO1.out.below hb2 hO1.out.lt
      have x0 := hO2.cell 0
      have xl := hO2.lt
      simp only [List.getElem?_toArray, List.getElem?_cons_zero] at x0
      have hP := Lib.hid (pairs_alikeD hal1.out hal2)
      have cS := Lib.hid (same_ref l1 l2 a1 a2 n1' n2 c1 c2 _ ((hSA.out.mono (sub_of_below hb2)).mono (sub_of_below hbB)) (hS2.mono (sub_of_below hbB)))
      replace hO2 := Lib.hid hO2
      clear hb2 hbB hal2 hS2 hyA hO1 hSA hVA
      go_wp2_with fail
      refine cS.out.mono ?_
      rintro e u4 ⟨⟨b, rfl, hb⟩, hb4⟩
      obtain rfl : b = true := hb.2 hP.out
      have hy4 := Lib.hid (hyB.out.trans (hb4.mono hyB.out.size))
      clear hb hb4 cS hP hyB hO2 x0 xl
      go_wp2
      go_roundw
      case rel => exact ⟨i + 1, by omega, by go_num, hy4⟩
      case measure => simp [intOf]; omega

end Go.Proofs.YtamkmdlfhlbbeaaGreatDoor.subj

