/- SubjectWith: the walk. -/
import Derived.Test.YtamkmdlfhlbbeaaGreatDoorKSuWv
import Derived.Test.YtamkmdlfhlbbeaaGreatDoorKSuWr
import Derived.Test.YtamkmdlfhlbbeaaGreatDoorKSuP
import Derived.Test.YtamkmdlfhlbbeaaGreatDoorKSuA
import Derived.Test.YtamkmdlfhlbbeaaGreatDoorKClB
import Derived.Deep.RegionHeld3
namespace Go.Proofs.YtamkmdlfhlbbeaaGreatDoor.subj
open Go.RowKit Go.Sort Go.Proofs.YtamkmdlfhlbbeaaGreatDoor Go.Proofs.YtamkmdlfhlbbeaaGreatDoor.schema Go.Proofs.YtamkmdlfhlbbeaaGreatDoor.value Go.Proofs.YtamkmdlfhlbbeaaGreatDoor.text Go.Proofs.YtamkmdlfhlbbeaaGreatDoor.clause Go.Proofs.YtamkmdlfhlbbeaaGreatDoor.draw

attribute [local go_sem ↓] Go.wp_at_zero Go.wp_at_succ

set_option maxRecDepth 100000 in
set_option maxHeartbeats 16000000 in
theorem with_walk (a : Option Addr) (n c : Nat) (kind name : ByteArray) (rv : VD) (w : World) (h : BytesAt w.cell? a n c) (hrv : LAt w.cell? rv) (hnm : name.size ≤ maxLen) (hg : ∀ b, w.heap.size ≤ b → Glob (but b w)) (hT : STabs w) :
    Calls Tryz.prog 8 #[.slice a n c, .string kind, .string name, .agg #[.int .i64 rv.kind, .int .i64 rv.num, .string rv.text, .slice rv.ptr rv.len rv.cap]] w fun e w' => e = .returned (.bool true) ∧ Below w.heap.size w w' := by
  have hB0 : Below w.heap.size w (w.alloc (.cells #[.int .i64 rv.kind, .int .i64 rv.num, .string rv.text, .slice rv.ptr rv.len rv.cap] 51)) := (Below.refl _ _).alloc (Nat.le_refl _) _
  have hOr := Lib.hid (Own.new w #[.int .i64 rv.kind, .int .i64 rv.num, .string rv.text, .slice rv.ptr rv.len rv.cap] 51)
  have hA := Lib.hid h
  have hg0 := Lib.hid hg
  have hT0 := Lib.hid hT
  replace hrv := Lib.hid hrv
  replace hB0 := Lib.hid hB0
  replace hnm := Lib.hid hnm
  clear h hg hT
  go_enter Tryz.func8, Tryz.ntmps8
  go_wp2_with fail
  generalize w.alloc (.cells #[.int .i64 rv.kind, .int .i64 rv.num, .string rv.text, .slice rv.ptr rv.len rv.cap] 51) = w0 at hB0 hOr ⊢
  obtain ⟨gr, hgr⟩ : ∃ g : Nat, Hid (g = w.heap.size) := ⟨_, Lib.hid rfl⟩
  rw [← hgr.out] at hOr ⊢
  refine (sawake_any _ (hT0.out.below hB0.out)).mono ?_
  rintro e w1 ⟨rfl, hb1⟩
  have hB1 := Lib.hid (hB0.out.trans (hb1.mono hB0.out.size))
  have hOr1 := Lib.hid (hOr.out.below hb1 hOr.out.lt)
  obtain ⟨r0, r1, r2, r3, -⟩ := own4z hOr1.out
  have hrl := hOr1.out.lt
  clear hb1 hB0 hOr
  by_cases hlong : 40 < rv.len
  case pos =>
    have hl1 : (40 : Int) < (rv.len : Int) := by omega
    go_wp2
    go_ret
    exact ⟨rfl, hB1.out⟩
  have hl1 : ¬ (40 : Int) < (rv.len : Int) := by omega
  go_wp2_with fail
  refine (new_any a n c 90 _ (by omega) (by omega) (hA.out.mono (sub_of_below hB1.out))).mono ?_
  rintro e w3 ⟨rfl, ⟨a', n', c', hC⟩, hb3⟩
  have hsz : w.heap.size ≤ w1.heap.size := hB1.out.size
  have hB3 := Lib.hid (hB1.out.trans (hb3.mono hsz))
  have hOr3 := Lib.hid (hOr1.out.below hb3 hrl)
  have hC3 := Lib.hid hC
  have hg3 := Lib.hid ((hg0.out w1.heap.size hsz).mono (sub_of_grown (grown_of_below ((hB1.out.trans (hb3.mono hsz)).mono (Nat.le_refl _)) _)))
  clear hC hb3 hB1 hOr1 r0 r1 r2 r3
  have hbl3 : w1.heap.size < w3.heap.size := hC3.out.lt
  go_wp2_with fail
  refine (subject_any w1.heap.size a' n' c' _ hC3.out hg3.out).mono ?_
  rintro e w4 ⟨⟨va, vn, vc, l, rfl, hok, hS4⟩, hH4, hG4⟩
  have hG5 := Lib.hid (g_alloc hG4 (.cells #[.slice va vn vc] 24))
  have hH5 := Lib.hid (hH4.alloc (.cells #[.slice va vn vc] 24))
  have hOr5 := Lib.hid (hOr3.out.kept hG5.out (by simp; omega))
  have hOs5 := Lib.hid (Own.new w4 #[.slice va vn vc] 24)
  have hS5 := Lib.hid ((hS4.mono (newM_but _ _ _)).mono (sub_of_grown (g_alloc (grown_refl w4 (some w1.heap.size)) (.cells #[.slice va vn vc] 24))))
  have hN5 := Lib.hid (okSub_nmR hok.1)
  have hl5 := hok.1.len
  have hf5 := Lib.hid (okSub_fewR hok.1)
  have hsz4 : w3.heap.size ≤ w4.heap.size := hG4.size
  clear hG4 hH4 hS4 hOr3 hok
  go_wp2_with fail
  generalize w4.alloc (.cells #[.slice va vn vc] 24) = w5 at hG5 hH5 hOr5 hOs5 hS5 ⊢
  obtain ⟨gs, hgs⟩ : ∃ g : Nat, g = w4.heap.size := ⟨_, rfl⟩
  rw [← hgs] at hOs5 hsz4 ⊢
  clear hgs
  obtain ⟨b, hb⟩ : ∃ g : Nat, g = w1.heap.size := ⟨_, rfl⟩
  rw [← hb] at hsz hrl hbl3 hC3 hg3 hG5 hH5 hS5 ⊢
  clear hb
  refine (next_any b a' n' c' _ 5 (by omega) (by omega) (hC3.out.still hG5.out hH5.out)).mono ?_
  rintro e w6 ⟨⟨m, rfl, hm0, hm1⟩, hH, hG⟩
  have hG6 := Lib.hid (g_call hG5.out hG)
  have hH6 := Lib.hid hH
  have hOr6 := Lib.hid (hOr5.out.kept hG (by simp; omega))
  have hOs6 := Lib.hid (hOs5.out.kept hG (by simp; omega))
  have hS6 := Lib.hid (hS5.out.mono (sub_of_grown hG))
  clear hG hH hG5 hH5 hOr5 hOs5 hS5
  have s0 := hOs6.out.cell 0
  have sf := hOs6.out.free 0
  have hsl := hOs6.out.lt
  simp only [List.getElem?_toArray, List.getElem?_cons_zero] at s0
  go_upto_if 40 with fail
  go_cut [] (fun wy => ∃ (sa : Option Addr) (sn sc : Nat) (L : List CT), Hid (w3.grownBy wy (some b)) ∧ Hid (Head b a' n' c' wy) ∧ Hid (Own wy gr #[.int .i64 rv.kind, .int .i64 rv.num, .string rv.text, .slice rv.ptr rv.len rv.cap] 51) ∧ Hid (Own wy gs #[.slice sa sn sc] 24) ∧ Hid (SAt (but b wy) (.slice sa sn sc) L) ∧ Hid (Nm L))
  case first =>
    by_cases hm : m = 1
    case pos =>
      subst hm
      go_wp2_with fail
      refine (spoil_any b a' n' c' va vn vc l _ (hC3.out.still hG6.out hH6.out) (hg3.out.mono (sub_of_grown hG6.out)) hS6.out hl5 hN5.out hf5.out).mono ?_
      rintro e w7 ⟨⟨ua, un, uc, lu, rfl, ⟨-, hNu, -⟩, hS7⟩, hH7, hG7⟩
      have hOs7 := hOs6.out.kept hG7 (by simp; omega)
      have hH8 := Lib.hid (hH7.set (p := ⟨gs, 0, none⟩) (by simp; omega) (.slice ua un uc))
      have hG8 := Lib.hid (g_setCell (g_call hG6.out hG7) (p := ⟨gs, 0, none⟩) (by simp; omega) (.slice ua un uc))
      have s7 := hOs7.cell 0
      have f7 := hOs7.free 0
      have l7 := hOs7.lt
      simp only [List.getElem?_toArray, List.getElem?_cons_zero] at s7
      have hOr8 := Lib.hid ((hOr6.out.kept hG7 (by simp; omega)).setOther (p := ⟨gs, 0, none⟩) (by simp; omega) (.slice ua un uc))
      have hOs8 := Lib.hid (show Own _ _ #[.slice ua un uc] _ from hOs7.set 0 (.slice ua un uc))
      have hS8 := Lib.hid (((sat_avoid hS7 hOs7).mono (excl_set (X := [b, gs]) (q := ⟨gs, 0, none⟩) (by simp) (.slice ua un uc))).mono (excl_but _ (show b ∈ [b, gs] by simp)))
      have hN8 := Lib.hid hNu
      clear hH7 hG7 hS7 hOs7 s0 sf hG6 hH6 hOr6 hOs6 hS6 hNu hsl
      go_wp2
      go_meet
      exact ⟨ua, un, uc, lu, hG8, hH8, hOr8, hOs8, hS8, hN8⟩
    case neg =>
      have hmb : (m == 1) = false := by simp [hm]
      go_wp2
      go_meet
      exact ⟨va, vn, vc, l, hG6, hH6, hOr6, hOs6, hS6, hN5⟩
  case rest =>
    obtain ⟨sa, sn, sc, L, hG8, hH8, hOr8, hOs8, hS8, hN8⟩ := hcut
    clear hG6 hH6 hOr6 hOs6 hS6 hN5 hl5 hf5 s0 sf hsl
    generalize wc = w8 at hG8 hH8 hOr8 hOs8 hS8 ⊢
    go_upto_region 9 with fail
    have hgb := hH8.out.lt
    have hG9 := g_alloc (g_alloc hG8.out (.cells (ksA kind) 9)) (.cells (nsA name) 9)
    have hH9 := (hH8.out.alloc (.cells (ksA kind) 9)).alloc (.cells (nsA name) 9)
    have hCx := Lib.hid (hC3.out.still hG9 hH9)
    have hgx := Lib.hid (hg3.out.mono (sub_of_grown hG9))
    have hBx := Lib.hid (hB3.out.trans (below_of_grown hG9 hB3.out.size hsz))
    have hD0 := Lib.hid (show DR ((w8.alloc (.cells (ksA kind) 9)).alloc (.cells (nsA name) 9)) ((w8.alloc (.cells (ksA kind) 9)).alloc (.cells (nsA name) 9)) b a' n' c' w8.heap.size (w8.heap.size + 1) (ksA kind) (nsA name) from ⟨hH9, grown_refl _ _, (Own.new w8 _ _).alloc _, by omega, Own.new' (by simp), by omega⟩)
    have hOrx := Lib.hid ((hOr8.out.alloc (.cells (ksA kind) 9)).alloc (.cells (nsA name) 9))
    have hOsx := Lib.hid ((hOs8.out.alloc (.cells (ksA kind) 9)).alloc (.cells (nsA name) 9))
    have hSx := Lib.hid (hS8.out.mono (sub_of_grown (g_alloc (g_alloc (grown_refl w8 (some b)) (.cells (ksA kind) 9)) (.cells (nsA name) 9))))
    have hkx : w8.heap.size < ((w8.alloc (.cells (ksA kind) 9)).alloc (.cells (nsA name) 9)).heap.size := by simp; omega
    have hnx : w8.heap.size + 1 < ((w8.alloc (.cells (ksA kind) 9)).alloc (.cells (nsA name) 9)).heap.size := by simp
    clear hG9 hH9 hC3 hg3 hB3 hG8 hH8 hOr8 hOs8 hS8
    go_upto_region 11 with fail
    generalize hwx : (w8.alloc (.cells (ksA kind) 9)).alloc (.cells (nsA name) 9) = wx at hCx hgx hBx hD0 hOrx hOsx hSx hkx hnx
    unfold ksA nsA at hwx
    rw [hwx]
    clear hwx
    obtain ⟨gn, hgn⟩ : ∃ g : Nat, g = w8.heap.size + 1 := ⟨_, rfl⟩
    rw [← hgn] at hD0 hnx ⊢
    clear hgn
    obtain ⟨gk, hgk⟩ : ∃ g : Nat, g = w8.heap.size := ⟨_, rfl⟩
    rw [← hgk] at hD0 hkx ⊢
    clear hgk
    have hbx : b < wx.heap.size := hCx.out.lt
    go_cut [13, 14, 15] (fun s13 s14 s15 wy => ∃ (kd nm : ByteArray) (gv : Nat) (d : VD), s13 = .string kd ∧ s14 = .string nm ∧ s15 = .pointer (some ⟨gv, 0, none⟩) ∧ nm.size ≤ maxLen ∧ Hid (PickR wx wy b a' n' c' gv d))
    case first =>
      refine wp_region_held_drew (S := fun W => DR wx W b a' n' c' gk gn (ksA kind) (nsA name)) (by kernel_rfl) hD0.out.drew (fun hHeld => ?_)
      generalize wx.drew = u0 at hHeld ⊢
      refine wpAnyH_take (i := 0) (oi := ?oi1) (v := ?v1) ?ho1 (by kernel_rfl) (by kernel_rfl) (by kernel_rfl) ?hp1 (Or.inl ⟨?hw1, ?hy1⟩) (by assumption) ?rest1
      case ho1 => simp only [List.getElem?_toArray, List.getElem?_cons_zero]; rfl
      case hp1 => exact fun _ _ _ h => h
      case hw1 => rfl
      case hy1 =>
        intro W hSw
        go_simp
        try exact rfl
      simp only [Act.put, List.setIfInBounds_toArray, List.set_cons_zero, List.set_cons_succ]
      refine wpAnyH_take (i := 1) (oi := ?oi2) (v := ?v2) ?ho2 (by kernel_rfl) (by kernel_rfl) (by kernel_rfl) ?hp2 (Or.inl ⟨?hw2, ?hy2⟩) (by assumption) ?rest2
      case ho2 => simp only [List.getElem?_toArray, List.getElem?_cons_succ, List.getElem?_cons_zero]; rfl
      case hp2 => exact fun _ _ _ h => h
      case hw2 => rfl
      case hy2 =>
        intro W hSw
        go_simp
        try exact rfl
      simp only [Act.put, List.setIfInBounds_toArray, List.set_cons_zero, List.set_cons_succ]
      refine wpAnyH_take (i := 5) (oi := ?oi3) (v := ?v3) ?ho3 (by kernel_rfl) (by kernel_rfl) (by kernel_rfl) ?hp3 (Or.inl ⟨?hw3, ?hy3⟩) (by assumption) ?rest3
      case ho3 => simp only [List.getElem?_toArray, List.getElem?_cons_succ, List.getElem?_cons_zero]; rfl
      case hp3 => exact fun _ _ _ h => h
      case hw3 => rfl
      case hy3 =>
        intro W hSw
        go_simp
        try exact rfl
      simp only [Act.put, List.setIfInBounds_toArray, List.set_cons_zero, List.set_cons_succ]
      refine wpAnyH_take (i := 6) (oi := ?oi4) (v := ?v4) ?ho4 (by kernel_rfl) (by kernel_rfl) (by kernel_rfl) ?hp4 (Or.inl ⟨?hw4, ?hy4⟩) (by assumption) ?rest4
      case ho4 => simp only [List.getElem?_toArray, List.getElem?_cons_succ, List.getElem?_cons_zero]; rfl
      case hp4 => exact fun _ _ _ h => h
      case hw4 => rfl
      case hy4 =>
        intro W hSw
        go_simp
        try exact rfl
      simp only [Act.put, List.setIfInBounds_toArray, List.set_cons_zero, List.set_cons_succ]
      refine wpAnyH_take (i := 10) (oi := ?oi5) (v := ?v5) ?ho5 (by kernel_rfl) (by kernel_rfl) (by kernel_rfl) ?hp5 (Or.inl ⟨?hw5, ?hy5⟩) (by assumption) ?rest5
      case ho5 => simp only [List.getElem?_toArray, List.getElem?_cons_succ, List.getElem?_cons_zero]; rfl
      case hp5 => exact fun _ _ _ h => h
      case hw5 => rfl
      case hy5 =>
        intro W hSw
        go_simp
        try exact rfl
      simp only [Act.put, List.setIfInBounds_toArray, List.set_cons_zero, List.set_cons_succ]
      refine wpAnyH_ready (rs := [2, 12]) (by kernel_rfl) (by simp) ?_
      refine AllReadyH.cons rfl (fun K hK => ?_) (AllReadyH.cons rfl (fun K hK => ?_) AllReadyH.nil)
      · go_simp
        go_at_call 32
        refine (next_any b a' n' c' _ 3 (by omega) (by omega) (hCx.out.still hHeld.grown hHeld.head)).mono ?_
        rintro e u1 ⟨⟨q0, rfl, p0, p0'⟩, hH, hG⟩
        have hD := hHeld.call hG hH
        obtain ⟨i, rfl⟩ := Int.eq_ofNat_of_zero_le p0
        obtain ⟨kd, hkd⟩ := ks_at kind (i := i) (by omega)
        refine hK.out _ _ hD (fun hHeld => ?_)
        clear hK K hD hH hG
        try simp only [List.getElem_toArray, List.getElem_cons_succ, List.getElem_cons_zero, Act.put, List.setIfInBounds_toArray, List.set_cons_zero, List.set_cons_succ]
        refine wpAnyH_take (i := 3) (oi := ?oi6) (v := ?v6) ?ho6 (by kernel_rfl) (by kernel_rfl) (by kernel_rfl) ?hp6 (Or.inl ⟨?hw6, ?hy6⟩) (by assumption) ?rest6
        case ho6 => simp only [List.getElem?_toArray, List.getElem?_cons_succ, List.getElem?_cons_zero]; rfl
        case hp6 => exact fun _ _ _ h => h
        case hw6 => rfl
        case hy6 =>
          intro W hSw
          go_simp
          try exact rfl
        simp only [Act.put, List.setIfInBounds_toArray, List.set_cons_zero, List.set_cons_succ]
        refine wpAnyH_take (i := 4) (oi := ?oi7) (v := ?v7) ?ho7 (by kernel_rfl) (by kernel_rfl) (by kernel_rfl) ?hp7 (Or.inl ⟨?hw7, ?hy7⟩) (by assumption) ?rest7
        case ho7 => simp only [List.getElem?_toArray, List.getElem?_cons_succ, List.getElem?_cons_zero]; rfl
        case hp7 => exact fun _ _ _ h => h
        case hw7 => rfl
        case hy7 =>
          intro W hSw
          have k0 := (hSw.k.cell i).trans hkd
          go_simp
          try exact rfl
        simp only [Act.put, List.setIfInBounds_toArray, List.set_cons_zero, List.set_cons_succ]
        refine wpAnyH_ready (rs := [7, 12]) (by kernel_rfl) (by simp) ?_
        refine AllReadyH.cons rfl (fun K hK => ?_) (AllReadyH.cons rfl (fun K hK => ?_) AllReadyH.nil)
        · go_simp
          go_at_call 32
          refine (next_any b a' n' c' _ 5 (by omega) (by omega) (hCx.out.still hHeld.grown hHeld.head)).mono ?_
          rintro e u2 ⟨⟨q1, rfl, p1, p1'⟩, hH, hG⟩
          have hD := hHeld.call hG hH
          obtain ⟨j, rfl⟩ := Int.eq_ofNat_of_zero_le p1
          obtain ⟨nm, hnd, hnz⟩ := ns_at name hnm.out (j := j) (by omega)
          refine hK.out _ _ hD (fun hHeld => ?_)
          clear hK K hD hH hG
          try simp only [List.getElem_toArray, List.getElem_cons_succ, List.getElem_cons_zero, Act.put, List.setIfInBounds_toArray, List.set_cons_zero, List.set_cons_succ]
          refine wpAnyH_take (i := 8) (oi := ?oi8) (v := ?v8) ?ho8 (by kernel_rfl) (by kernel_rfl) (by kernel_rfl) ?hp8 (Or.inl ⟨?hw8, ?hy8⟩) (by assumption) ?rest8
          case ho8 => simp only [List.getElem?_toArray, List.getElem?_cons_succ, List.getElem?_cons_zero]; rfl
          case hp8 => exact fun _ _ _ h => h
          case hw8 => rfl
          case hy8 =>
            intro W hSw
            go_simp
            try exact rfl
          simp only [Act.put, List.setIfInBounds_toArray, List.set_cons_zero, List.set_cons_succ]
          refine wpAnyH_take (i := 9) (oi := ?oi9) (v := ?v9) ?ho9 (by kernel_rfl) (by kernel_rfl) (by kernel_rfl) ?hp9 (Or.inl ⟨?hw9, ?hy9⟩) (by assumption) ?rest9
          case ho9 => simp only [List.getElem?_toArray, List.getElem?_cons_succ, List.getElem?_cons_zero]; rfl
          case hp9 => exact fun _ _ _ h => h
          case hw9 => rfl
          case hy9 =>
            intro W hSw
            have k0 := (hSw.nm.cell j).trans hnd
            go_simp
            try exact rfl
          simp only [Act.put, List.setIfInBounds_toArray, List.set_cons_zero, List.set_cons_succ]
          refine wpAnyH_ready (rs := [11, 12]) (by kernel_rfl) (by simp) ?_
          refine AllReadyH.cons rfl (fun K hK => ?_) (AllReadyH.cons rfl (fun K hK => ?_) AllReadyH.nil)
          · go_simp
            go_at_call 33
            refine (any_any b a' n' c' _ (hCx.out.still hHeld.grown hHeld.head) (hgx.out.mono (sub_of_grown hHeld.grown))).mono ?_
            rintro e u3 ⟨⟨kk, -, -, d, rfl, -, hL⟩, hH, hG⟩
            rw [show d.row.toArray = #[.int .i64 d.kind, .int .i64 d.num, .string d.text, .slice d.ptr d.len d.cap] from rfl]
            replace hL := hL.mono (newM_but _ _ _)
            have hD := hHeld.call hG hH
            refine hK.out _ _ hD (fun hHeld => ?_)
            clear hK K hD hH hG
            try simp only [List.getElem_toArray, List.getElem_cons_succ, List.getElem_cons_zero, Act.put, List.setIfInBounds_toArray, List.set_cons_zero, List.set_cons_succ]
            refine wpAnyH_ready (rs := [12]) (by kernel_rfl) (by simp) ?_
            refine AllReadyH.cons rfl (fun K hK => ?_) AllReadyH.nil
            go_simp
            have hgl : wx.heap.size ≤ u3.heap.size := hHeld.grown.size
            have hZ := Own.new u3 #[.int .i64 0, .int .i64 0, .string ⟨#[]⟩, .slice none 0 0] 51
            replace hL := hL.mono (but_excl (X := [b, u3.heap.size]) (g_alloc (grown_refl u3 (some b)) (.cells #[.int .i64 0, .int .i64 0, .string ⟨#[]⟩, .slice none 0 0] 51)) (by simp))
            refine hK.out _ _ (hHeld.alloc _) (fun hHeld => ?_)
            clear hK K
            generalize u3.alloc (.cells #[.int .i64 0, .int .i64 0, .string ⟨#[]⟩, .slice none 0 0] 51) = u4 at hHeld hZ hL ⊢
            obtain ⟨gv, hgv⟩ : ∃ g : Nat, g = u3.heap.size := ⟨_, rfl⟩
            rw [← hgv] at hZ hgl hL ⊢
            clear hgv
            replace hZ := Lib.hid hZ
            replace hL := Lib.hid hL
            try simp only [List.getElem_toArray, List.getElem_cons_succ, List.getElem_cons_zero, Act.put, List.setIfInBounds_toArray, List.set_cons_zero, List.set_cons_succ]
            refine wpAnyH_take (i := 13) (oi := ?oi10) (v := ?v10) ?ho10 (by kernel_rfl) (by kernel_rfl) (by kernel_rfl) ?hp10 (Or.inl ⟨?hw10, ?hy10⟩) (by assumption) ?rest10
            case ho10 => simp only [List.getElem?_toArray, List.getElem?_cons_succ, List.getElem?_cons_zero]; rfl
            case hp10 => exact fun _ _ _ h => h
            case hw10 => rfl
            case hy10 =>
              intro W hSw
              go_simp
              try exact rfl
            simp only [Act.put, List.setIfInBounds_toArray, List.set_cons_zero, List.set_cons_succ]
            refine wpAnyH_take (i := 14) (oi := ?oi11) (v := ?v11) ?ho11 (by kernel_rfl) (by kernel_rfl) (by kernel_rfl) ?hp11 (Or.inl ⟨?hw11, ?hy11⟩) (by assumption) ?rest11
            case ho11 => simp only [List.getElem?_toArray, List.getElem?_cons_succ, List.getElem?_cons_zero]; rfl
            case hp11 => exact fun _ _ _ h => h
            case hw11 => rfl
            case hy11 =>
              intro W hSw
              go_simp
              try exact rfl
            simp only [Act.put, List.setIfInBounds_toArray, List.set_cons_zero, List.set_cons_succ]
            refine wpAnyH_ready (rs := [15]) (by kernel_rfl) (by simp) ?_
            refine AllReadyH.cons rfl (fun K hK => ?_) AllReadyH.nil
            obtain ⟨z0, z1, z2, z3, f0, f1, f2, f3⟩ := own4z hZ.out
            have hzl := hZ.out.lt
            go_simp
            refine hK.out _ _ (hHeld.set4 hgl hbx hkx hnx _ _ _ _) (fun _ => ?_)
            clear hK K
            try simp only [List.getElem_toArray, List.getElem_cons_succ, List.getElem_cons_zero, Act.put, List.setIfInBounds_toArray, List.set_cons_zero, List.set_cons_succ]
            refine wpAnyH_done (by kernel_rfl) ?_ _
            go_wp2
            go_meet
            exact ⟨kd, nm, gv, d, rfl, rfl, rfl, hnz, Lib.hid (PickR.start hHeld hZ.out hgl hbx hL.out)⟩
          · go_simp
            have hgl : wx.heap.size ≤ u2.heap.size := hHeld.grown.size
            have hZ := Own.new u2 #[.int .i64 0, .int .i64 0, .string ⟨#[]⟩, .slice none 0 0] 51
            refine hK.out _ _ (hHeld.alloc _) (fun hHeld => ?_)
            clear hK K
            generalize u2.alloc (.cells #[.int .i64 0, .int .i64 0, .string ⟨#[]⟩, .slice none 0 0] 51) = u3 at hHeld hZ ⊢
            obtain ⟨gv, hgv⟩ : ∃ g : Nat, g = u2.heap.size := ⟨_, rfl⟩
            rw [← hgv] at hZ hgl ⊢
            clear hgv
            replace hZ := Lib.hid hZ
            try simp only [List.getElem_toArray, List.getElem_cons_succ, List.getElem_cons_zero, Act.put, List.setIfInBounds_toArray, List.set_cons_zero, List.set_cons_succ]
            refine wpAnyH_ready (rs := [11]) (by kernel_rfl) (by simp) ?_
            refine AllReadyH.cons rfl (fun K hK => ?_) AllReadyH.nil
            go_simp
            go_at_call 33
            refine (any_any b a' n' c' _ (hCx.out.still hHeld.grown hHeld.head) (hgx.out.mono (sub_of_grown hHeld.grown))).mono ?_
            rintro e u4 ⟨⟨kk, -, -, d, rfl, -, hL⟩, hH, hG⟩
            rw [show d.row.toArray = #[.int .i64 d.kind, .int .i64 d.num, .string d.text, .slice d.ptr d.len d.cap] from rfl]
            have hL := Lib.hid (hL.mono (newM_excl (X := [b, gv]) (by simp; exact Or.inr hZ.out.lt)))
            have hD := hHeld.call hG hH
            replace hZ := Lib.hid (hZ.out.kept hG (by simp; omega))
            refine hK.out _ _ hD (fun hHeld => ?_)
            clear hK K hD hH hG
            try simp only [List.getElem_toArray, List.getElem_cons_succ, List.getElem_cons_zero, Act.put, List.setIfInBounds_toArray, List.set_cons_zero, List.set_cons_succ]
            refine wpAnyH_take (i := 13) (oi := ?oi12) (v := ?v12) ?ho12 (by kernel_rfl) (by kernel_rfl) (by kernel_rfl) ?hp12 (Or.inl ⟨?hw12, ?hy12⟩) (by assumption) ?rest12
            case ho12 => simp only [List.getElem?_toArray, List.getElem?_cons_succ, List.getElem?_cons_zero]; rfl
            case hp12 => exact fun _ _ _ h => h
            case hw12 => rfl
            case hy12 =>
              intro W hSw
              go_simp
              try exact rfl
            simp only [Act.put, List.setIfInBounds_toArray, List.set_cons_zero, List.set_cons_succ]
            refine wpAnyH_take (i := 14) (oi := ?oi13) (v := ?v13) ?ho13 (by kernel_rfl) (by kernel_rfl) (by kernel_rfl) ?hp13 (Or.inl ⟨?hw13, ?hy13⟩) (by assumption) ?rest13
            case ho13 => simp only [List.getElem?_toArray, List.getElem?_cons_succ, List.getElem?_cons_zero]; rfl
            case hp13 => exact fun _ _ _ h => h
            case hw13 => rfl
            case hy13 =>
              intro W hSw
              go_simp
              try exact rfl
            simp only [Act.put, List.setIfInBounds_toArray, List.set_cons_zero, List.set_cons_succ]
            refine wpAnyH_ready (rs := [15]) (by kernel_rfl) (by simp) ?_
            refine AllReadyH.cons rfl (fun K hK => ?_) AllReadyH.nil
            obtain ⟨z0, z1, z2, z3, f0, f1, f2, f3⟩ := own4z hZ.out
            have hzl := hZ.out.lt
            go_simp
            refine hK.out _ _ (hHeld.set4 hgl hbx hkx hnx _ _ _ _) (fun _ => ?_)
            clear hK K
            try simp only [List.getElem_toArray, List.getElem_cons_succ, List.getElem_cons_zero, Act.put, List.setIfInBounds_toArray, List.set_cons_zero, List.set_cons_succ]
            refine wpAnyH_done (by kernel_rfl) ?_ _
            go_wp2
            go_meet
            exact ⟨kd, nm, gv, d, rfl, rfl, rfl, hnz, Lib.hid (PickR.start hHeld hZ.out hgl hbx hL.out)⟩
        · go_simp
          have hgl : wx.heap.size ≤ u1.heap.size := hHeld.grown.size
          have hZ := Own.new u1 #[.int .i64 0, .int .i64 0, .string ⟨#[]⟩, .slice none 0 0] 51
          refine hK.out _ _ (hHeld.alloc _) (fun hHeld => ?_)
          clear hK K
          generalize u1.alloc (.cells #[.int .i64 0, .int .i64 0, .string ⟨#[]⟩, .slice none 0 0] 51) = u2 at hHeld hZ ⊢
          obtain ⟨gv, hgv⟩ : ∃ g : Nat, g = u1.heap.size := ⟨_, rfl⟩
          rw [← hgv] at hZ hgl ⊢
          clear hgv
          replace hZ := Lib.hid hZ
          try simp only [List.getElem_toArray, List.getElem_cons_succ, List.getElem_cons_zero, Act.put, List.setIfInBounds_toArray, List.set_cons_zero, List.set_cons_succ]
          refine wpAnyH_ready (rs := [7]) (by kernel_rfl) (by simp) ?_
          refine AllReadyH.cons rfl (fun K hK => ?_) AllReadyH.nil
          go_simp
          go_at_call 32
          refine (next_any b a' n' c' _ 5 (by omega) (by omega) (hCx.out.still hHeld.grown hHeld.head)).mono ?_
          rintro e u3 ⟨⟨q1, rfl, p1, p1'⟩, hH, hG⟩
          have hD := hHeld.call hG hH
          replace hZ := Lib.hid (hZ.out.kept hG (by simp; omega))
          obtain ⟨j, rfl⟩ := Int.eq_ofNat_of_zero_le p1
          obtain ⟨nm, hnd, hnz⟩ := ns_at name hnm.out (j := j) (by omega)
          refine hK.out _ _ hD (fun hHeld => ?_)
          clear hK K hD hH hG
          try simp only [List.getElem_toArray, List.getElem_cons_succ, List.getElem_cons_zero, Act.put, List.setIfInBounds_toArray, List.set_cons_zero, List.set_cons_succ]
          refine wpAnyH_take (i := 8) (oi := ?oi14) (v := ?v14) ?ho14 (by kernel_rfl) (by kernel_rfl) (by kernel_rfl) ?hp14 (Or.inl ⟨?hw14, ?hy14⟩) (by assumption) ?rest14
          case ho14 => simp only [List.getElem?_toArray, List.getElem?_cons_succ, List.getElem?_cons_zero]; rfl
          case hp14 => exact fun _ _ _ h => h
          case hw14 => rfl
          case hy14 =>
            intro W hSw
            go_simp
            try exact rfl
          simp only [Act.put, List.setIfInBounds_toArray, List.set_cons_zero, List.set_cons_succ]
          refine wpAnyH_take (i := 9) (oi := ?oi15) (v := ?v15) ?ho15 (by kernel_rfl) (by kernel_rfl) (by kernel_rfl) ?hp15 (Or.inl ⟨?hw15, ?hy15⟩) (by assumption) ?rest15
          case ho15 => simp only [List.getElem?_toArray, List.getElem?_cons_succ, List.getElem?_cons_zero]; rfl
          case hp15 => exact fun _ _ _ h => h
          case hw15 => rfl
          case hy15 =>
            intro W hSw
            have k0 := (hSw.nm.cell j).trans hnd
            go_simp
            try exact rfl
          simp only [Act.put, List.setIfInBounds_toArray, List.set_cons_zero, List.set_cons_succ]
          refine wpAnyH_ready (rs := [11]) (by kernel_rfl) (by simp) ?_
          refine AllReadyH.cons rfl (fun K hK => ?_) AllReadyH.nil
          go_simp
          go_at_call 33
          refine (any_any b a' n' c' _ (hCx.out.still hHeld.grown hHeld.head) (hgx.out.mono (sub_of_grown hHeld.grown))).mono ?_
          rintro e u4 ⟨⟨kk, -, -, d, rfl, -, hL⟩, hH, hG⟩
          rw [show d.row.toArray = #[.int .i64 d.kind, .int .i64 d.num, .string d.text, .slice d.ptr d.len d.cap] from rfl]
          have hL := Lib.hid (hL.mono (newM_excl (X := [b, gv]) (by simp; exact Or.inr hZ.out.lt)))
          have hD := hHeld.call hG hH
          replace hZ := Lib.hid (hZ.out.kept hG (by simp; omega))
          refine hK.out _ _ hD (fun hHeld => ?_)
          clear hK K hD hH hG
          try simp only [List.getElem_toArray, List.getElem_cons_succ, List.getElem_cons_zero, Act.put, List.setIfInBounds_toArray, List.set_cons_zero, List.set_cons_succ]
          refine wpAnyH_take (i := 13) (oi := ?oi16) (v := ?v16) ?ho16 (by kernel_rfl) (by kernel_rfl) (by kernel_rfl) ?hp16 (Or.inl ⟨?hw16, ?hy16⟩) (by assumption) ?rest16
          case ho16 => simp only [List.getElem?_toArray, List.getElem?_cons_succ, List.getElem?_cons_zero]; rfl
          case hp16 => exact fun _ _ _ h => h
          case hw16 => rfl
          case hy16 =>
            intro W hSw
            go_simp
            try exact rfl
          simp only [Act.put, List.setIfInBounds_toArray, List.set_cons_zero, List.set_cons_succ]
          refine wpAnyH_take (i := 14) (oi := ?oi17) (v := ?v17) ?ho17 (by kernel_rfl) (by kernel_rfl) (by kernel_rfl) ?hp17 (Or.inl ⟨?hw17, ?hy17⟩) (by assumption) ?rest17
          case ho17 => simp only [List.getElem?_toArray, List.getElem?_cons_succ, List.getElem?_cons_zero]; rfl
          case hp17 => exact fun _ _ _ h => h
          case hw17 => rfl
          case hy17 =>
            intro W hSw
            go_simp
            try exact rfl
          simp only [Act.put, List.setIfInBounds_toArray, List.set_cons_zero, List.set_cons_succ]
          refine wpAnyH_ready (rs := [15]) (by kernel_rfl) (by simp) ?_
          refine AllReadyH.cons rfl (fun K hK => ?_) AllReadyH.nil
          obtain ⟨z0, z1, z2, z3, f0, f1, f2, f3⟩ := own4z hZ.out
          have hzl := hZ.out.lt
          go_simp
          refine hK.out _ _ (hHeld.set4 hgl hbx hkx hnx _ _ _ _) (fun _ => ?_)
          clear hK K
          try simp only [List.getElem_toArray, List.getElem_cons_succ, List.getElem_cons_zero, Act.put, List.setIfInBounds_toArray, List.set_cons_zero, List.set_cons_succ]
          refine wpAnyH_done (by kernel_rfl) ?_ _
          go_wp2
          go_meet
          exact ⟨kd, nm, gv, d, rfl, rfl, rfl, hnz, Lib.hid (PickR.start hHeld hZ.out hgl hbx hL.out)⟩
      · go_simp
        have hgl : wx.heap.size ≤ u0.heap.size := hHeld.grown.size
        have hZ := Own.new u0 #[.int .i64 0, .int .i64 0, .string ⟨#[]⟩, .slice none 0 0] 51
        refine hK.out _ _ (hHeld.alloc _) (fun hHeld => ?_)
        clear hK K
        generalize u0.alloc (.cells #[.int .i64 0, .int .i64 0, .string ⟨#[]⟩, .slice none 0 0] 51) = u1 at hHeld hZ ⊢
        obtain ⟨gv, hgv⟩ : ∃ g : Nat, g = u0.heap.size := ⟨_, rfl⟩
        rw [← hgv] at hZ hgl ⊢
        clear hgv
        replace hZ := Lib.hid hZ
        try simp only [List.getElem_toArray, List.getElem_cons_succ, List.getElem_cons_zero, Act.put, List.setIfInBounds_toArray, List.set_cons_zero, List.set_cons_succ]
        refine wpAnyH_ready (rs := [2]) (by kernel_rfl) (by simp) ?_
        refine AllReadyH.cons rfl (fun K hK => ?_) AllReadyH.nil
        go_simp
        go_at_call 32
        refine (next_any b a' n' c' _ 3 (by omega) (by omega) (hCx.out.still hHeld.grown hHeld.head)).mono ?_
        rintro e u2 ⟨⟨q0, rfl, p0, p0'⟩, hH, hG⟩
        have hD := hHeld.call hG hH
        replace hZ := Lib.hid (hZ.out.kept hG (by simp; omega))
        obtain ⟨i, rfl⟩ := Int.eq_ofNat_of_zero_le p0
        obtain ⟨kd, hkd⟩ := ks_at kind (i := i) (by omega)
        refine hK.out _ _ hD (fun hHeld => ?_)
        clear hK K hD hH hG
        try simp only [List.getElem_toArray, List.getElem_cons_succ, List.getElem_cons_zero, Act.put, List.setIfInBounds_toArray, List.set_cons_zero, List.set_cons_succ]
        refine wpAnyH_take (i := 3) (oi := ?oi18) (v := ?v18) ?ho18 (by kernel_rfl) (by kernel_rfl) (by kernel_rfl) ?hp18 (Or.inl ⟨?hw18, ?hy18⟩) (by assumption) ?rest18
        case ho18 => simp only [List.getElem?_toArray, List.getElem?_cons_succ, List.getElem?_cons_zero]; rfl
        case hp18 => exact fun _ _ _ h => h
        case hw18 => rfl
        case hy18 =>
          intro W hSw
          go_simp
          try exact rfl
        simp only [Act.put, List.setIfInBounds_toArray, List.set_cons_zero, List.set_cons_succ]
        refine wpAnyH_take (i := 4) (oi := ?oi19) (v := ?v19) ?ho19 (by kernel_rfl) (by kernel_rfl) (by kernel_rfl) ?hp19 (Or.inl ⟨?hw19, ?hy19⟩) (by assumption) ?rest19
        case ho19 => simp only [List.getElem?_toArray, List.getElem?_cons_succ, List.getElem?_cons_zero]; rfl
        case hp19 => exact fun _ _ _ h => h
        case hw19 => rfl
        case hy19 =>
          intro W hSw
          have k0 := (hSw.k.cell i).trans hkd
          go_simp
          try exact rfl
        simp only [Act.put, List.setIfInBounds_toArray, List.set_cons_zero, List.set_cons_succ]
        refine wpAnyH_ready (rs := [7]) (by kernel_rfl) (by simp) ?_
        refine AllReadyH.cons rfl (fun K hK => ?_) AllReadyH.nil
        go_simp
        go_at_call 32
        refine (next_any b a' n' c' _ 5 (by omega) (by omega) (hCx.out.still hHeld.grown hHeld.head)).mono ?_
        rintro e u3 ⟨⟨q1, rfl, p1, p1'⟩, hH, hG⟩
        have hD := hHeld.call hG hH
        replace hZ := Lib.hid (hZ.out.kept hG (by simp; omega))
        obtain ⟨j, rfl⟩ := Int.eq_ofNat_of_zero_le p1
        obtain ⟨nm, hnd, hnz⟩ := ns_at name hnm.out (j := j) (by omega)
        refine hK.out _ _ hD (fun hHeld => ?_)
        clear hK K hD hH hG
        try simp only [List.getElem_toArray, List.getElem_cons_succ, List.getElem_cons_zero, Act.put, List.setIfInBounds_toArray, List.set_cons_zero, List.set_cons_succ]
        refine wpAnyH_take (i := 8) (oi := ?oi20) (v := ?v20) ?ho20 (by kernel_rfl) (by kernel_rfl) (by kernel_rfl) ?hp20 (Or.inl ⟨?hw20, ?hy20⟩) (by assumption) ?rest20
        case ho20 => simp only [List.getElem?_toArray, List.getElem?_cons_succ, List.getElem?_cons_zero]; rfl
        case hp20 => exact fun _ _ _ h => h
        case hw20 => rfl
        case hy20 =>
          intro W hSw
          go_simp
          try exact rfl
        simp only [Act.put, List.setIfInBounds_toArray, List.set_cons_zero, List.set_cons_succ]
        refine wpAnyH_take (i := 9) (oi := ?oi21) (v := ?v21) ?ho21 (by kernel_rfl) (by kernel_rfl) (by kernel_rfl) ?hp21 (Or.inl ⟨?hw21, ?hy21⟩) (by assumption) ?rest21
        case ho21 => simp only [List.getElem?_toArray, List.getElem?_cons_succ, List.getElem?_cons_zero]; rfl
        case hp21 => exact fun _ _ _ h => h
        case hw21 => rfl
        case hy21 =>
          intro W hSw
          have k0 := (hSw.nm.cell j).trans hnd
          go_simp
          try exact rfl
        simp only [Act.put, List.setIfInBounds_toArray, List.set_cons_zero, List.set_cons_succ]
        refine wpAnyH_ready (rs := [11]) (by kernel_rfl) (by simp) ?_
        refine AllReadyH.cons rfl (fun K hK => ?_) AllReadyH.nil
        go_simp
        go_at_call 33
        refine (any_any b a' n' c' _ (hCx.out.still hHeld.grown hHeld.head) (hgx.out.mono (sub_of_grown hHeld.grown))).mono ?_
        rintro e u4 ⟨⟨kk, -, -, d, rfl, -, hL⟩, hH, hG⟩
        rw [show d.row.toArray = #[.int .i64 d.kind, .int .i64 d.num, .string d.text, .slice d.ptr d.len d.cap] from rfl]
        have hL := Lib.hid (hL.mono (newM_excl (X := [b, gv]) (by simp; exact Or.inr hZ.out.lt)))
        have hD := hHeld.call hG hH
        replace hZ := Lib.hid (hZ.out.kept hG (by simp; omega))
        refine hK.out _ _ hD (fun hHeld => ?_)
        clear hK K hD hH hG
        try simp only [List.getElem_toArray, List.getElem_cons_succ, List.getElem_cons_zero, Act.put, List.setIfInBounds_toArray, List.set_cons_zero, List.set_cons_succ]
        refine wpAnyH_take (i := 13) (oi := ?oi22) (v := ?v22) ?ho22 (by kernel_rfl) (by kernel_rfl) (by kernel_rfl) ?hp22 (Or.inl ⟨?hw22, ?hy22⟩) (by assumption) ?rest22
        case ho22 => simp only [List.getElem?_toArray, List.getElem?_cons_succ, List.getElem?_cons_zero]; rfl
        case hp22 => exact fun _ _ _ h => h
        case hw22 => rfl
        case hy22 =>
          intro W hSw
          go_simp
          try exact rfl
        simp only [Act.put, List.setIfInBounds_toArray, List.set_cons_zero, List.set_cons_succ]
        refine wpAnyH_take (i := 14) (oi := ?oi23) (v := ?v23) ?ho23 (by kernel_rfl) (by kernel_rfl) (by kernel_rfl) ?hp23 (Or.inl ⟨?hw23, ?hy23⟩) (by assumption) ?rest23
        case ho23 => simp only [List.getElem?_toArray, List.getElem?_cons_succ, List.getElem?_cons_zero]; rfl
        case hp23 => exact fun _ _ _ h => h
        case hw23 => rfl
        case hy23 =>
          intro W hSw
          go_simp
          try exact rfl
        simp only [Act.put, List.setIfInBounds_toArray, List.set_cons_zero, List.set_cons_succ]
        refine wpAnyH_ready (rs := [15]) (by kernel_rfl) (by simp) ?_
        refine AllReadyH.cons rfl (fun K hK => ?_) AllReadyH.nil
        obtain ⟨z0, z1, z2, z3, f0, f1, f2, f3⟩ := own4z hZ.out
        have hzl := hZ.out.lt
        go_simp
        refine hK.out _ _ (hHeld.set4 hgl hbx hkx hnx _ _ _ _) (fun _ => ?_)
        clear hK K
        try simp only [List.getElem_toArray, List.getElem_cons_succ, List.getElem_cons_zero, Act.put, List.setIfInBounds_toArray, List.set_cons_zero, List.set_cons_succ]
        refine wpAnyH_done (by kernel_rfl) ?_ _
        go_wp2
        go_meet
        exact ⟨kd, nm, gv, d, rfl, rfl, rfl, hnz, Lib.hid (PickR.start hHeld hZ.out hgl hbx hL.out)⟩
    obtain ⟨kd, nm, gv, d, rfl, rfl, rfl, hnz, hP⟩ := hcut
    have hsx : gs < wx.heap.size := hOsx.out.lt
    go_wp2_with fail
    refine (next_any b a' n' c' _ 5 (by omega) (by omega) (hCx.out.still hP.out.grown hP.out.head)).mono ?_
    rintro e w12 ⟨⟨m2, rfl, q0, q1⟩, hH, hG⟩
    have hP2 := Lib.hid (hP.out.call hG hH)
    have hOr2 := Lib.hid (hOrx.out.kept hP2.out.grown (by simp; omega))
    have hB2 := Lib.hid (hBx.out.trans (below_of_grown hP2.out.grown hBx.out.size hsz))
    clear hH hG hP hD0 hOrx
    go_upto_if 62 with fail
    go_cut [] (fun wy => ∃ D : VD, Hid (PickR wx wy b a' n' c' gv D))
    case first =>
      by_cases hm2 : m2 = 1
      case pos =>
        subst hm2
        have hgl := hP2.out.low
        have hxs := hBx.out.size
        have hrv2 : LAt (excl [b, gv] w12) rv := hrv.out.mono (old_excl hB2.out (by simp; omega))
        obtain ⟨r0, r1, r2, r3, -⟩ := own4z hOr2.out
        obtain ⟨z0, z1, z2, z3, f0, f1, f2, f3⟩ := own4z hP2.out.own
        have hzl := hP2.out.own.lt
        have hP3 := Lib.hid (hP2.out.put hrv2)
        clear hrv2 hP2 hOr2 hB2
        go_wp2
        go_meet
        exact ⟨rv, hP3⟩
      case neg =>
        have hmb : (m2 == 1) = false := by simp [hm2]
        go_wp2
        go_meet
        exact ⟨d, hP2⟩
    case rest =>
      obtain ⟨D, hP3⟩ := hcut
      clear hP2 hOr2 hB2
      generalize wc = w13 at hP3 ⊢
      have hO13 := hOsx.out.kept hP3.out.grown (by simp; omega)
      have hB13 := Lib.hid (hBx.out.trans (below_of_grown hP3.out.grown hBx.out.size hsz))
      have hS13 := Lib.hid ((hSx.out.mono (sub_of_grown hP3.out.grown)).mono (but_sub _ _))
      have hL13 := Lib.hid (hP3.out.lat.mono (excl_sub _ _))
      have hV13 := Lib.hid hP3.out.own
      have s0 := hO13.cell 0
      have hsl := hO13.lt
      simp only [List.getElem?_toArray, List.getElem?_cons_zero] at s0
      replace hO13 := Lib.hid hO13
      obtain ⟨z0, z1, z2, z3, -⟩ := own4z hV13.out
      have hzl := hV13.out.lt
      clear hP3 hCx hgx hBx hOsx hSx hkx hnx hbx hsx q0 q1
      go_wp2_with fail
      refine (with_any L sa sn sc kd nm D _ hS13.out hL13.out (hT0.out.below hB13.out)).mono ?_
      rintro e w14 ⟨⟨a1, n1, c1, l1, rfl, hal1, hS1⟩, hb14⟩
      obtain ⟨z, hz⟩ : ∃ z, Hid ((withS L kd nm D).2 = z) := ⟨_, Lib.hid rfl⟩
      rw [hz.out]
      have hbA := hb14.trans (((Below.refl w14.heap.size w14).alloc (Nat.le_refl _) (.cells #[.slice a1 n1 c1] 24)).mono hb14.size)
      have hBA := Lib.hid (hB13.out.trans (hbA.mono hB13.out.size))
      have hOA := Lib.hid (hO13.out.below hbA hsl)
      have hVA := Lib.hid (hV13.out.below hbA hzl)
      have hSA := Lib.hid (hS13.out.mono (sub_of_below hbA))
      have hLA := Lib.hid (hL13.out.mono (sub_of_below hbA))
      have h1A := Lib.hid (Own.new w14 #[.slice a1 n1 c1] 24)
      have hS1A := Lib.hid (hS1.mono (sub_of_below ((Below.refl w14.heap.size w14).alloc (Nat.le_refl _) (.cells #[.slice a1 n1 c1] 24))))
      replace hal1 := Lib.hid hal1
      clear hb14 hbA hS1 s0 hsl z0 z1 z2 z3 hzl hO13 hV13 hS13 hL13 hB13
      go_upto_region 15 with fail
      generalize w14.alloc (.cells #[.slice a1 n1 c1] 24) = wA at hBA hOA hVA hSA hLA h1A hS1A ⊢
      obtain ⟨g1, hg1⟩ : ∃ g : Nat, g = w14.heap.size := ⟨_, rfl⟩
      rw [← hg1] at h1A ⊢
      clear hg1
      have s0 := hOA.out.cell 0
      have hsl := hOA.out.lt
      simp only [List.getElem?_toArray, List.getElem?_cons_zero] at s0
      obtain ⟨z0, z1, z2, z3, -⟩ := own4z hVA.out
      have hzl := hVA.out.lt
      have h1l := h1A.out.lt
      go_wp2_with fail
      refine (with_ref L sa sn sc kd nm D _ hSA.out hN8.out hLA.out (hT0.out.below hBA.out) hnz).mono ?_
      rintro e w15 ⟨⟨a2, n2, c2, l2, rfl, hal2, hS2⟩, hb15⟩
      rw [hz.out]
      have hbB := hb15.trans (((Below.refl w15.heap.size w15).alloc (Nat.le_refl _) (.cells #[.slice a2 n2 c2] 24)).mono hb15.size)
      have hBB := Lib.hid (hBA.out.trans (hbB.mono hBA.out.size))
      have hOB := Lib.hid (hOA.out.below hbB hsl)
      have hVB := Lib.hid (hVA.out.below hbB hzl)
      have hSB := Lib.hid (hSA.out.mono (sub_of_below hbB))
      have hLB := Lib.hid (hLA.out.mono (sub_of_below hbB))
      have h1B := Lib.hid (h1A.out.below hbB h1l)
      have hS1B := Lib.hid (hS1A.out.mono (sub_of_below hbB))
      have h2B := Lib.hid (Own.new w15 #[.slice a2 n2 c2] 24)
      have hS2B := Lib.hid (hS2.mono (sub_of_below ((Below.refl w15.heap.size w15).alloc (Nat.le_refl _) (.cells #[.slice a2 n2 c2] 24))))
      have hpr := Lib.hid (pairs_alike hal1.out hal2)
      clear hb15 hbB hS2 s0 hsl z0 z1 z2 z3 hzl h1l hOA hVA hSA hLA hBA h1A hS1A hal2
      go_upto_region 16 with fail
      generalize w15.alloc (.cells #[.slice a2 n2 c2] 24) = wB at hBB hOB hVB hSB hLB h1B hS1B h2B hS2B ⊢
      obtain ⟨g2, hg2⟩ : ∃ g : Nat, g = w15.heap.size := ⟨_, rfl⟩
      rw [← hg2] at h2B ⊢
      clear hg2
      have x0 := h1B.out.cell 0
      have y0 := h2B.out.cell 0
      have hxl := h1B.out.lt
      have hyl := h2B.out.lt
      have hol := hOB.out.lt
      have hvl := hVB.out.lt
      simp only [List.getElem?_toArray, List.getElem?_cons_zero] at x0 y0
      have cS := Lib.hid (same_ref l1 l2 a1 a2 n1 n2 c1 c2 _ hS1B.out hS2B.out)
      go_wp2_with fail
      refine cS.out.mono ?_
      rintro e w16 ⟨⟨bb, rfl, hbb⟩, hb16⟩
      obtain rfl : bb = true := hbb.2 hpr.out
      have hBC := Lib.hid (hBB.out.trans (hb16.mono hBB.out.size))
      have hOC := Lib.hid (hOB.out.below hb16 hol)
      have hVC := Lib.hid (hVB.out.below hb16 hvl)
      have hSC := Lib.hid (hSB.out.mono (sub_of_below hb16))
      have hLC := Lib.hid (hLB.out.mono (sub_of_below hb16))
      have h1C := Lib.hid (h1B.out.below hb16 hxl)
      have hS1C := Lib.hid (hS1B.out.mono (sub_of_below hb16))
      clear hb16 hbb cS hpr x0 y0 hxl hyl hol hvl hBB hOB hVB hSB hLB h1B hS1B h2B hS2B
      by_cases hz0 : z = 0
      case neg =>
        go_wp2
        go_ret
        exact ⟨rfl, hBC.out⟩
      subst hz0
      obtain ⟨ct, hct, hkey, hput⟩ := withS_ok hz.out
      have hal := hal1.out
      rw [hput] at hal
      have hself := look_alike hal kd.toList nm.toList
      rw [look_put_self hct hkey] at hself
      obtain ⟨x, hx, hxv⟩ : ∃ x, lookS l1 kd.toList nm.toList = some x ∧ SameV x D := by
        cases ho : lookS l1 kd.toList nm.toList with
        | none => rw [ho] at hself; exact hself.elim
        | some x => rw [ho] at hself; exact ⟨x, rfl, hself⟩
      have hoth := Lib.hid (fun (k2 m3 : List UInt8) (hne : (k2 == kd.toList) = false ∨ (nm.toList == m3) = false) => show SameO (lookS l1 k2 m3) (lookS L k2 m3) from by
        have := look_alike hal k2 m3
        rw [look_put_other hne] at this
        exact this)
      replace hx := Lib.hid hx
      replace hxv := Lib.hid hxv
      clear hself hal hput hkey hct hz hal1
      have x0 := h1C.out.cell 0
      have hxl := h1C.out.lt
      have hol := hOC.out.lt
      have hvl := hVC.out.lt
      simp only [List.getElem?_toArray, List.getElem?_cons_zero] at x0
      have cL := Lib.hid (lkP l1 a1 n1 c1 kd nm w16 w16 (Aft.refl _) hS1C.out)
      go_wp2_with fail
      refine cL.out.mono ?_
      rintro e w17 ⟨⟨dx, rfl, hdx, hLx⟩, hb17⟩
      rw [hx.out] at hdx ⊢
      rw [show (some x).isSome = true from rfl]
      have hbB := hb17.trans (((Below.refl w17.heap.size w17).alloc (Nat.le_refl _) (.cells #[.int .i64 dx.kind, .int .i64 dx.num, .string dx.text, .slice dx.ptr dx.len dx.cap] 51)).mono hb17.size)
      have hBD := Lib.hid (hBC.out.trans (hbB.mono hBC.out.size))
      have hOD := Lib.hid (hOC.out.below hbB hol)
      have hVD := Lib.hid (hVC.out.below hbB hvl)
      have hSD := Lib.hid (hSC.out.mono (sub_of_below hbB))
      have hLD := Lib.hid (hLC.out.mono (sub_of_below hbB))
      have h1D := Lib.hid (h1C.out.below hbB hxl)
      have hS1D := Lib.hid (hS1C.out.mono (sub_of_below hbB))
      have hXD := Lib.hid (Own.new w17 #[.int .i64 dx.kind, .int .i64 dx.num, .string dx.text, .slice dx.ptr dx.len dx.cap] 51)
      have hLxD := Lib.hid ((hLx.mono (mOut_in _ _ _)).mono (sub_of_below ((Below.refl w17.heap.size w17).alloc (Nat.le_refl _) (.cells #[.int .i64 dx.kind, .int .i64 dx.num, .string dx.text, .slice dx.ptr dx.len dx.cap] 51))))
      have heq := Lib.hid (eqV_two hdx ⟨hxv.out.1.symm, hxv.out.2.1.symm, hxv.out.2.2.1.symm, hxv.out.2.2.2.symm⟩)
      clear hb17 hbB hLx hdx cL x0 hxl hol hvl hBC hOC hVC hSC hLC h1C hS1C
      go_upto_region 21 with fail
      generalize w17.alloc (.cells #[.int .i64 dx.kind, .int .i64 dx.num, .string dx.text, .slice dx.ptr dx.len dx.cap] 51) = wD at hBD hOD hVD hSD hLD h1D hS1D hXD hLxD ⊢
      obtain ⟨gx, hgx⟩ : ∃ g : Nat, g = w17.heap.size := ⟨_, rfl⟩
      rw [← hgx] at hXD ⊢
      clear hgx
      have hol := hOD.out.lt
      have h1l := h1D.out.lt
      obtain ⟨x0, x1, x2, x3, -⟩ := own4z hXD.out
      obtain ⟨z0, z1, z2, z3, -⟩ := own4z hVD.out
      have hxl := hXD.out.lt
      have hvl := hVD.out.lt
      have cE := eqs_ref dx D wD hLxD.out hLD.out
      rw [heq.out] at cE
      replace cE := Lib.hid cE
      go_wp2_with fail
      refine cE.out.mono ?_
      rintro e w18 ⟨rfl, hb18⟩
      have hBE := Lib.hid (hBD.out.trans (hb18.mono hBD.out.size))
      have hOE := Lib.hid (hOD.out.below hb18 hol)
      have hSE := Lib.hid (hSD.out.mono (sub_of_below hb18))
      have h1E := Lib.hid (h1D.out.below hb18 h1l)
      have hS1E := Lib.hid (hS1D.out.mono (sub_of_below hb18))
      clear hb18 cE heq x0 x1 x2 x3 z0 z1 z2 z3 hxl hvl hol h1l hBD hOD hVD hSD hLD h1D hS1D hXD hLxD hx hxv
      go_wp2_with fail
      refine (declared_any _).mono ?_
      rintro e w19 ⟨rfl, rfl⟩
      have hbF : Below w18.heap.size w18 (w18.alloc (.cells declArr 69)) := (Below.refl _ _).alloc (Nat.le_refl _) _
      have hBF := Lib.hid (hBE.out.trans (hbF.mono hBE.out.size))
      have hOF := Lib.hid (hOE.out.below hbF hOE.out.lt)
      have hSF := Lib.hid (hSE.out.mono (sub_of_below hbF))
      have h1F := Lib.hid (h1E.out.below hbF h1E.out.lt)
      have hS1F := Lib.hid (hS1E.out.mono (sub_of_below hbF))
      have hDF := Lib.hid (Own.new w18 declArr 69)
      clear hbF hBE hOE hSE h1E hS1E
      go_wp2_with fail
      generalize w18.alloc (.cells declArr 69) = wn at hBF hOF hSF h1F hS1F hDF ⊢
      obtain ⟨gd, hgd⟩ : ∃ g : Nat, g = w18.heap.size := ⟨_, rfl⟩
      rw [← hgd] at hDF ⊢
      clear hgd
      go_loopw [23] (fun s23 wr => ∃ i : Nat, i ≤ 8 ∧ s23 = .int .i64 i ∧ Hid (Below wn.heap.size wn wr)) (fun s23 _ => 8 - (intOf s23).toNat)
      case atStart => exact ⟨0, by omega, rfl, Lib.hid (Below.refl _ _)⟩
      case round =>
        obtain ⟨i, hi, rfl, hy⟩ := hrel
        have hBr := Lib.hid (hBF.out.trans (hy.out.mono hBF.out.size))
        by_cases hil : i < 8
        case neg =>
          go_wp2
          go_ret
          exact ⟨rfl, hBr.out⟩
        obtain ⟨p0, p1, p2⟩ := declArr_at i hil
        have hOr := Lib.hid (hOF.out.below hy.out hOF.out.lt)
        have h1r := Lib.hid (h1F.out.below hy.out h1F.out.lt)
        have hDr := Lib.hid (hDF.out.below hy.out hDF.out.lt)
        have hSr := Lib.hid (hSF.out.mono (sub_of_below hy.out))
        have hS1r := Lib.hid (hS1F.out.mono (sub_of_below hy.out))
        have k0 := (hDr.out.cell (i * 3)).trans p0
        have v0 := (hDr.out.cell (i * 3 + 1)).trans p1
        have j0 : (0 : Int) ≤ (i : Int) := by omega
        have j1 : (i : Int) < 8 := by omega
        generalize (declD[i]'hil) = dd at k0 v0 p0 p1 p2
        obtain ⟨dk, dn, dt⟩ := dd
        simp only at k0 v0
        clear p0 p1 p2
        have hst := Lib.hid (hoth.out dk.toList dn.toList)
        obtain ⟨bk, hbk⟩ : ∃ x, Hid ((dk.toList == kd.toList) = x) := ⟨_, Lib.hid rfl⟩
        obtain ⟨bn, hbn⟩ : ∃ x, Hid ((dn.toList == nm.toList) = x) := ⟨_, Lib.hid rfl⟩
        have hst2 := Lib.hid (show (bk && bn) = false → SameO (lookS l1 dk.toList dn.toList) (lookS L dk.toList dn.toList) from fun hb => by
          refine hst.out ?_
          rw [Bool.and_eq_false_iff, ← hbk.out, ← hbn.out] at hb
          rcases hb with hb | hb
          · exact Or.inl hb
          · refine Or.inr ?_
            rw [Bool.eq_false_iff] at hb ⊢
            intro e
            exact hb (by rw [eq_of_beq e]; simp))
        clear hst
        go_upto_region 27 with fail
        go_cut [128] (fun s128 wy => s128 = .bool (bk && bn) ∧ wy = wr)
        case first =>
          have e1 := hbk.out
          have e2 := hbn.out
          clear hst2
          cases bk with
          | false =>
            go_wp2
            go_meet
            exact ⟨rfl, rfl⟩
          | true =>
            cases bn with
            | false =>
              go_wp2
              go_meet
              exact ⟨rfl, rfl⟩
            | true =>
              go_wp2
              go_meet
              exact ⟨rfl, rfl⟩
        obtain ⟨rfl, hwc⟩ := hcut
        replace hwc := hwc.symm
        subst hwc
        clear hbk hbn
        generalize hbb : (bk && bn) = bb at hst2 ⊢
        clear hbb
        cases bb with
        | true =>
          clear hst2
          go_wp2
          go_roundw
          case rel => exact ⟨i + 1, by omega, by go_num, hy⟩
          case measure => simp [intOf]; omega
        | false =>
          have hso := Lib.hid (hst2.out rfl)
          clear hst2
          go_upto_region 28 with fail
          have t0 := hOr.out.cell 0
          simp only [List.getElem?_toArray, List.getElem?_cons_zero] at t0
          obtain ⟨vo, hvo⟩ : ∃ o, lookS L dk.toList dn.toList = o := ⟨_, rfl⟩
          obtain ⟨v1, hv1⟩ : ∃ o, lookS l1 dk.toList dn.toList = o := ⟨_, rfl⟩
          rw [hvo, hv1] at hso
          go_cut [24, 25] (fun ta tb wy => Hid (OutV wr vo ta tb wy))
          case first =>
            have hKp : Hid (∀ u, Aft wr u → u.cell? ⟨gs, 0, none⟩ = some (.slice sa sn sc) ∧ u.cell? ⟨gd, i * 3, none⟩ = some (.string dk) ∧ u.cell? ⟨gd, i * 3 + 1, none⟩ = some (.string dn)) :=
              Lib.hid fun u hb => ⟨cell_later hb t0, cell_later hb k0, cell_later hb v0⟩
            have cA : Hid (∀ (u : World) (hb : Aft wr u), Calls Tryz.prog 25 #[.agg #[.slice sa sn sc], .string dk, .string dn] u fun e u' => LkR vo wr.heap.size u.heap.size e u' ∧ Aft u u') :=
              Lib.hid (fun u hb => by rw [← hvo]; exact lkF L sa sn sc dk dn wr u hb hSr.out)
            clear t0 k0 v0
            go_region_held3 (fun u => u.cell? ⟨gs, 0, none⟩ = some (.slice sa sn sc) ∧ u.cell? ⟨gd, i * 3, none⟩ = some (.string dk) ∧ u.cell? ⟨gd, i * 3 + 1, none⟩ = some (.string dn))
              (exact hKp.out _ (by repeat (first | assumption | exact Aft.refl _ | apply Aft.dr | apply Aft.alloc | (refine Aft.set ?_ (by simp) _))))
              ((go_at_call 25; (with_reducible refine (cA.out _ (by repeat (first | assumption | exact Aft.refl _ | apply Aft.dr | apply Aft.alloc))).mono ?_); rintro e u1 ⟨⟨dd, rfl, q1, q2⟩, hz0⟩; replace q1 := Lib.hid q1; replace q2 := Lib.hid q2; have hz1 : Aft wr u1 := Aft.next hz0 (by repeat (first | assumption | exact Aft.refl _ | apply Aft.dr | apply Aft.alloc)); (try (have hzo : Own u1 wr.heap.size #[.int .i64 0, .int .i64 0, .string ⟨#[]⟩, .slice none 0 0] 51 := Own.below (w := (wr.alloc (.cells #[.int .i64 0, .int .i64 0, .string ⟨#[]⟩, .slice none 0 0] 51)).drew) (show Own (wr.alloc (.cells #[.int .i64 0, .int .i64 0, .string ⟨#[]⟩, .slice none 0 0] 51)) wr.heap.size _ _ from Own.new wr _ _) hz0 (show wr.heap.size < (wr.alloc (.cells #[.int .i64 0, .int .i64 0, .string ⟨#[]⟩, .slice none 0 0] 51)).heap.size by simp); obtain ⟨z0, z1, z2, z3, f0, f1, f2, f3⟩ := own4z hzo; have hzl := hzo.lt; replace hzo := Lib.hid hzo))))
            all_goals
              go_wp2
              go_meet
              first
                | exact Lib.hid (outV_new q1.out q2.out hz1)
                | exact Lib.hid (outV_old q1.out q2.out hz1 hzo.out (Nat.le_refl _) (show wr.heap.size < (wr.alloc _).heap.size by simp))
          case rest =>
            obtain ⟨ga, d3, rfl, rfl, hO3, hs3, hc3, hx4⟩ := hcut.out
            clear hcut
            have hy4 := Lib.hid (hy.out.trans (Below.mono hx4 hy.out.size))
            have h14 := Lib.hid (h1r.out.below hx4 h1r.out.lt)
            have hD4 := Lib.hid (hDr.out.below hx4 hDr.out.lt)
            have hS4 := Lib.hid (hS1r.out.mono (sub_of_below hx4))
            have k4 := cell_later hx4 k0
            have v4 := cell_later hx4 v0
            replace hO3 := Lib.hid hO3
            replace hs3 := Lib.hid hs3
            replace hc3 := Lib.hid hc3
            clear hx4 hy hBr hOr h1r hDr hSr hS1r t0 k0 v0
            go_upto_region 29 with fail
            have t0 := h14.out.cell 0
            simp only [List.getElem?_toArray, List.getElem?_cons_zero] at t0
            have k0 := k4
            have v0 := v4
            clear k4 v4
            generalize wc = wv at hy4 h14 hD4 hS4 hO3 hc3 t0 k0 v0 ⊢
            go_cut [26, 27] (fun ta tb wy => Hid (OutV wv v1 ta tb wy))
            case first =>
              have hKp : Hid (∀ u, Aft wv u → u.cell? ⟨g1, 0, none⟩ = some (.slice a1 n1 c1) ∧ u.cell? ⟨gd, i * 3, none⟩ = some (.string dk) ∧ u.cell? ⟨gd, i * 3 + 1, none⟩ = some (.string dn)) :=
                Lib.hid fun u hb => ⟨cell_later hb t0, cell_later hb k0, cell_later hb v0⟩
              have cA : Hid (∀ (u : World) (hb : Aft wv u), Calls Tryz.prog 24 #[.agg #[.slice a1 n1 c1], .string dk, .string dn] u fun e u' => LkR v1 wv.heap.size u.heap.size e u' ∧ Aft u u') :=
                Lib.hid (fun u hb => by rw [← hv1]; exact lkP l1 a1 n1 c1 dk dn wv u hb hS4.out)
              clear t0 k0 v0
              go_region_held3 (fun u => u.cell? ⟨g1, 0, none⟩ = some (.slice a1 n1 c1) ∧ u.cell? ⟨gd, i * 3, none⟩ = some (.string dk) ∧ u.cell? ⟨gd, i * 3 + 1, none⟩ = some (.string dn))
                (exact hKp.out _ (by repeat (first | assumption | exact Aft.refl _ | apply Aft.dr | apply Aft.alloc | (refine Aft.set ?_ (by simp) _))))
                ((go_at_call 24; (with_reducible refine (cA.out _ (by repeat (first | assumption | exact Aft.refl _ | apply Aft.dr | apply Aft.alloc))).mono ?_); rintro e u1 ⟨⟨dd, rfl, q1, q2⟩, hz0⟩; replace q1 := Lib.hid q1; replace q2 := Lib.hid q2; have hz1 : Aft wv u1 := Aft.next hz0 (by repeat (first | assumption | exact Aft.refl _ | apply Aft.dr | apply Aft.alloc)); (try (have hzo : Own u1 wv.heap.size #[.int .i64 0, .int .i64 0, .string ⟨#[]⟩, .slice none 0 0] 51 := Own.below (w := (wv.alloc (.cells #[.int .i64 0, .int .i64 0, .string ⟨#[]⟩, .slice none 0 0] 51)).drew) (show Own (wv.alloc (.cells #[.int .i64 0, .int .i64 0, .string ⟨#[]⟩, .slice none 0 0] 51)) wv.heap.size _ _ from Own.new wv _ _) hz0 (show wv.heap.size < (wv.alloc (.cells #[.int .i64 0, .int .i64 0, .string ⟨#[]⟩, .slice none 0 0] 51)).heap.size by simp); obtain ⟨z0, z1, z2, z3, f0, f1, f2, f3⟩ := own4z hzo; have hzl := hzo.lt; replace hzo := Lib.hid hzo))))
              all_goals
                go_wp2
                go_meet
                first
                  | exact Lib.hid (outV_new q1.out q2.out hz1)
                  | exact Lib.hid (outV_old q1.out q2.out hz1 hzo.out (Nat.le_refl _) (show wv.heap.size < (wv.alloc _).heap.size by simp))
            case rest =>
              obtain ⟨gb, d4, rfl, rfl, hO4, hs4, hc4, hx5⟩ := hcut.out
              clear hcut
              have hO3' := Lib.hid (hO3.out.below hx5 hO3.out.lt)
              have hc3' := hc3.out.mono (sub_of_below hx5)
              have cE := eqs_ref d3 d4 wc hc3' hc4
              rw [show eqV d3 d4 = true from eqV_opt hs3.out hs4 hso.out] at cE
              replace cE := Lib.hid cE
              have hiso : v1.isSome = vo.isSome := isSome_opt hso.out
              rw [hiso]
              have hy5 := Lib.hid (hy4.out.trans (Below.mono hx5 hy4.out.size))
              obtain ⟨e0, e1, e2, e3, -⟩ := own4z hO3'.out
              obtain ⟨q0, q1, q2, q3, -⟩ := own4z hO4
              have hpl := hO3'.out.lt
              have hql := hO4.lt
              clear hx5 hc3' hc4 hs3 hs4 hc3 hO3 hy4 h14 hD4 hS4 t0 k0 v0 hiso
              replace hO4 := Lib.hid hO4
              go_wp2_with fail
              refine cE.out.mono ?_
              rintro e w6' ⟨rfl, hb6⟩
              have hy6 := Lib.hid (hy5.out.trans (hb6.mono hy5.out.size))
              clear hb6 hy5 cE e0 e1 e2 e3 q0 q1 q2 q3 hpl hql hO3' hO4
              go_wp2
              go_roundw
              case rel => exact ⟨i + 1, by omega, by go_num, hy6⟩
              case measure => simp [intOf]; omega

end Go.Proofs.YtamkmdlfhlbbeaaGreatDoor.subj

