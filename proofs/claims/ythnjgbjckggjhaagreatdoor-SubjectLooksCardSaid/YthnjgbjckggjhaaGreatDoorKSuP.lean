/- A changed subject: the law's spoil. -/
import Derived.Test.YthnjgbjckggjhaaGreatDoorKSuX
import Derived.Deep.RegionWith
import Derived.Deep.RegionLaw
import Derived.Deep.DeepCutAuto
namespace Go.Proofs.YthnjgbjckggjhaaGreatDoor.subj
open Go.RowKit Go.Proofs.YthnjgbjckggjhaaGreatDoor Go.Proofs.YthnjgbjckggjhaaGreatDoor.schema Go.Proofs.YthnjgbjckggjhaaGreatDoor.value Go.Proofs.YthnjgbjckggjhaaGreatDoor.text Go.Proofs.YthnjgbjckggjhaaGreatDoor.clause Go.Proofs.YthnjgbjckggjhaaGreatDoor.draw

attribute [local go_sem ↓] Go.wp_at_zero Go.wp_at_succ

theorem infoSA : (Tryz.prog.info? 56).map (fun i => (i.zero, i.size, i.bytes)) = some (some (.agg #[.string ⟨#[]⟩, .int .i64 0, .int .i64 0, .string ⟨#[]⟩, .slice none 0 0]), 5, 72) := by kernel_rfl
theorem infoSC : (Tryz.prog.info? 37).map (fun i => (i.zero, i.size, i.bytes)) = some (some (.agg #[.string ⟨#[]⟩, .string ⟨#[]⟩, .slice none 0 0]), 3, 56) := by kernel_rfl

set_option maxRecDepth 100000 in
set_option maxHeartbeats 16000000 in
theorem spoil_any (b : Nat) (a : Option Addr) (n c : Nat) (sa : Option Addr) (sn sc : Nat) (ls : List CT) (w : World) (h : Codes b a n c w) (hg : Glob (but b w)) (hS : SAt (but b w) (.slice sa sn sc) ls) (hlen : ls.length ≤ 2) (hnm : Nm ls) (hfew : ∀ x ∈ ls, x.attrs.length ≤ 8) :
    Calls Tryz.prog 7 #[.agg #[.slice sa sn sc], .pointer (some ⟨b, 0, none⟩)] w (Drawn b a n c w fun e w' => SpIs b e w') := by
  have hlt := h.lt
  have hsn := (len_of hS.rows).1
  simp only [List.length_map] at hsn
  subst hsn
  obtain ⟨i0, hi, hz0, hz1, hz2⟩ := info_parts infoSC
  obtain ⟨j0, hj, hy0, hy1, hy2⟩ := info_parts infoSA
  have hC := Lib.hid h
  have hg0 := Lib.hid hg
  replace hS := Lib.hid hS
  replace hnm := Lib.hid hnm
  replace hfew := Lib.hid hfew
  clear h hg
  have hG0 : w.grownBy ((w.alloc (.cells #[.slice sa ls.length sc] 24)).alloc (.cells #[.slice none 0 0] 24)) (some b) := g_alloc (g_alloc (grown_refl _ _) _) _
  have hR0 := Own.new' (w := w.alloc (.cells #[.slice sa ls.length sc] 24)) (n := w.heap.size + 1) (A := #[.slice none 0 0]) (t := 24) (by simp)
  have hX0 := (Own.new w #[.slice sa ls.length sc] 24).alloc (.cells #[.slice none 0 0] 24)
  have hH0 : Head b a n c ((w.alloc (.cells #[.slice sa ls.length sc] 24)).alloc (.cells #[.slice none 0 0] 24)) := (hC.out.1.alloc _).alloc _
  have hz : w.heap.size + 2 ≤ ((w.alloc (.cells #[.slice sa ls.length sc] 24)).alloc (.cells #[.slice none 0 0] 24)).heap.size := by simp
  have hS1 := Lib.hid (hS.out.rows.mono ((sub_of_grown hG0).trans (but_sub _ _)))
  have hRw : w.heap.size ≤ w.heap.size + 1 := by omega
  have hRz : w.heap.size + 1 + 1 ≤ ((w.alloc (.cells #[.slice sa ls.length sc] 24)).alloc (.cells #[.slice none 0 0] 24)).heap.size := by simp
  replace hR0 := Lib.hid hR0
  replace hH0 := Lib.hid hH0
  replace hG0 := Lib.hid hG0
  clear hX0
  by_cases he : ls.length = 0
  case pos =>
    have hls : ls = [] := List.eq_nil_of_length_eq_zero he
    subst hls
    simp only [List.length_nil, List.map_nil] at hG0 hR0 hH0 hz hS1 hRz ⊢
    clear he
    go_enter Tryz.func7, Tryz.ntmps7
    go_wp2_with (at_builtin; refine wpList_append_rows rfl _ _ 22 rfl (w.heap.size + 1 + 1) 37 i0 (.agg #[.string ⟨#[]⟩, .string ⟨#[]⟩, .slice none 0 0]) 3 56 Tryz.underlying22 hi hz0 hz1 hz2 rfl (by decide) _ 0 [] rfl (World.ownsRow_nil _ (w.heap.size + 1 + 1) 37 3) sa 0 sc ([]) ((w.alloc (.cells #[.slice sa 0 sc] 24)).alloc (.cells #[.slice none 0 0] 24)).cell? rfl hS1.out (Sub.refl _) (rows3c []) (flat3c []) (by unfold maxLen; omega) (by omega) hRz ?_; intro vl w2 hown2 hgrow2; rw [List.nil_append, Nat.zero_add] at hown2; obtain ⟨va, vc, rfl⟩ := owns_slice hown2)
    generalize (w.alloc (.cells #[.slice sa 0 sc] 24)).alloc (.cells #[.slice none 0 0] 24) = w1 at hG0 hR0 hH0 hz hS1 hRz hgrow2
    obtain ⟨R, hR⟩ : ∃ R, R = w.heap.size + 1 := ⟨_, rfl⟩
    rw [← hR] at hR0 hRz hRw hown2 ⊢
    replace hR := Lib.hid hR
    have hgn2 : w1.grownBy w2 none := hgrow2
    have hG2 := Lib.hid (g_call hG0.out (grown_none hgn2 (some b)))
    have hH2 := Lib.hid (hH0.out.kept hgn2 (by simp))
    have hR2 := hR0.out.kept hgn2 (by simp)
    have hz2w : w1.heap.size ≤ w2.heap.size := hgn2.size
    have z0 := hR2.cell 0
    have g0 := hR2.free 0
    have hRl : R < w2.heap.size := hR2.lt
    simp only [List.getElem?_toArray, List.getElem?_cons_zero] at z0
    replace hown2 := Lib.hid hown2
    replace hR2 := Lib.hid hR2
    clear hgrow2 hgn2 hG0 hH0 hR0 hS1
    go_wp2_with fail
    refine (name_any b a n c _ (hC.out.still hG2.out hH2.out)).mono ?_
    rintro e w3 ⟨⟨nm, rfl, hnz⟩, hH3, hG3⟩
    have hG3' := Lib.hid (g_call hG2.out hG3)
    have hH3' := Lib.hid hH3
    have hR3 := Lib.hid (hR2.out.kept hG3 (by simp; omega))
    replace hnz := Lib.hid hnz
    have hz3 : w2.heap.size ≤ w3.heap.size := hG3.size
    clear hH3 hG3 z0 g0
    go_wp2_with fail
    refine (text_any b a n c _ (hC.out.still hG3'.out hH3'.out) (hg0.out.mono (sub_of_grown hG3'.out))).mono ?_
    rintro e w4 ⟨⟨tx, rfl, htz⟩, hH4, hG4⟩
    have hG4' := Lib.hid (g_call hG3'.out hG4)
    have hH4' := Lib.hid hH4
    have hR4 := hR3.out.kept hG4 (by simp; omega)
    replace htz := Lib.hid htz
    have hz4 : w3.heap.size ≤ w4.heap.size := hG4.size
    have z0 := hR4.cell 0
    have g0 := hR4.free 0
    simp only [List.getElem?_toArray, List.getElem?_cons_zero] at z0
    have hRl4 : R < w4.heap.size := hR4.lt
    have hrow := World.ownsRow_lit (base := R + 1) (e := 37) (size := 3) w4 #[.string nm, .string tx, .slice none 0 0] 1 (by omega) (by decide) rfl
    have hSG := Lib.hid (show SG w (w4.alloc (.cells #[.string nm, .string tx, .slice none 0 0] 37)) b a n c R w4.heap.size 1 1 [⟨nm, tx, none, 0, 0, []⟩] from
      ⟨hH4.alloc _, g_alloc hG4'.out _, hlt, hR4.alloc _, hRw, hrow, rfl, (fun x hx => by
        obtain rfl := List.mem_singleton.1 hx
        exact ⟨rows_nil _ _, (fun y hy => by cases hy), by have := htz.out.1; simp only; omega⟩), (fun x hx => by
        obtain rfl := List.mem_singleton.1 hx
        exact ⟨by have := hnz.out; simp only; omega, fun y hy => by cases hy⟩), (fun x hx => by
        obtain rfl := List.mem_singleton.1 hx
        simp)⟩)
    have zz := ((hR4.set 0 (.slice (some ⟨w4.heap.size, 0, none⟩) 1 1)).alloc (.cells #[.string nm, .string tx, .slice none 0 0] 37)).cell 0
    simp only [List.setIfInBounds_toArray, List.set_cons_zero, List.getElem?_toArray, List.getElem?_cons_zero] at zz
    have hsw := World.setCell_alloc_past (w := w4) (.cells #[.string nm, .string tx, .slice none 0 0] 37) R 0 (.slice (some ⟨w4.heap.size, 0, none⟩) 1 1) hRl4
    clear hrow hR4 hH4 hG4 hR3
    go_wp2
    refine bodyPost_ret (v := .agg #[.slice (some ⟨w4.heap.size, 0, none⟩) 1 1]) (by simp [results, Tryz.results7, go_sem, zz]) rfl ?_
    rw [← hsw]
    exact hSG.out.done (by omega)
  have hne : ((ls.length : Int) == 0) = false := beq_eq_false_iff_ne.2 (by omega)
  go_enter Tryz.func7, Tryz.ntmps7
  go_wp2_with (at_builtin; refine wpList_append_rows rfl _ _ 22 rfl (w.heap.size + 1 + 1) 37 i0 (.agg #[.string ⟨#[]⟩, .string ⟨#[]⟩, .slice none 0 0]) 3 56 Tryz.underlying22 hi hz0 hz1 hz2 rfl (by decide) _ 0 [] rfl (World.ownsRow_nil _ (w.heap.size + 1 + 1) 37 3) sa ls.length sc (ls.map CT.row) ((w.alloc (.cells #[.slice sa ls.length sc] 24)).alloc (.cells #[.slice none 0 0] 24)).cell? rfl hS1.out (Sub.refl _) (rows3c ls) (flat3c ls) (by unfold maxLen; omega) (by omega) hRz ?_; intro vl w2 hown2 hgrow2; rw [List.nil_append, Nat.zero_add] at hown2; obtain ⟨va, vc, rfl⟩ := owns_slice hown2)
  generalize (w.alloc (.cells #[.slice sa ls.length sc] 24)).alloc (.cells #[.slice none 0 0] 24) = w1 at hG0 hR0 hH0 hz hS1 hRz hgrow2
  obtain ⟨R, hR⟩ : ∃ R, R = w.heap.size + 1 := ⟨_, rfl⟩
  rw [← hR] at hR0 hRz hRw hown2 ⊢
  replace hR := Lib.hid hR
  have hgn2 : w1.grownBy w2 none := hgrow2
  have hG2 := Lib.hid (g_call hG0.out (grown_none hgn2 (some b)))
  have hH2 := Lib.hid (hH0.out.kept hgn2 (by simp))
  have hR2 := hR0.out.kept hgn2 (by simp)
  have hz2w : w1.heap.size ≤ w2.heap.size := hgn2.size
  have z0 := hR2.cell 0
  have g0 := hR2.free 0
  have hRl : R < w2.heap.size := hR2.lt
  simp only [List.getElem?_toArray, List.getElem?_cons_zero] at z0
  replace hown2 := Lib.hid hown2
  replace hR2 := Lib.hid hR2
  clear hgrow2 hgn2 hG0 hH0 hR0 hS1
  have hpos : 0 < ls.length := by omega
  obtain ⟨g, gc, hge, hgR⟩ := own_row hown2.out hpos
  injection hge with hge1 hge2 hge3
  subst hge1; subst hge3
  clear hge2
  have hn1 : (1 : Int) ≤ (ls.length : Int) := by omega
  have hn2 : (ls.length : Int) ≤ 256 := by omega
  go_wp2_with fail
  refine (next_any b a n c _ (ls.length : Int) hn1 hn2 (hC.out.still hG2.out hH2.out)).mono ?_
  rintro e w3 ⟨⟨q, rfl, hq0, hq1⟩, hH3, hG3⟩
  obtain ⟨k, rfl⟩ := Int.eq_ofNat_of_zero_le hq0
  have hk : k < ls.length := by omega
  have hG3' := g_call hG2.out hG3
  have hR3 := hR2.out.kept hG3 (by simp; omega)
  have hrow3 := owns_kept hown2.out hG3 (by omega)
  have hz3 : w2.heap.size ≤ w3.heap.size := hG3.size
  have hgl2 : g < w2.heap.size := (hown2.out.lt g rfl).2
  have hk3 : ls[k]? = some ls[k] := List.getElem?_eq_getElem hk
  have hCk := hS.out.each ls[k] (List.getElem_mem hk)
  have hfk := hfew.out ls[k] (List.getElem_mem hk)
  have hnk := hnm.out ls[k] (List.getElem_mem hk)
  have hrr : (ls.map CT.row)[k]? = some ls[k].row := by rw [List.getElem?_map, hk3]; rfl
  have r2 : w3.cell? ⟨g, k * 3 + 2, none⟩ = some (.slice ls[k].ptr ls[k].len ls[k].cap) := by
    rw [hrow3.cellAt _ (by omega)]; exact flat_get 3 _ (rows3c ls) k _ hrr 2 _ rfl
  have f2 := hrow3.frozenAt (k * 3 + 2)
  have hAk := hCk.rows.mono ((sub_of_grown hG3').trans (but_sub _ _))
  have hgl3 : g < w3.heap.size := by omega
  have hlk := (len_of hCk.rows).1
  simp only [List.length_map] at hlk
  have hPre : ∀ (vq : Value) (x : World), x.ownsRow w3.heap.size 56 5 vq ls[k].len ((ls[k].attrs.map AD.row).flatten) → w3.grownBy x none → ∃ (p : Option Addr) (m : Nat), vq = .slice p ls[k].len m ∧ SP w (x.setCell ⟨g, k * 3 + 2, none⟩ (.slice p ls[k].len m)) b a n c R g ls.length vc w3.heap.size (ls.set k ⟨ls[k].kind, ls[k].key, p, ls[k].len, m, ls[k].attrs⟩) k ⟨ls[k].kind, ls[k].key, p, ls[k].len, m, ls[k].attrs⟩ := by
    intro vq x ho hgx
    obtain ⟨p, m, rfl⟩ := owns_slice ho
    refine ⟨p, m, rfl, ?_⟩
    have hgx' := grown_none hgx (some b)
    have hrow4 := owns_kept hrow3 hgx' (by omega)
    have hst := hrow4.stored (k * 3 + 2) (.slice p ls[k].len m)
    have h9 := hst.1
    rw [ct_set (c' := ⟨ls[k].kind, ls[k].key, p, ls[k].len, m, ls[k].attrs⟩) hk3 (by omega) rfl] at h9
    have hG4 := g_call hG3' hgx'
    have hb3 : ∀ j, (Value.slice p ls[k].len m).ownBlock = some j → w3.heap.size ≤ j := fun j e => (ho.lt j e).1
    exact ⟨(hH3.kept hgx (by simp)).set (by simp; omega) _, g_setCell hG4 (by simp; omega) _, hlt, (hR3.kept hgx (by simp)).setOther (by simp; omega) _, hRw, h9, by simp, (by rw [List.getElem?_set_self (by omega)]), (fun i y hy hik => by
      rw [List.getElem?_set_ne (fun e => hik e.symm)] at hy
      exact hS.out.each y (List.mem_of_getElem? hy)), hgl3, ownsRow_setCell_below ho (by simp; omega) _, hlk.symm, (fun y hy => by
      refine (hCk.each y hy).mono ((but_excl hG4 (X := [b, R, g] ++ (Value.slice p ls[k].len m).ownBlock.toList) (fun j hj => ?_)).trans (excl_set (by simp) _))
      rcases List.mem_append.1 hj with hj | hj
      · simp at hj
        omega
      · have := hb3 j (by simpa using hj)
        omega), hCk.key, nm_set hnm.out hnk, few_set (fun y hy => by have := hfew.out y hy; omega) (by simp only; omega), by have := hgx.size; simp; omega⟩
  replace hPre := Lib.hid hPre
  generalize ls[k] = ck at r2 hAk hPre hfk hlk
  replace hAk := Lib.hid hAk
  have hcl : ck.len ≤ 8 := by omega
  replace hlk := Lib.hid hlk
  clear hCk hnk hrr hG3' hR3 hrow3 hH3 hG3 z0 g0 hk3
  have hrl : w3.heap.size ≤ w3.heap.size := Nat.le_refl _
  have n0 : (0 : Int) ≤ (k : Int) := by omega
  have n1 : (k : Int) < (ls.length : Int) := by omega
  go_wp2_with (at_builtin; (refine wpList_append_rows rfl _ _ 35 rfl w3.heap.size 56 j0 (.agg #[.string ⟨#[]⟩, .int .i64 0, .int .i64 0, .string ⟨#[]⟩, .slice none 0 0]) 5 72 Tryz.underlying35 hj hy0 hy1 hy2 rfl (by decide) _ 0 [] rfl (World.ownsRow_nil w3 w3.heap.size 56 5) ck.ptr ck.len ck.cap (ck.attrs.map AD.row) w3.cell? rfl hAk.out (Sub.refl _) (rows5a _) (flat5a _) (by unfold maxLen; omega) (by omega) hrl ?_); intro vq w4 hown4 hgrow4; (rw [List.nil_append, Nat.zero_add] at hown4; have hgn4 : w3.grownBy w4 none := hgrow4; obtain ⟨p, m, rfl, hSP⟩ := hPre.out vq w4 hown4 hgn4; have r4 : w4.cell? ⟨g, k * 3 + 2, none⟩ = some (.slice ck.ptr ck.len ck.cap) := hgn4.cell r2 (by simp); have f4 : w4.frozen? ⟨g, k * 3 + 2, none⟩ = false := (World.frozen?_of_block (hgn4.block g hgl3 (by simp))).trans f2; have hgl4 : g < w4.heap.size := (by have := hgn4.size; omega); replace hSP := Lib.hid hSP; clear hown4 hgrow4 hgn4))
  generalize hL : ls.set k ⟨ck.kind, ck.key, p, ck.len, m, ck.attrs⟩ = L at hSP
  generalize hK : (⟨ck.kind, ck.key, p, ck.len, m, ck.attrs⟩ : CT) = kk at hSP
  have hkl : kk.len ≤ 8 := by rw [← hK]; exact hcl
  have hLn : ls.length ≤ 2 := hlen
  generalize w4.setCell ⟨g, k * 3 + 2, none⟩ (.slice p ck.len m) = w5 at hSP ⊢
  clear hL hK r4 f4 hgl4 r2 f2 hgl3 hgl2 hPre hAk hfk hlk hcl hrl hne he hown2 hR2 hG2 hH2 hz3 hz2w hfew hnm hS
  obtain ⟨N, hN⟩ : ∃ N, N = ls.length := ⟨_, rfl⟩
  rw [← hN] at hSP hLn ⊢
  clear hN
  obtain ⟨B2, hB2⟩ : ∃ B, B = w3.heap.size := ⟨_, rfl⟩
  rw [← hB2] at hSP
  clear hB2
  go_wp2_with fail
  refine (next_any b a n c _ 9 (by omega) (by omega) (hSP.out.codes hC.out)).mono ?_
  rintro e w6 ⟨⟨m9, rfl, hm0, hm1⟩, hH6, hG6⟩
  replace hSP := Lib.hid (hSP.out.call hG6 hH6)
  clear hH6 hG6
  have hkN : k < N := hSP.out.kl
  have hgl : g < w6.heap.size := hSP.out.gl
  rcases (show m9 = 0 ∨ m9 = 1 ∨ m9 = 2 ∨ m9 = 3 ∨ m9 = 4 ∨ m9 = 5 ∨ m9 = 6 ∨ m9 = 7 ∨ m9 = 8 by omega) with rfl | rfl | rfl | rfl | rfl | rfl | rfl | rfl | rfl
  · skip
    obtain ⟨s0, s1, s2, f0, f1, f2⟩ := hSP.out.cells
    clear s0 s1 s2 f0 f1 f2
    go_wp2_with fail
    refine (name_any b a n c _ (hSP.out.codes hC.out)).mono ?_
    rintro e w7 ⟨⟨nm, rfl, hnz⟩, hH7, hG7⟩
    have hSP7 := hSP.out.call hG7 hH7
    obtain ⟨s0, s1, s2, f0, f1, f2⟩ := hSP7.cells
    have z0 := hSP7.res.cell 0
    have g0 := hSP7.res.free 0
    simp only [List.getElem?_toArray, List.getElem?_cons_zero] at z0
    have hRl7 : R < w7.heap.size := hSP7.res.lt
    have hgl7 : g < w7.heap.size := hSP7.gl
    have hRg : R < g := hSP7.gR
    have hSG := Lib.hid (hSP7.toSG.put (j := 0) (x' := ⟨nm, kk.key, kk.ptr, kk.len, kk.cap, kk.attrs⟩) (v := .string nm) hSP7.here (by omega) rfl (fun h => ⟨h.rows, h.each, h.key⟩) ⟨by simp only; omega, rfl⟩)
    rw [Nat.add_zero] at hSG
    clear hSP7 hSP hH7 hG7 s1 s2 f1 f2
    go_wp2
    refine bodyPost_ret (v := .agg #[.slice (some ⟨g, 0, none⟩) N vc]) (by simp [results, Tryz.results7, go_sem, z0]) rfl ?_
    exact hSG.out.done (by omega)
  · skip
    go_wp2_with fail
    refine (text_any b a n c _ (hSP.out.codes hC.out) (hSP.out.glob hg0.out)).mono ?_
    rintro e w7 ⟨⟨nm, rfl, hnz⟩, hH7, hG7⟩
    have hSP7 := hSP.out.call hG7 hH7
    obtain ⟨s0, s1, s2, f0, f1, f2⟩ := hSP7.cells
    have z0 := hSP7.res.cell 0
    have g0 := hSP7.res.free 0
    simp only [List.getElem?_toArray, List.getElem?_cons_zero] at z0
    have hRl7 : R < w7.heap.size := hSP7.res.lt
    have hgl7 : g < w7.heap.size := hSP7.gl
    have hRg : R < g := hSP7.gR
    have hnm7 := hSP7.nm kk (List.mem_of_getElem? hSP7.here)
    have hSG := Lib.hid (hSP7.toSG.put (j := 1) (x' := ⟨kk.kind, nm, kk.ptr, kk.len, kk.cap, kk.attrs⟩) (v := .string nm) hSP7.here (by omega) rfl (fun h => ⟨h.rows, h.each, by have := hnz.1; simp only; omega⟩) ⟨hnm7.1, rfl⟩)
    clear hSP7 hSP hH7 hG7 s0 s2 f0 f2 hnm7 hnz
    go_wp2
    refine bodyPost_ret (v := .agg #[.slice (some ⟨g, 0, none⟩) N vc]) (by simp [results, Tryz.results7, go_sem, z0]) rfl ?_
    exact hSG.out.done (by omega)
  · skip
    obtain ⟨s0, s1, s2, f0, f1, f2⟩ := hSP.out.cells
    clear s0 s1 f0 f1
    have hBz := Lib.hid hSP.out.gB
    go_wp2_with fail
    go_region_law
      ((first
        | ((refine step_append_lies _ (by rfl) _ _ _ (by rfl) B2 56 j0 _ 5 72 Tryz.underlying35 hj hy0 hy1 hy2 rfl (by omega) (.slice kk.ptr kk.len kk.cap) kk.len _ (by rfl) (hSP8.out.own.alloc _) ⟨w8.heap.size, 0, none⟩ 1 1 (.string nm :: dv.row) (by rfl) (by rfl) (World.news_of_block (cs := (Value.string nm :: dv.row).toArray) (t := 56) (fr := (0, 0)) (heap_alloc_new w8 _)) (ad_one nm dv) (by omega) (by unfold maxLen; omega) (by omega) (Nat.le_trans hSP8.out.bl (by simp)) (w8.heap.size + 1) (by simp) ?_); intro gg cap w9 hown9 hgrow9 hat9 hlt9; have hgb9 : some g ≠ (Value.slice kk.ptr kk.len kk.cap).ownBlock := (fun e => absurd (hSP8.out.blk g e.symm).1 (by have := hSP8.out.gB; omega)); (have y2 : w9.cell? ⟨g, k * 3 + 2, none⟩ = some (.slice kk.ptr kk.len kk.cap) := hgrow9.cell (hSP8.out.alloc (.cells (Value.string nm :: dv.row).toArray 56)).cells.2.2.1 hgb9); (have z2 : w9.frozen? ⟨g, k * 3 + 2, none⟩ = false := (World.frozen?_of_block (hgrow9.block g (Nat.lt_of_lt_of_le hSP8.out.gl (by simp)) hgb9)).trans (hSP8.out.alloc (.cells (Value.string nm :: dv.row).toArray 56)).cells.2.2.2.2.2); (have hgl9 : g < w9.heap.size := Nat.lt_of_lt_of_le hSP8.out.gl (Nat.le_trans (by simp) hgrow9.size)); clear hgb9)
        | (go_simp; go_at_call 9; refine (name_any b a n c _ (hSP.out.drew.codes hC.out)).mono ?_; rintro e w7 ⟨⟨nm, rfl, hnz⟩, hH7, hG7⟩; have hSP7 := Lib.hid (hSP.out.drew.call hG7 hH7); obtain ⟨-, -, s2', -, -, f2'⟩ := hSP7.out.cells; have hgl7 : g < w7.heap.size := hSP7.out.gl; clear hH7 hG7)
        | (go_simp; go_at_call 20; refine (any_any b a n c _ (hSP7.out.codes hC.out) (hSP7.out.glob hg0.out)).mono ?_; rintro e w8 ⟨⟨kd, hkd0, hkd1, dv, rfl, hdk, hLd⟩, hH8, hG8⟩; have hSP8 := Lib.hid (hSP7.out.call hG8 hH8); have hdv := Lib.hid (hSP7.out.new hLd); obtain ⟨-, -, s2'', -, -, f2''⟩ := hSP8.out.cells; have hgl8 : g < w8.heap.size := hSP8.out.gl; clear hH8 hG8 hLd hdk; unfold VD.row)))
    all_goals
      have hN9 := hSP8.out.app hgrow9 hat9 hown9 hdv.out (by omega) (by omega)
      have hR9 := (hSP8.out.res.alloc _).kept hgrow9 (fun e => absurd (hSP8.out.blk R e).1 (by have := hSP8.out.gB; have := hSP8.out.gR; omega))
      have z1 := hR9.cell 0
      have g1 := hR9.free 0
      simp only [List.getElem?_toArray, List.getElem?_cons_zero] at z1
      have hRg : R < g := hN9.gR
      have hRl9 : R < w9.heap.size := by omega
      have hSG := Lib.hid hN9.toSG
      clear hown9 hgrow9 hat9 hN9 hR9 hSP8 hSP7 hSP hdv
      go_wp2
      refine bodyPost_ret (v := .agg #[.slice (some ⟨g, 0, none⟩) N vc]) (by simp [results, Tryz.results7, go_sem, z1]) rfl ?_
      exact hSG.out.done (by omega)
  · skip
    obtain ⟨kd, ky, kp, kn, kcp, ka⟩ := kk
    simp only at hkl
    obtain ⟨s0, s1, s2, f0, f1, f2⟩ := hSP.out.cells
    simp only at s0 s1 s2
    clear s0 s1 f0 f1
    have n0 : (0 : Int) ≤ (k : Int) := by omega
    have n1 : (k : Int) < (N : Int) := by omega
    by_cases hk0 : kn = 0
    · have z0 := hSP.out.res.cell 0
      have g0 := hSP.out.res.free 0
      simp only [List.getElem?_toArray, List.getElem?_cons_zero] at z0
      have hRl7 : R < w6.heap.size := hSP.out.res.lt
      have hSG := Lib.hid hSP.out.toSG
      have m0 : ¬ (0 : Int) < (kn : Int) := by omega
      clear hSP
      go_wp2
      refine bodyPost_ret (v := .agg #[.slice (some ⟨g, 0, none⟩) N vc]) (by simp [results, Tryz.results7, go_sem, z0]) rfl ?_
      exact hSG.out.done (by omega)
    obtain ⟨hb, hcp, hpe, hB2h⟩ := own_row hSP.out.own (by simp only; omega)
    injection hpe with hpe1 hpe2 hpe3
    simp only at hpe1 hpe3
    subst hpe1; subst hpe3
    clear hpe2
    have m0 : (0 : Int) < (kn : Int) := by omega
    go_wp2_with fail
    go_region_law
      ((first
        | (go_simp; go_at_call 19; refine (next_any b a n c _ 7 (by omega) (by omega) (hSP.out.drew.codes hC.out)).mono ?_; rintro e w7 ⟨⟨q7, rfl, h70, h71⟩, hH7, hG7⟩; have hSP7 := Lib.hid (hSP.out.drew.call hG7 hH7); obtain ⟨-, -, s2', -, -, f2'⟩ := hSP7.out.cells; simp only at s2'; have hgl7 : g < w7.heap.size := hSP7.out.gl; clear hH7 hG7)
        | (go_simp; go_at_call 21; refine (number_any b a n c _ (hSP7.out.codes hC.out)).mono ?_; rintro e w8 ⟨⟨q8, rfl⟩, hH8, hG8⟩; have hSP8 := Lib.hid (hSP7.out.call hG8 hH8); obtain ⟨-, -, s2'', -, -, f2''⟩ := hSP8.out.cells; simp only at s2''; have hgl8 : g < w8.heap.size := hSP8.out.gl; obtain ⟨xv, t1, t2, t3, t4, u1, u2, u3, u4, hhl⟩ := hSP8.out.first (by omega); clear hH8 hG8)))
    all_goals
      have z0 := hSP8.out.res.cell 0
      have g0 := hSP8.out.res.free 0
      simp only [List.getElem?_toArray, List.getElem?_cons_zero] at z0
      have hRl7 : R < w8.heap.size := hSP8.out.res.lt
      have hRh : R < hb := by have := hSP8.out.gR; have := hSP8.out.gB; omega
      have hSG := Lib.hid (hSP8.out.put1 (by omega) q7 q8)
      obtain ⟨L9, hSG9⟩ := hSG.out
      replace hSG9 := Lib.hid hSG9
      clear hSG hSP8 hSP7 hSP
      go_wp2
      refine bodyPost_ret (v := .agg #[.slice (some ⟨g, 0, none⟩) N vc]) (by simp [results, Tryz.results7, go_sem, z0]) rfl ?_
      exact hSG9.out.done (by omega)
  · skip
    obtain ⟨s0, s1, s2, f0, f1, f2⟩ := hSP.out.cells
    have z0 := hSP.out.res.cell 0
    have g0 := hSP.out.res.free 0
    simp only [List.getElem?_toArray, List.getElem?_cons_zero] at z0
    have hRl7 : R < w6.heap.size := hSP.out.res.lt
    have hRg : R < g := hSP.out.gR
    have hSGo := Lib.hid hSP.out.toSG
    have hkk := Lib.hid (List.mem_of_getElem? hSP.out.here)
    have hrow5 := Lib.hid (hSP.out.row.alloc (.cells #[.string kk.kind, .string kk.key, .slice kk.ptr kk.len kk.cap] 37))
    have n0 : (0 : Int) ≤ (k : Int) := by omega
    have n1 : (k : Int) < (N : Int) := by omega
    go_wp2_with (at_builtin; (refine wpList_append_lies _ rfl _ _ 22 rfl (R + 1) 37 i0 (.agg #[.string ⟨#[]⟩, .string ⟨#[]⟩, .slice none 0 0]) 3 56 Tryz.underlying22 hi hz0 hz1 hz2 rfl (by decide) (.slice (some ⟨g, 0, none⟩) N vc) N _ rfl hrow5.out ⟨w6.heap.size, 0, none⟩ 1 1 [.string kk.kind, .string kk.key, .slice kk.ptr kk.len kk.cap] rfl rfl (World.news_of_block (cs := #[.string kk.kind, .string kk.key, .slice kk.ptr kk.len kk.cap]) (t := 37) (fr := (0, 0)) (Own.new' rfl)) (ct_one kk) (by omega) (by unfold maxLen; omega) (by omega) (by simp; omega) (w6.heap.size + 1) (by simp) ?_); intro g2 cap w9 hown9 hgrow9 hat9 hgl9; (have hSG := Lib.hid ((hSGo.out.alloc (.cells #[.string kk.kind, .string kk.key, .slice kk.ptr kk.len kk.cap] 37)).more (M := [kk]) (m := 1) hgrow9 (hat9.imp (fun e => by simpa [Value.ownBlock] using e) (fun e => by rw [e]; simp)) (by simpa [CT.row] using hown9) rfl (fun y hy => by obtain rfl := List.mem_singleton.1 hy; exact (hSGo.out.ats _ hkk.out).mono (excl_grown (World.grownBy_alloc _ _ none) (fun k e => by cases e))) (fun y hy => by obtain rfl := List.mem_singleton.1 hy; exact hSGo.out.nm _ hkk.out) (fun y hy => by obtain rfl := List.mem_singleton.1 hy; exact hSGo.out.few _ hkk.out)); have zz := hSG.out.res.cell 0; have gg0 := hSG.out.res.free 0; have hRl9 := hSG.out.res.lt; simp only [List.getElem?_toArray, List.getElem?_cons_zero] at zz; clear hown9 hgrow9 hat9 hgl9 z0 g0 s0 s1 s2 f0 f1 f2))
    refine bodyPost_ret (v := .agg #[.slice (some ⟨g2, 0, none⟩) (N + 1) cap]) (by simp [results, Tryz.results7, go_sem, zz]) rfl ?_
    exact hSG.out.done (by omega)
  · skip
    have hSGo := hSP.out.toSG.drew
    have z0 := hSGo.res.cell 0
    have g0 := hSGo.res.free 0
    simp only [List.getElem?_toArray, List.getElem?_cons_zero] at z0
    have hRl7 : R < w6.drew.heap.size := hSGo.res.lt
    have hRg : R < g := hSGo.gR
    have hLl := hSGo.len
    have hgld : g < w6.drew.heap.size := hgl
    clear hSP hkl
    obtain ⟨wd, hwd⟩ : ∃ wd, w6.drew = wd := ⟨_, rfl⟩
    rw [hwd] at hSGo z0 g0 hRl7 hgld
    rcases (show N = 1 ∨ N = 2 by omega) with rfl | rfl
    · obtain ⟨x0, rfl⟩ : ∃ x0, L = [x0] := by
        match L, hLl with
        | [x], _ => exact ⟨x, rfl⟩
      obtain ⟨c0, c1, c2, f0, f1, f2⟩ := hSGo.cells (k := 0) (x := x0) rfl
      simp only [Nat.zero_mul, Nat.zero_add] at c0 c1 c2 f0 f1 f2
      have hSG := Lib.hid (show SG w (((((((wd).setCell ⟨g, 0, none⟩ (.string x0.kind)).setCell ⟨g, 1, none⟩ (.string x0.key)).setCell ⟨g, 2, none⟩ (.slice x0.ptr x0.len x0.cap)).setCell ⟨g, 0, none⟩ (.string x0.kind)).setCell ⟨g, 1, none⟩ (.string x0.key)).setCell ⟨g, 2, none⟩ (.slice x0.ptr x0.len x0.cap)) b a n c R g 1 vc [x0] from hSGo.over [(0, .string x0.kind), (1, .string x0.key), (2, .slice x0.ptr x0.len x0.cap), (0, .string x0.kind), (1, .string x0.key), (2, .slice x0.ptr x0.len x0.cap)] [x0] rfl rfl (fun x hx => hx))
      have m2 : IntKind.i64.wrap 0 = 0 := by decide
      clear hSGo hLl
      go_wp2_with fail
      refine wp_region_held_drew (S := fun _ => True) (by kernel_rfl) trivial (fun hHeld => ?_)
      rw [hwd]
      refine wpAnyH_take (i := 0) (oi := ?oi1) (v := ?v1) ?ho1 (by kernel_rfl) (by kernel_rfl) (by kernel_rfl) ?hp1 (Or.inl ⟨?hw1, ?hy1⟩) (by assumption) ?rest1
      case ho1 => simp only [List.getElem?_toArray, List.getElem?_cons_zero]; rfl
      case hp1 => exact fun _ _ _ h => h
      case hw1 => rfl
      case hy1 =>
        intro W hSw
        go_simp
        try exact rfl
      simp only [Act.put, List.setIfInBounds_toArray, List.set_cons_zero, List.set_cons_succ]
      refine wpAnyH_take (i := 1) (oi := ?oi2) (v := ?v2) ?ho2 (by kernel_rfl) (by kernel_rfl) (by kernel_rfl) ?hp2 (Or.inl ⟨?hw2, ?hy2⟩) (by assumption) ?rest2
      case ho2 => simp only [List.getElem?_toArray, List.getElem?_cons_succ, List.getElem?_cons_zero]; rfl
      case hp2 => exact fun _ _ _ h => h
      case hw2 => rfl
      case hy2 =>
        intro W hSw
        go_simp
        try exact rfl
      simp only [Act.put, List.setIfInBounds_toArray, List.set_cons_zero, List.set_cons_succ]
      refine wpAnyH_take (i := 2) (oi := ?oi3) (v := ?v3) ?ho3 (by kernel_rfl) (by kernel_rfl) (by kernel_rfl) ?hp3 (Or.inl ⟨?hw3, ?hy3⟩) (by assumption) ?rest3
      case ho3 => simp only [List.getElem?_toArray, List.getElem?_cons_succ, List.getElem?_cons_zero]; rfl
      case hp3 => exact fun _ _ _ h => h
      case hw3 => rfl
      case hy3 =>
        intro W hSw
        go_simp
        try exact rfl
      simp only [Act.put, List.setIfInBounds_toArray, List.set_cons_zero, List.set_cons_succ]
      refine wpAnyH_take (i := 3) (oi := ?oi4) (v := ?v4) ?ho4 (by kernel_rfl) (by kernel_rfl) (by kernel_rfl) ?hp4 (Or.inl ⟨?hw4, ?hy4⟩) (by assumption) ?rest4
      case ho4 => simp only [List.getElem?_toArray, List.getElem?_cons_succ, List.getElem?_cons_zero]; rfl
      case hp4 => exact fun _ _ _ h => h
      case hw4 => rfl
      case hy4 =>
        intro W hSw
        go_simp
        try exact rfl
      simp only [Act.put, List.setIfInBounds_toArray, List.set_cons_zero, List.set_cons_succ]
      refine wpAnyH_take (i := 4) (oi := ?oi5) (v := ?v5) ?ho5 (by kernel_rfl) (by kernel_rfl) (by kernel_rfl) ?hp5 (Or.inl ⟨?hw5, ?hy5⟩) (by assumption) ?rest5
      case ho5 => simp only [List.getElem?_toArray, List.getElem?_cons_succ, List.getElem?_cons_zero]; rfl
      case hp5 => exact fun _ _ _ h => h
      case hw5 => rfl
      case hy5 =>
        intro W hSw
        go_simp
        try exact rfl
      simp only [Act.put, List.setIfInBounds_toArray, List.set_cons_zero, List.set_cons_succ]
      refine wpAnyH_take (i := 5) (oi := ?oi6) (v := ?v6) ?ho6 (by kernel_rfl) (by kernel_rfl) (by kernel_rfl) ?hp6 (Or.inl ⟨?hw6, ?hy6⟩) (by assumption) ?rest6
      case ho6 => simp only [List.getElem?_toArray, List.getElem?_cons_succ, List.getElem?_cons_zero]; rfl
      case hp6 => exact fun _ _ _ h => h
      case hw6 => rfl
      case hy6 =>
        intro W hSw
        go_simp
        try exact rfl
      simp only [Act.put, List.setIfInBounds_toArray, List.set_cons_zero, List.set_cons_succ]
      refine wpAnyH_take (i := 6) (oi := ?oi7) (v := ?v7) ?ho7 (by kernel_rfl) (by kernel_rfl) (by kernel_rfl) ?hp7 (Or.inl ⟨?hw7, ?hy7⟩) (by assumption) ?rest7
      case ho7 => simp only [List.getElem?_toArray, List.getElem?_cons_succ, List.getElem?_cons_zero]; rfl
      case hp7 => exact fun _ _ _ h => h
      case hw7 => rfl
      case hy7 =>
        intro W hSw
        go_simp
        try exact rfl
      simp only [Act.put, List.setIfInBounds_toArray, List.set_cons_zero, List.set_cons_succ]
      refine wpAnyH_take (i := 7) (oi := ?oi8) (v := ?v8) ?ho8 (by kernel_rfl) (by kernel_rfl) (by kernel_rfl) ?hp8 (Or.inl ⟨?hw8, ?hy8⟩) (by assumption) ?rest8
      case ho8 => simp only [List.getElem?_toArray, List.getElem?_cons_succ, List.getElem?_cons_zero]; rfl
      case hp8 => exact fun _ _ _ h => h
      case hw8 => rfl
      case hy8 =>
        intro W hSw
        go_simp
        try exact rfl
      simp only [Act.put, List.setIfInBounds_toArray, List.set_cons_zero, List.set_cons_succ]
      refine wpAnyH_take (i := 8) (oi := ?oi9) (v := ?v9) ?ho9 (by kernel_rfl) (by kernel_rfl) (by kernel_rfl) ?hp9 (Or.inl ⟨?hw9, ?hy9⟩) (by assumption) ?rest9
      case ho9 => simp only [List.getElem?_toArray, List.getElem?_cons_succ, List.getElem?_cons_zero]; rfl
      case hp9 => exact fun _ _ _ h => h
      case hw9 => rfl
      case hy9 =>
        intro W hSw
        go_simp
        try exact rfl
      simp only [Act.put, List.setIfInBounds_toArray, List.set_cons_zero, List.set_cons_succ]
      refine wpAnyH_take (i := 9) (oi := ?oi10) (v := ?v10) ?ho10 (by kernel_rfl) (by kernel_rfl) (by kernel_rfl) ?hp10 (Or.inl ⟨?hw10, ?hy10⟩) (by assumption) ?rest10
      case ho10 => simp only [List.getElem?_toArray, List.getElem?_cons_succ, List.getElem?_cons_zero]; rfl
      case hp10 => exact fun _ _ _ h => h
      case hw10 => rfl
      case hy10 =>
        intro W hSw
        go_simp
        try exact rfl
      simp only [Act.put, List.setIfInBounds_toArray, List.set_cons_zero, List.set_cons_succ]
      refine wpAnyH_take (i := 11) (oi := ?oi11) (v := ?v11) ?ho11 (by kernel_rfl) (by kernel_rfl) (by kernel_rfl) ?hp11 (Or.inl ⟨?hw11, ?hy11⟩) (by assumption) ?rest11
      case ho11 => simp only [List.getElem?_toArray, List.getElem?_cons_succ, List.getElem?_cons_zero]; rfl
      case hp11 => exact fun _ _ _ h => h
      case hw11 => rfl
      case hy11 =>
        intro W hSw
        go_simp
        try exact rfl
      simp only [Act.put, List.setIfInBounds_toArray, List.set_cons_zero, List.set_cons_succ]
      refine wpAnyH_take (i := 12) (oi := ?oi12) (v := ?v12) ?ho12 (by kernel_rfl) (by kernel_rfl) (by kernel_rfl) ?hp12 (Or.inl ⟨?hw12, ?hy12⟩) (by assumption) ?rest12
      case ho12 => simp only [List.getElem?_toArray, List.getElem?_cons_succ, List.getElem?_cons_zero]; rfl
      case hp12 => exact fun _ _ _ h => h
      case hw12 => rfl
      case hy12 =>
        intro W hSw
        go_simp
        try exact rfl
      simp only [Act.put, List.setIfInBounds_toArray, List.set_cons_zero, List.set_cons_succ]
      refine wpAnyH_ready (rs := [10, 13]) (by kernel_rfl) (by simp) ?_
      refine AllReadyH.cons rfl (fun K hK => ?_) (AllReadyH.cons rfl (fun K hK => ?_) AllReadyH.nil)
      · go_simp
        refine hK.out _ _ trivial (fun hHeld => ?_)
        clear hK K
        try simp only [Act.put, List.setIfInBounds_toArray, List.set_cons_zero, List.set_cons_succ]
        refine wpAnyH_ready (rs := [13]) (by kernel_rfl) (by simp) ?_
        refine AllReadyH.cons rfl (fun K hK => ?_) AllReadyH.nil
        go_simp
        refine hK.out _ _ trivial (fun hHeld => ?_)
        clear hK K
        try simp only [Act.put, List.setIfInBounds_toArray, List.set_cons_zero, List.set_cons_succ]
        refine wpAnyH_take (i := 14) (oi := ?oi13) (v := ?v13) ?ho13 (by kernel_rfl) (by kernel_rfl) (by kernel_rfl) ?hp13 (Or.inl ⟨?hw13, ?hy13⟩) (by assumption) ?rest13
        case ho13 => simp only [List.getElem?_toArray, List.getElem?_cons_succ, List.getElem?_cons_zero]; rfl
        case hp13 => exact fun _ _ _ h => h
        case hw13 => rfl
        case hy13 =>
          intro W hSw
          go_simp
          try exact rfl
        simp only [Act.put, List.setIfInBounds_toArray, List.set_cons_zero, List.set_cons_succ]
        refine wpAnyH_ready (rs := [15]) (by kernel_rfl) (by simp) ?_
        refine AllReadyH.cons rfl (fun K hK => ?_) AllReadyH.nil
        go_simp
        refine hK.out _ _ trivial (fun hHeld => ?_)
        clear hK K
        try simp only [Act.put, List.setIfInBounds_toArray, List.set_cons_zero, List.set_cons_succ]
        refine wpAnyH_take (i := 16) (oi := ?oi14) (v := ?v14) ?ho14 (by kernel_rfl) (by kernel_rfl) (by kernel_rfl) ?hp14 (Or.inl ⟨?hw14, ?hy14⟩) (by assumption) ?rest14
        case ho14 => simp only [List.getElem?_toArray, List.getElem?_cons_succ, List.getElem?_cons_zero]; rfl
        case hp14 => exact fun _ _ _ h => h
        case hw14 => rfl
        case hy14 =>
          intro W hSw
          go_simp
          try exact rfl
        simp only [Act.put, List.setIfInBounds_toArray, List.set_cons_zero, List.set_cons_succ]
        refine wpAnyH_ready (rs := [17]) (by kernel_rfl) (by simp) ?_
        refine AllReadyH.cons rfl (fun K hK => ?_) AllReadyH.nil
        go_simp
        refine hK.out _ _ trivial (fun hHeld => ?_)
        clear hK K
        try simp only [Act.put, List.setIfInBounds_toArray, List.set_cons_zero, List.set_cons_succ]
        refine wpAnyH_done (by kernel_rfl) ?_ _
        go_wp2
        refine bodyPost_ret (v := .agg #[.slice (some ⟨g, 0, none⟩) 1 vc]) (by simp [results, Tryz.results7, go_sem, z0]) rfl ?_
        exact hSG.out.done (by omega)
      · go_simp
        refine hK.out _ _ trivial (fun hHeld => ?_)
        clear hK K
        try simp only [Act.put, List.setIfInBounds_toArray, List.set_cons_zero, List.set_cons_succ]
        refine wpAnyH_ready (rs := [10]) (by kernel_rfl) (by simp) ?_
        refine AllReadyH.cons rfl (fun K hK => ?_) AllReadyH.nil
        go_simp
        refine hK.out _ _ trivial (fun hHeld => ?_)
        clear hK K
        try simp only [Act.put, List.setIfInBounds_toArray, List.set_cons_zero, List.set_cons_succ]
        refine wpAnyH_take (i := 14) (oi := ?oi15) (v := ?v15) ?ho15 (by kernel_rfl) (by kernel_rfl) (by kernel_rfl) ?hp15 (Or.inl ⟨?hw15, ?hy15⟩) (by assumption) ?rest15
        case ho15 => simp only [List.getElem?_toArray, List.getElem?_cons_succ, List.getElem?_cons_zero]; rfl
        case hp15 => exact fun _ _ _ h => h
        case hw15 => rfl
        case hy15 =>
          intro W hSw
          go_simp
          try exact rfl
        simp only [Act.put, List.setIfInBounds_toArray, List.set_cons_zero, List.set_cons_succ]
        refine wpAnyH_ready (rs := [15]) (by kernel_rfl) (by simp) ?_
        refine AllReadyH.cons rfl (fun K hK => ?_) AllReadyH.nil
        go_simp
        refine hK.out _ _ trivial (fun hHeld => ?_)
        clear hK K
        try simp only [Act.put, List.setIfInBounds_toArray, List.set_cons_zero, List.set_cons_succ]
        refine wpAnyH_take (i := 16) (oi := ?oi16) (v := ?v16) ?ho16 (by kernel_rfl) (by kernel_rfl) (by kernel_rfl) ?hp16 (Or.inl ⟨?hw16, ?hy16⟩) (by assumption) ?rest16
        case ho16 => simp only [List.getElem?_toArray, List.getElem?_cons_succ, List.getElem?_cons_zero]; rfl
        case hp16 => exact fun _ _ _ h => h
        case hw16 => rfl
        case hy16 =>
          intro W hSw
          go_simp
          try exact rfl
        simp only [Act.put, List.setIfInBounds_toArray, List.set_cons_zero, List.set_cons_succ]
        refine wpAnyH_ready (rs := [17]) (by kernel_rfl) (by simp) ?_
        refine AllReadyH.cons rfl (fun K hK => ?_) AllReadyH.nil
        go_simp
        refine hK.out _ _ trivial (fun hHeld => ?_)
        clear hK K
        try simp only [Act.put, List.setIfInBounds_toArray, List.set_cons_zero, List.set_cons_succ]
        refine wpAnyH_done (by kernel_rfl) ?_ _
        go_wp2
        refine bodyPost_ret (v := .agg #[.slice (some ⟨g, 0, none⟩) 1 vc]) (by simp [results, Tryz.results7, go_sem, z0]) rfl ?_
        exact hSG.out.done (by omega)
    · obtain ⟨x0, x1, rfl⟩ : ∃ x0 x1, L = [x0, x1] := by
        match L, hLl with
        | [x, y], _ => exact ⟨x, y, rfl⟩
      obtain ⟨c0, c1, c2, f0, f1, f2⟩ := hSGo.cells (k := 0) (x := x0) rfl
      obtain ⟨d0, d1, d2, e0, e1, e2⟩ := hSGo.cells (k := 1) (x := x1) rfl
      simp only [Nat.zero_mul, Nat.zero_add, Nat.one_mul] at c0 c1 c2 f0 f1 f2 d0 d1 d2 e0 e1 e2
      have hSG := Lib.hid (show SG w (((((((wd).setCell ⟨g, 0, none⟩ (.string x1.kind)).setCell ⟨g, 1, none⟩ (.string x1.key)).setCell ⟨g, 2, none⟩ (.slice x1.ptr x1.len x1.cap)).setCell ⟨g, 3, none⟩ (.string x0.kind)).setCell ⟨g, 4, none⟩ (.string x0.key)).setCell ⟨g, 5, none⟩ (.slice x0.ptr x0.len x0.cap)) b a n c R g 2 vc [x1, x0] from hSGo.over [(0, .string x1.kind), (1, .string x1.key), (2, .slice x1.ptr x1.len x1.cap), (3, .string x0.kind), (4, .string x0.key), (5, .slice x0.ptr x0.len x0.cap)] [x1, x0] rfl rfl (fun x hx => by simp at hx ⊢; rcases hx with h | h <;> simp [h]))
      have m2 : IntKind.i64.wrap 1 = 1 := by decide
      clear hSGo hLl
      go_wp2_with fail
      refine wp_region_held_drew (S := fun _ => True) (by kernel_rfl) trivial (fun hHeld => ?_)
      rw [hwd]
      refine wpAnyH_take (i := 0) (oi := ?oi17) (v := ?v17) ?ho17 (by kernel_rfl) (by kernel_rfl) (by kernel_rfl) ?hp17 (Or.inl ⟨?hw17, ?hy17⟩) (by assumption) ?rest17
      case ho17 => simp only [List.getElem?_toArray, List.getElem?_cons_zero]; rfl
      case hp17 => exact fun _ _ _ h => h
      case hw17 => rfl
      case hy17 =>
        intro W hSw
        go_simp
        try exact rfl
      simp only [Act.put, List.setIfInBounds_toArray, List.set_cons_zero, List.set_cons_succ]
      refine wpAnyH_take (i := 1) (oi := ?oi18) (v := ?v18) ?ho18 (by kernel_rfl) (by kernel_rfl) (by kernel_rfl) ?hp18 (Or.inl ⟨?hw18, ?hy18⟩) (by assumption) ?rest18
      case ho18 => simp only [List.getElem?_toArray, List.getElem?_cons_succ, List.getElem?_cons_zero]; rfl
      case hp18 => exact fun _ _ _ h => h
      case hw18 => rfl
      case hy18 =>
        intro W hSw
        go_simp
        try exact rfl
      simp only [Act.put, List.setIfInBounds_toArray, List.set_cons_zero, List.set_cons_succ]
      refine wpAnyH_take (i := 2) (oi := ?oi19) (v := ?v19) ?ho19 (by kernel_rfl) (by kernel_rfl) (by kernel_rfl) ?hp19 (Or.inl ⟨?hw19, ?hy19⟩) (by assumption) ?rest19
      case ho19 => simp only [List.getElem?_toArray, List.getElem?_cons_succ, List.getElem?_cons_zero]; rfl
      case hp19 => exact fun _ _ _ h => h
      case hw19 => rfl
      case hy19 =>
        intro W hSw
        go_simp
        try exact rfl
      simp only [Act.put, List.setIfInBounds_toArray, List.set_cons_zero, List.set_cons_succ]
      refine wpAnyH_take (i := 3) (oi := ?oi20) (v := ?v20) ?ho20 (by kernel_rfl) (by kernel_rfl) (by kernel_rfl) ?hp20 (Or.inl ⟨?hw20, ?hy20⟩) (by assumption) ?rest20
      case ho20 => simp only [List.getElem?_toArray, List.getElem?_cons_succ, List.getElem?_cons_zero]; rfl
      case hp20 => exact fun _ _ _ h => h
      case hw20 => rfl
      case hy20 =>
        intro W hSw
        go_simp
        try exact rfl
      simp only [Act.put, List.setIfInBounds_toArray, List.set_cons_zero, List.set_cons_succ]
      refine wpAnyH_take (i := 4) (oi := ?oi21) (v := ?v21) ?ho21 (by kernel_rfl) (by kernel_rfl) (by kernel_rfl) ?hp21 (Or.inl ⟨?hw21, ?hy21⟩) (by assumption) ?rest21
      case ho21 => simp only [List.getElem?_toArray, List.getElem?_cons_succ, List.getElem?_cons_zero]; rfl
      case hp21 => exact fun _ _ _ h => h
      case hw21 => rfl
      case hy21 =>
        intro W hSw
        go_simp
        try exact rfl
      simp only [Act.put, List.setIfInBounds_toArray, List.set_cons_zero, List.set_cons_succ]
      refine wpAnyH_take (i := 5) (oi := ?oi22) (v := ?v22) ?ho22 (by kernel_rfl) (by kernel_rfl) (by kernel_rfl) ?hp22 (Or.inl ⟨?hw22, ?hy22⟩) (by assumption) ?rest22
      case ho22 => simp only [List.getElem?_toArray, List.getElem?_cons_succ, List.getElem?_cons_zero]; rfl
      case hp22 => exact fun _ _ _ h => h
      case hw22 => rfl
      case hy22 =>
        intro W hSw
        go_simp
        try exact rfl
      simp only [Act.put, List.setIfInBounds_toArray, List.set_cons_zero, List.set_cons_succ]
      refine wpAnyH_take (i := 6) (oi := ?oi23) (v := ?v23) ?ho23 (by kernel_rfl) (by kernel_rfl) (by kernel_rfl) ?hp23 (Or.inl ⟨?hw23, ?hy23⟩) (by assumption) ?rest23
      case ho23 => simp only [List.getElem?_toArray, List.getElem?_cons_succ, List.getElem?_cons_zero]; rfl
      case hp23 => exact fun _ _ _ h => h
      case hw23 => rfl
      case hy23 =>
        intro W hSw
        go_simp
        try exact rfl
      simp only [Act.put, List.setIfInBounds_toArray, List.set_cons_zero, List.set_cons_succ]
      refine wpAnyH_take (i := 7) (oi := ?oi24) (v := ?v24) ?ho24 (by kernel_rfl) (by kernel_rfl) (by kernel_rfl) ?hp24 (Or.inl ⟨?hw24, ?hy24⟩) (by assumption) ?rest24
      case ho24 => simp only [List.getElem?_toArray, List.getElem?_cons_succ, List.getElem?_cons_zero]; rfl
      case hp24 => exact fun _ _ _ h => h
      case hw24 => rfl
      case hy24 =>
        intro W hSw
        go_simp
        try exact rfl
      simp only [Act.put, List.setIfInBounds_toArray, List.set_cons_zero, List.set_cons_succ]
      refine wpAnyH_take (i := 8) (oi := ?oi25) (v := ?v25) ?ho25 (by kernel_rfl) (by kernel_rfl) (by kernel_rfl) ?hp25 (Or.inl ⟨?hw25, ?hy25⟩) (by assumption) ?rest25
      case ho25 => simp only [List.getElem?_toArray, List.getElem?_cons_succ, List.getElem?_cons_zero]; rfl
      case hp25 => exact fun _ _ _ h => h
      case hw25 => rfl
      case hy25 =>
        intro W hSw
        go_simp
        try exact rfl
      simp only [Act.put, List.setIfInBounds_toArray, List.set_cons_zero, List.set_cons_succ]
      refine wpAnyH_take (i := 9) (oi := ?oi26) (v := ?v26) ?ho26 (by kernel_rfl) (by kernel_rfl) (by kernel_rfl) ?hp26 (Or.inl ⟨?hw26, ?hy26⟩) (by assumption) ?rest26
      case ho26 => simp only [List.getElem?_toArray, List.getElem?_cons_succ, List.getElem?_cons_zero]; rfl
      case hp26 => exact fun _ _ _ h => h
      case hw26 => rfl
      case hy26 =>
        intro W hSw
        go_simp
        try exact rfl
      simp only [Act.put, List.setIfInBounds_toArray, List.set_cons_zero, List.set_cons_succ]
      refine wpAnyH_take (i := 11) (oi := ?oi27) (v := ?v27) ?ho27 (by kernel_rfl) (by kernel_rfl) (by kernel_rfl) ?hp27 (Or.inl ⟨?hw27, ?hy27⟩) (by assumption) ?rest27
      case ho27 => simp only [List.getElem?_toArray, List.getElem?_cons_succ, List.getElem?_cons_zero]; rfl
      case hp27 => exact fun _ _ _ h => h
      case hw27 => rfl
      case hy27 =>
        intro W hSw
        go_simp
        try exact rfl
      simp only [Act.put, List.setIfInBounds_toArray, List.set_cons_zero, List.set_cons_succ]
      refine wpAnyH_take (i := 12) (oi := ?oi28) (v := ?v28) ?ho28 (by kernel_rfl) (by kernel_rfl) (by kernel_rfl) ?hp28 (Or.inl ⟨?hw28, ?hy28⟩) (by assumption) ?rest28
      case ho28 => simp only [List.getElem?_toArray, List.getElem?_cons_succ, List.getElem?_cons_zero]; rfl
      case hp28 => exact fun _ _ _ h => h
      case hw28 => rfl
      case hy28 =>
        intro W hSw
        go_simp
        try exact rfl
      simp only [Act.put, List.setIfInBounds_toArray, List.set_cons_zero, List.set_cons_succ]
      refine wpAnyH_ready (rs := [10, 13]) (by kernel_rfl) (by simp) ?_
      refine AllReadyH.cons rfl (fun K hK => ?_) (AllReadyH.cons rfl (fun K hK => ?_) AllReadyH.nil)
      · go_simp
        refine hK.out _ _ trivial (fun hHeld => ?_)
        clear hK K
        try simp only [Act.put, List.setIfInBounds_toArray, List.set_cons_zero, List.set_cons_succ]
        refine wpAnyH_ready (rs := [13]) (by kernel_rfl) (by simp) ?_
        refine AllReadyH.cons rfl (fun K hK => ?_) AllReadyH.nil
        go_simp
        refine hK.out _ _ trivial (fun hHeld => ?_)
        clear hK K
        try simp only [Act.put, List.setIfInBounds_toArray, List.set_cons_zero, List.set_cons_succ]
        refine wpAnyH_take (i := 14) (oi := ?oi29) (v := ?v29) ?ho29 (by kernel_rfl) (by kernel_rfl) (by kernel_rfl) ?hp29 (Or.inl ⟨?hw29, ?hy29⟩) (by assumption) ?rest29
        case ho29 => simp only [List.getElem?_toArray, List.getElem?_cons_succ, List.getElem?_cons_zero]; rfl
        case hp29 => exact fun _ _ _ h => h
        case hw29 => rfl
        case hy29 =>
          intro W hSw
          go_simp
          try exact rfl
        simp only [Act.put, List.setIfInBounds_toArray, List.set_cons_zero, List.set_cons_succ]
        refine wpAnyH_ready (rs := [15]) (by kernel_rfl) (by simp) ?_
        refine AllReadyH.cons rfl (fun K hK => ?_) AllReadyH.nil
        go_simp
        refine hK.out _ _ trivial (fun hHeld => ?_)
        clear hK K
        try simp only [Act.put, List.setIfInBounds_toArray, List.set_cons_zero, List.set_cons_succ]
        refine wpAnyH_take (i := 16) (oi := ?oi30) (v := ?v30) ?ho30 (by kernel_rfl) (by kernel_rfl) (by kernel_rfl) ?hp30 (Or.inl ⟨?hw30, ?hy30⟩) (by assumption) ?rest30
        case ho30 => simp only [List.getElem?_toArray, List.getElem?_cons_succ, List.getElem?_cons_zero]; rfl
        case hp30 => exact fun _ _ _ h => h
        case hw30 => rfl
        case hy30 =>
          intro W hSw
          go_simp
          try exact rfl
        simp only [Act.put, List.setIfInBounds_toArray, List.set_cons_zero, List.set_cons_succ]
        refine wpAnyH_ready (rs := [17]) (by kernel_rfl) (by simp) ?_
        refine AllReadyH.cons rfl (fun K hK => ?_) AllReadyH.nil
        go_simp
        refine hK.out _ _ trivial (fun hHeld => ?_)
        clear hK K
        try simp only [Act.put, List.setIfInBounds_toArray, List.set_cons_zero, List.set_cons_succ]
        refine wpAnyH_done (by kernel_rfl) ?_ _
        go_wp2
        refine bodyPost_ret (v := .agg #[.slice (some ⟨g, 0, none⟩) 2 vc]) (by simp [results, Tryz.results7, go_sem, z0]) rfl ?_
        exact hSG.out.done (by omega)
      · go_simp
        refine hK.out _ _ trivial (fun hHeld => ?_)
        clear hK K
        try simp only [Act.put, List.setIfInBounds_toArray, List.set_cons_zero, List.set_cons_succ]
        refine wpAnyH_ready (rs := [10]) (by kernel_rfl) (by simp) ?_
        refine AllReadyH.cons rfl (fun K hK => ?_) AllReadyH.nil
        go_simp
        refine hK.out _ _ trivial (fun hHeld => ?_)
        clear hK K
        try simp only [Act.put, List.setIfInBounds_toArray, List.set_cons_zero, List.set_cons_succ]
        refine wpAnyH_take (i := 14) (oi := ?oi31) (v := ?v31) ?ho31 (by kernel_rfl) (by kernel_rfl) (by kernel_rfl) ?hp31 (Or.inl ⟨?hw31, ?hy31⟩) (by assumption) ?rest31
        case ho31 => simp only [List.getElem?_toArray, List.getElem?_cons_succ, List.getElem?_cons_zero]; rfl
        case hp31 => exact fun _ _ _ h => h
        case hw31 => rfl
        case hy31 =>
          intro W hSw
          go_simp
          try exact rfl
        simp only [Act.put, List.setIfInBounds_toArray, List.set_cons_zero, List.set_cons_succ]
        refine wpAnyH_ready (rs := [15]) (by kernel_rfl) (by simp) ?_
        refine AllReadyH.cons rfl (fun K hK => ?_) AllReadyH.nil
        go_simp
        refine hK.out _ _ trivial (fun hHeld => ?_)
        clear hK K
        try simp only [Act.put, List.setIfInBounds_toArray, List.set_cons_zero, List.set_cons_succ]
        refine wpAnyH_take (i := 16) (oi := ?oi32) (v := ?v32) ?ho32 (by kernel_rfl) (by kernel_rfl) (by kernel_rfl) ?hp32 (Or.inl ⟨?hw32, ?hy32⟩) (by assumption) ?rest32
        case ho32 => simp only [List.getElem?_toArray, List.getElem?_cons_succ, List.getElem?_cons_zero]; rfl
        case hp32 => exact fun _ _ _ h => h
        case hw32 => rfl
        case hy32 =>
          intro W hSw
          go_simp
          try exact rfl
        simp only [Act.put, List.setIfInBounds_toArray, List.set_cons_zero, List.set_cons_succ]
        refine wpAnyH_ready (rs := [17]) (by kernel_rfl) (by simp) ?_
        refine AllReadyH.cons rfl (fun K hK => ?_) AllReadyH.nil
        go_simp
        refine hK.out _ _ trivial (fun hHeld => ?_)
        clear hK K
        try simp only [Act.put, List.setIfInBounds_toArray, List.set_cons_zero, List.set_cons_succ]
        refine wpAnyH_done (by kernel_rfl) ?_ _
        go_wp2
        refine bodyPost_ret (v := .agg #[.slice (some ⟨g, 0, none⟩) 2 vc]) (by simp [results, Tryz.results7, go_sem, z0]) rfl ?_
        exact hSG.out.done (by omega)
  · skip
    have z0 := hSP.out.res.cell 0
    have g0 := hSP.out.res.free 0
    simp only [List.getElem?_toArray, List.getElem?_cons_zero] at z0
    have hRl7 : R < w6.heap.size := hSP.out.res.lt
    have hRg : R < g := hSP.out.gR
    have hSGo := Lib.hid hSP.out.toSG
    have hrow5 := Lib.hid (hSP.out.row.alloc (.cells #[.string ⟨#[118, 97]⟩, .string ⟨#[97]⟩, .slice none 0 0, .string ⟨#[118, 98]⟩, .string ⟨#[98]⟩, .slice none 0 0, .string ⟨#[118, 99]⟩, .string ⟨#[99]⟩, .slice none 0 0] 37))
    go_wp2_with (at_builtin; (refine wpList_append_lies _ rfl _ _ 22 rfl (R + 1) 37 i0 (.agg #[.string ⟨#[]⟩, .string ⟨#[]⟩, .slice none 0 0]) 3 56 Tryz.underlying22 hi hz0 hz1 hz2 rfl (by decide) (.slice (some ⟨g, 0, none⟩) N vc) N _ rfl hrow5.out ⟨w6.heap.size, 0, none⟩ 3 3 [.string ⟨#[118, 97]⟩, .string ⟨#[97]⟩, .slice none 0 0, .string ⟨#[118, 98]⟩, .string ⟨#[98]⟩, .slice none 0 0, .string ⟨#[118, 99]⟩, .string ⟨#[99]⟩, .slice none 0 0] rfl rfl (World.news_of_block (cs := #[.string ⟨#[118, 97]⟩, .string ⟨#[97]⟩, .slice none 0 0, .string ⟨#[118, 98]⟩, .string ⟨#[98]⟩, .slice none 0 0, .string ⟨#[118, 99]⟩, .string ⟨#[99]⟩, .slice none 0 0]) (t := 37) (fr := (0, 0)) (Own.new' rfl)) (by simp [Value.oneCell']) (by omega) (by unfold maxLen; omega) (by omega) (by simp; omega) (w6.heap.size + 1) (by simp) ?_); intro g2 cap w9 hown9 hgrow9 hat9 hgl9; (have hSG := Lib.hid ((hSGo.out.alloc (.cells #[.string ⟨#[118, 97]⟩, .string ⟨#[97]⟩, .slice none 0 0, .string ⟨#[118, 98]⟩, .string ⟨#[98]⟩, .slice none 0 0, .string ⟨#[118, 99]⟩, .string ⟨#[99]⟩, .slice none 0 0] 37)).more (M := [⟨⟨#[118, 97]⟩, ⟨#[97]⟩, none, 0, 0, []⟩, ⟨⟨#[118, 98]⟩, ⟨#[98]⟩, none, 0, 0, []⟩, ⟨⟨#[118, 99]⟩, ⟨#[99]⟩, none, 0, 0, []⟩]) (m := 3) hgrow9 (hat9.imp (fun e => by simpa [Value.ownBlock] using e) (fun e => by rw [e]; simp)) (by simpa [CT.row] using hown9) rfl (fun y hy => ⟨by simp at hy; rcases hy with rfl | rfl | rfl <;> exact rows_nil _ _, by simp at hy; rcases hy with rfl | rfl | rfl <;> (intro a ha; cases ha), by simp at hy; rcases hy with rfl | rfl | rfl <;> (simp only; decide)⟩) (fun y hy => by simp at hy; rcases hy with rfl | rfl | rfl <;> exact ⟨by simp only; decide, fun a ha => by cases ha⟩) (fun y hy => by simp at hy; rcases hy with rfl | rfl | rfl <;> simp)); have zz := hSG.out.res.cell 0; have gg0 := hSG.out.res.free 0; have hRl9 := hSG.out.res.lt; simp only [List.getElem?_toArray, List.getElem?_cons_zero] at zz; clear hown9 hgrow9 hat9 hgl9 z0 g0))
    refine bodyPost_ret (v := .agg #[.slice (some ⟨g2, 0, none⟩) (N + 3) cap]) (by simp [results, Tryz.results7, go_sem, zz]) rfl ?_
    exact hSG.out.done (by omega)
  · skip
    obtain ⟨s0, s1, s2, f0, f1, f2⟩ := hSP.out.cells
    clear s0 s1 f0 f1
    have hST := Lib.hid (hSP.out.turn (r := none) (grown_refl w6 none) (fun j e => by cases e) none 0 0 [] (World.ownsRow_nil _ _ _ _) rfl (fun y hy => by cases hy) (fun y hy => by cases hy) (by simp))
    clear hSP
    go_wp2_with fail
    generalize w6.setCell ⟨g, k * 3 + 2, none⟩ (.slice none 0 0) = w7 at hST ⊢
    clear s2 f2 hgl
    go_loopw [7] (fun s7 wr => ∃ i : Nat, i ≤ 21 ∧ s7 = .int .i64 i ∧ Hid (∃ L' kk', SP w wr b a n c R g N vc B2 L' k kk' ∧ kk'.len = i)) (fun s7 _ => 21 - (intOf s7).toNat)
    case atStart => exact ⟨0, by omega, rfl, Lib.hid ⟨_, _, hST.out, rfl⟩⟩
    case round =>
      clear hST
      obtain ⟨i, hi, rfl, hE⟩ := hrel
      obtain ⟨L', kk', hSP, hki⟩ := hE.out
      replace hSP := Lib.hid hSP
      have hki' : kk'.len ≤ i := by omega
      have hik : i ≤ kk'.len := by omega
      clear hki hE
      go_wp2_with fail
      refine (next_any b a n c _ 2 (by omega) (by omega) (hSP.out.codes hC.out)).mono ?_
      rintro e w6 ⟨⟨m2, rfl, h20, h21⟩, hH6, hG6⟩
      replace hSP := Lib.hid (hSP.out.call hG6 hH6)
      clear hH6 hG6
      have z0 := hSP.out.res.cell 0
      have g0 := hSP.out.res.free 0
      simp only [List.getElem?_toArray, List.getElem?_cons_zero] at z0
      have hRl7 : R < w6.heap.size := hSP.out.res.lt
      obtain ⟨s0, s1, s2, f0, f1, f2⟩ := hSP.out.cells
      have hgl : g < w6.heap.size := hSP.out.gl
      clear s0 s1 f0 f1
      by_cases hgo : (i : Int) < 20 + m2
      case neg =>
        have hSG := Lib.hid hSP.out.toSG
        clear s2 f2 hSP
        go_wp2
        refine bodyPost_ret (v := .agg #[.slice (some ⟨g, 0, none⟩) N vc]) (by simp [results, Tryz.results7, go_sem, z0]) rfl ?_
        exact hSG.out.done (by omega)
      have hi20 : i ≤ 20 := by omega
      have hkl7 : kk'.len ≤ 20 := by omega
      have henc := encode_size_le (IntKind.i32.wrap (IntKind.i64.wrap (97 + (i : Int))))
      have hbig : ¬ 9223372036854775807 < 1 + (Utf8.encode (IntKind.i32.wrap (IntKind.i64.wrap (97 + (i : Int))))).size := by omega
      have p0 : (0 : Int) ≤ (i : Int) := by omega
      have p1 : (i : Int) ≤ 20 := by omega
      clear z0 g0
      go_wp2_with fail
      go_region_law
        ((first
          | ((refine step_append_lies _ (by rfl) _ _ _ (by rfl) B2 56 j0 _ 5 72 Tryz.underlying35 hj hy0 hy1 hy2 rfl (by omega) (.slice kk'.ptr kk'.len kk'.cap) kk'.len _ (by rfl) (hSP8.out.own.alloc _) ⟨w8.heap.size, 0, none⟩ 1 1 (.string (⟨#[97]⟩ ++ Utf8.encode (IntKind.i32.wrap (IntKind.i64.wrap (97 + (i : Int))))) :: dv.row) (by rfl) (by rfl) (World.news_of_block (cs := (Value.string (⟨#[97]⟩ ++ Utf8.encode (IntKind.i32.wrap (IntKind.i64.wrap (97 + (i : Int))))) :: dv.row).toArray) (t := 56) (fr := (0, 0)) (heap_alloc_new w8 _)) (ad_one (⟨#[97]⟩ ++ Utf8.encode (IntKind.i32.wrap (IntKind.i64.wrap (97 + (i : Int))))) dv) (by omega) (by unfold maxLen; omega) (by omega) (Nat.le_trans hSP8.out.bl (by simp)) (w8.heap.size + 1) (by simp) ?_); intro gg cap w9 hown9 hgrow9 hat9 hlt9; have hgb9 : some g ≠ (Value.slice kk'.ptr kk'.len kk'.cap).ownBlock := (fun e => absurd (hSP8.out.blk g e.symm).1 (by have := hSP8.out.gB; omega)); (have y2 : w9.cell? ⟨g, k * 3 + 2, none⟩ = some (.slice kk'.ptr kk'.len kk'.cap) := hgrow9.cell (hSP8.out.alloc (.cells (Value.string (⟨#[97]⟩ ++ Utf8.encode (IntKind.i32.wrap (IntKind.i64.wrap (97 + (i : Int))))) :: dv.row).toArray 56)).cells.2.2.1 hgb9); (have z2 : w9.frozen? ⟨g, k * 3 + 2, none⟩ = false := (World.frozen?_of_block (hgrow9.block g (Nat.lt_of_lt_of_le hSP8.out.gl (by simp)) hgb9)).trans (hSP8.out.alloc (.cells (Value.string (⟨#[97]⟩ ++ Utf8.encode (IntKind.i32.wrap (IntKind.i64.wrap (97 + (i : Int))))) :: dv.row).toArray 56)).cells.2.2.2.2.2); (have hgl9 : g < w9.heap.size := Nat.lt_of_lt_of_le hSP8.out.gl (Nat.le_trans (by simp) hgrow9.size)); clear hgb9)
          | (go_simp; go_at_call 20; refine (any_any b a n c _ (hSP.out.drew.codes hC.out) (hSP.out.drew.glob hg0.out)).mono ?_; rintro e w8 ⟨⟨kd, hkd0, hkd1, dv, rfl, hdk, hLd⟩, hH8, hG8⟩; have hSP8 := Lib.hid (hSP.out.drew.call hG8 hH8); have hdv := Lib.hid (hSP.out.new hLd); obtain ⟨-, -, s2'', -, -, f2''⟩ := hSP8.out.cells; have hgl8 : g < w8.heap.size := hSP8.out.gl; clear hH8 hG8 hLd hdk; unfold VD.row)))
      all_goals
        have hN9 := hSP8.out.app hgrow9 hat9 hown9 hdv.out (by rw [ByteArray.size_append]; have e1 : (⟨#[97]⟩ : ByteArray).size = 1 := rfl; omega) (by omega)
        have hNx := Lib.hid (show ∃ L' kk', SP w _ b a n c R g N vc B2 L' k kk' ∧ kk'.len = i + 1 from ⟨_, _, hN9, by simp only; omega⟩)
        clear hown9 hgrow9 hat9 hN9 hSP8 hSP hdv
        go_wp2
        go_roundw
        case rel => exact ⟨i + 1, by omega, by go_num, hNx⟩
        case measure => simp [intOf]; omega
  · skip
    obtain ⟨s0, s1, s2, f0, f1, f2⟩ := hSP.out.cells
    have z0 := hSP.out.res.cell 0
    have g0 := hSP.out.res.free 0
    simp only [List.getElem?_toArray, List.getElem?_cons_zero] at z0
    have hRl7 : R < w6.heap.size := hSP.out.res.lt
    have hRg : R < g := hSP.out.gR
    have hnm7 := hSP.out.nm kk (List.mem_of_getElem? hSP.out.here)
    have hSG := Lib.hid (hSP.out.toSG.put (j := 1) (x' := ⟨kk.kind, ⟨#[1]⟩, kk.ptr, kk.len, kk.cap, kk.attrs⟩) (v := .string ⟨#[1]⟩) hSP.out.here (by omega) rfl (fun h => ⟨h.rows, h.each, by simp only; decide⟩) ⟨hnm7.1, rfl⟩)
    clear hSP s0 s2 f0 f2 hnm7
    go_wp2
    refine bodyPost_ret (v := .agg #[.slice (some ⟨g, 0, none⟩) N vc]) (by simp [results, Tryz.results7, go_sem, z0]) rfl ?_
    exact hSG.out.done (by omega)
end Go.Proofs.YthnjgbjckggjhaaGreatDoor.subj

