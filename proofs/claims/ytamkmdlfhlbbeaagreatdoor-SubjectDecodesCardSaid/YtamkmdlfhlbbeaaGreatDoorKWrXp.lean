/- The program's Decode. -/
import Derived.Test.YtamkmdlfhlbbeaaGreatDoorKJ14
import Derived.Test.YtamkmdlfhlbbeaaGreatDoorKJ14
import Derived.Test.YtamkmdlfhlbbeaaGreatDoorKSuE
import Derived.Deep.AppendLies
import Derived.Deep.RegionLawGrows
namespace Go.Proofs.YtamkmdlfhlbbeaaGreatDoor.wire
open Go.RowKit Go.Proofs.YtamkmdlfhlbbeaaGreatDoor Go.Proofs.YtamkmdlfhlbbeaaGreatDoor.schema Go.Proofs.YtamkmdlfhlbbeaaGreatDoor.value Go.Proofs.YtamkmdlfhlbbeaaGreatDoor.text Go.Proofs.YtamkmdlfhlbbeaaGreatDoor.clause Go.Proofs.YtamkmdlfhlbbeaaGreatDoor.subj Go.Proofs.YtamkmdlfhlbbeaaGreatDoor.draw

attribute [local go_sem ↓] Go.wp_at_zero Go.wp_at_succ

set_option maxRecDepth 100000 in
set_option maxHeartbeats 16000000 in
theorem decode_any (a : Option Addr) (n c : Nat) (l : List UInt8) (w : World) (h : BV w.cell? (.slice a n c) l) (hn : n ≤ 1073741824) (hT : STabs w) :
    Calls Tryz.prog 29 #[.slice a n c] w fun e w' => DecIs l e w' ∧ Below w.heap.size w w' := by
  have hb0 : Below w.heap.size w (w.alloc (.cells #[.slice none 0 0] 24)) := (Below.refl _ _).alloc (Nat.le_refl _) _
  have hNew := Lib.hid (new_any a n c l _ (h.mono (sub_of_below hb0)) hn)
  have hZ0 := Own.new w #[.slice none 0 0] 24
  replace hZ0 := Lib.hid hZ0
  replace hb0 := Lib.hid hb0
  replace hT := Lib.hid hT
  clear h hn
  obtain ⟨i0, hi0, hz0, hz1, hz2⟩ := info_parts info3
  obtain ⟨j0, hj0, hy0, hy1, hy2⟩ := info_parts info5
  go_enter Tryz.func29, Tryz.ntmps29
  go_wp2_with fail
  refine hNew.out.mono ?_
  clear hNew
  rintro e w1 ⟨g, rfl, hgg, hR1, hb1⟩
  have I := Lib.hid (isRdP (but g w1) g)
  have hlow := Lib.hid (hb0.out.trans (hb1.mono hb0.out.size))
  have hgr : w.heap.size < g := by simp at hgg; omega
  have hO : DO (RdP (but g w1) g) g w.heap.size w1.heap.size (some l) (.slice none 0 0) w1 (w1.alloc (.cells #[.slice none 0 0] 24)) :=
    ⟨I.out.alloc hR1 _, g_alloc (grown_refl w1 (some g)) _, (hZ0.out.below hb1 hZ0.out.lt).alloc _, Own.new w1 _ _, hgr, I.out.lt hR1, Nat.le_refl _⟩
  replace hO := Lib.hid hO
  clear hR1 hb1 hZ0 hb0 hgg
  go_wp2_with fail
  obtain ⟨gs, hgs⟩ : ∃ v, Hid (v = w1.heap.size) := ⟨_, Lib.hid rfl⟩
  rw [← hgs.out] at hO ⊢
  generalize World.alloc w1 _ = u0 at hO ⊢
  refine (count_any (but g w1) g u0 (some l) (sub_of_grown hO.out.grown) 4 (by decide) hO.out.rd).mono ?_
  rintro e u1 ⟨rfl, hR, hG⟩
  have hO1 := Lib.hid (hO.out.call hG hR)
  have hn4 := rdLen_few (m := 4) (by decide) (some l)
  obtain ⟨N, hN⟩ : ∃ n, Hid ((rdLen 4 (some l)).1 = n) := ⟨_, Lib.hid rfl⟩
  obtain ⟨s0, hs0⟩ : ∃ t, Hid ((rdLen 4 (some l)).2 = t) := ⟨_, Lib.hid rfl⟩
  rw [hN.out] at hn4 ⊢
  rw [hs0.out] at hO1
  have hst := Lib.hid (show RelO (RdP (but g w1) g) true g w.heap.size gs N s0 w1 0 u1 from ⟨none, 0, [], [], s0, RepAt.start _ _ _, alike_nil _, (fun c hc => by cases hc), (fun c hc => by cases hc), hO1.out, World.ownsRow_nil u1 (gs + 1) _ _⟩)
  clear hR hG hO hO1
  go_wp2_with fail
  go_loopw [6] (fun s6 wr => ∃ i : Nat, i ≤ N ∧ s6 = .int .i64 ((N : Int) - (i : Int)) ∧ Hid (RelO (RdP (but g w1) g) true g w.heap.size gs N s0 w1 i wr)) (fun s6 _ => (intOf s6).toNat)
  case atStart => exact ⟨0, by omega, by simp, hst⟩
  case round =>
    clear hst
    obtain ⟨i, hi, rfl, hR⟩ := hrel
    by_cases hlt : i < N
    case neg =>
      obtain rfl : i = N := by omega
      obtain ⟨va, vc, acc, hal, hnm, hD, hS⟩ := relO_done (l := l) hN.out (by rw [hs0.out]; exact hR.out)
      clear hR
      replace hal := Lib.hid hal
      replace hnm := Lib.hid hnm
      have hD1 := Lib.hid hD
      have hEnd := Lib.hid (end_any (but g w1) g wr _ hD.rd)
      have hgw := hD.gw
      have hws := hD.ws
      have hw1 := hlow.out.size
      have hSS : SAt (newM (gs + 1) g wr) (.slice va i vc) acc := hS
      replace hS := Lib.hid hSS
      clear hD hSS
      have cN : ¬ (0 : Int) < (i : Int) - (i : Int) := by omega
      go_wp2_with fail
      refine hEnd.out.mono ?_
      clear hEnd
      rintro e w' ⟨⟨r, rfl, hr⟩, hw'⟩
      subst hw'
      have hDe := hD1
      have hSe := hS
      have hDl : Below w.heap.size w w' := hlow.out.grown hDe.out.grown hw1 (fun k hk => by injection hk with hk; omega)
      have hSc : SAt w'.cell? (.slice va i vc) acc := hSe.out.mono (Sub.trans (newM_but _ _ _) (but_sub _ _))
      have hTe := hT.out.below hDl
      have hChk := Lib.hid (scheck_any acc va i vc _ hSc hTe)
      have q0 := hDe.out.sub.cell 0
      have q1 := hDe.out.sub.lt
      have r0 := hDe.out.res.cell 0
      have r1 := hDe.out.res.free 0
      have r2 := hDe.out.res.lt
      simp only [List.getElem?_toArray, List.getElem?_cons_zero] at q0 r0
      replace hDl := Lib.hid hDl
      replace hSc := Lib.hid hSc
      clear hTe
      by_cases hfin : (rdS true l).2 = some []
      case neg =>
        have hr0 : ¬ r = 0 := fun e => hfin (hr.1 e)
        have hr1 : (r == 0) = false := by simpa using hr0
        have hbad := Lib.hid (fun (w : World) => decIs_bad (bb := true) (l := l) (w := w) (fun h => hfin h.1))
        clear hr
        replace hfin := Lib.hid hfin
        go_wp2
        refine bodyPost_ret (v := .tuple #[.agg #[.slice none 0 0], .int .i64 1]) (by simp [results, Tryz.results29, go_sem, r0]) rfl ?_
        exact ⟨hbad.out _, Below.setCell hDl.out (by simp) _⟩
      have hr0 : r = 0 := hr.2 hfin
      subst hr0
      clear hr
      go_wp2_with fail
      refine hChk.out.mono ?_
      clear hChk
      rintro e w7 ⟨rfl, hb7⟩
      rw [sub_alike hal.out]
      have hDl7 := Lib.hid (hDl.out.trans (hb7.mono hDl.out.size))
      have hSub7 := hDe.out.sub.below hb7 hDe.out.sub.lt
      have hRes7 := hDe.out.res.below hb7 hDe.out.res.lt
      have hS7 := Lib.hid (hSc.out.mono (sub_of_below hb7))
      have hSz := Lib.hid (show SAt (newM (gs + 1) g w7) (.slice va i vc) acc from hSe.out.mono (newM_grown (grown_of_below hb7 (some g))))
      clear q0 q1 r0 r1 r2 hb7
      have q0 := hSub7.cell 0
      have q1 := hSub7.lt
      have r0 := hRes7.cell 0
      have r1 := hRes7.free 0
      have r2 := hRes7.lt
      simp only [List.getElem?_toArray, List.getElem?_cons_zero] at q0 r0
      replace hSub7 := Lib.hid hSub7
      replace hRes7 := Lib.hid hRes7
      obtain ⟨z, hz⟩ : ∃ z, subS (rdS true l).1 = z := ⟨_, rfl⟩
      rw [hz]
      by_cases hz0' : z = 0
      case neg =>
        have hz1' : (z == 0) = false := by simpa using hz0'
        have hbad := Lib.hid (fun (w : World) => decIs_bad (bb := true) (l := l) (w := w) (fun h => hz0' (hz.symm.trans h.2)))
        replace hz := Lib.hid hz
        replace hfin := Lib.hid hfin
        go_wp2
        refine bodyPost_ret (v := .tuple #[.agg #[.slice none 0 0], .int .i64 1]) (by simp [results, Tryz.results29, go_sem, r0]) rfl ?_
        exact ⟨hbad.out _, Below.setCell hDl7.out (by simp) _⟩
      subst hz0'
      have hgood := Lib.hid (fun (w : World) h => decIs_good (bb := true) (l := l) (w := w) (a := va) (n := i) (c := vc) (l' := acc) hfin hz hal.out h)
      have hrg := Lib.hid hDe.out.rg
      replace hz := Lib.hid hz
      replace hfin := Lib.hid hfin
      go_wp2
      refine bodyPost_ret (v := .tuple #[.agg #[.slice va i vc], .int .i64 0]) (by simp [results, Tryz.results29, go_sem, r0]) rfl ?_
      refine ⟨hgood.out _ (hSz.out.mono (Sub.trans (newM_set (by have := hrg.out; simp; omega) _) (Sub.trans (newM_but _ _ _) (but_sub _ _)))), Below.setCell hDl7.out (by simp) _⟩
    obtain ⟨va, vc, acc, plain, s, hA, hAl, hNm, hLs, hO, hown⟩ := hR.out
    clear hR
    have hgw := hO.gw
    have hws := hO.ws
    have cN : (0 : Int) < (N : Int) - (i : Int) := by omega
    replace hO := Lib.hid hO
    go_wp2_with fail
    refine (rtext_any (but g w1) g wr s (sub_of_grown hO.out.grown) 32 (by decide) hO.out.rd).mono ?_
    rintro e u2 ⟨rfl, hR2, hG2⟩
    have hO2 := Lib.hid (hO.out.call hG2 hR2)
    have hown2 := Lib.hid (owns_kept hown hG2 (by omega))
    have hLs2 := Lib.hid (fun c hc => (hLs c hc).mono (newG_grown hG2))
    obtain ⟨kind, hkind⟩ : ∃ k : ByteArray, Hid (k = ⟨(rdT 32 s).1.toArray⟩) := ⟨_, Lib.hid rfl⟩
    rw [← hkind.out]
    clear hR2 hG2 hO hown hLs
    go_wp2_with fail
    refine (rtext_any (but g w1) g u2 (rdT 32 s).2 (sub_of_grown hO2.out.grown) 200 (by decide) hO2.out.rd).mono ?_
    rintro e u3 ⟨rfl, hR3, hG3⟩
    have hO3 := Lib.hid (hO2.out.call hG3 hR3)
    have hown3 := Lib.hid (owns_kept hown2.out hG3 (by omega))
    have hLs3 := Lib.hid (fun c hc => (hLs2.out c hc).mono (newG_grown hG3))
    have hkey200 := rdT_few (m := 200) (by decide) (rdT 32 s).2
    obtain ⟨key, hkey⟩ : ∃ k : ByteArray, Hid (k = ⟨(rdT 200 (rdT 32 s).2).1.toArray⟩) := ⟨_, Lib.hid rfl⟩
    have hkz : Hid (key.size ≤ 200) := Lib.hid (by rw [hkey.out]; show (rdT 200 (rdT 32 s).2).1.toArray.size ≤ 200; simp; omega)
    rw [← hkey.out]
    obtain ⟨s2, hs2⟩ : ∃ t, Hid ((rdT 200 (rdT 32 s).2).2 = t) := ⟨_, Lib.hid rfl⟩
    rw [hs2.out] at hO3 hR3
    have hg3 : g < u3.heap.size := I.out.lt hR3
    have hI : DI (RdP (but g w1) g) g u3.heap.size s2 kind key (.slice none 0 0) u3 (u3.alloc (.cells #[.string kind, .string key, .slice none 0 0] 37)) :=
      ⟨I.out.alloc hR3 _, g_alloc (grown_refl u3 (some g)) _, Own.new u3 _ _, hg3, Nat.le_refl _⟩
    replace hI := Lib.hid hI
    have hs3 : gs < u3.heap.size := hO3.out.sub.lt
    clear hR3 hG3 hO2 hown2 hLs2 hkey200
    go_wp2_with fail
    obtain ⟨gc, hgc⟩ : ∃ v, v = u3.heap.size := ⟨_, rfl⟩
    rw [← hgc] at hI hs3 hg3 ⊢
    generalize World.alloc u3 _ = u4 at hI ⊢
    refine (count_any (but g w1) g u4 s2 (sub_of_grown (g_call hO3.out.grown hI.out.grown)) 20 (by decide) hI.out.rd).mono ?_
    rintro e u5 ⟨rfl, hR5, hG5⟩
    have hI5 := Lib.hid (hI.out.call hG5 hR5)
    have hm20 := rdLen_few (m := 20) (by decide) s2
    obtain ⟨m, hm⟩ : ∃ n, Hid ((rdLen 20 s2).1 = n) := ⟨_, Lib.hid rfl⟩
    obtain ⟨s3, hs3'⟩ : ∃ t, Hid ((rdLen 20 s2).2 = t) := ⟨_, Lib.hid rfl⟩
    rw [hm.out] at hm20 ⊢
    rw [hs3'.out] at hI5
    have hst2 := Lib.hid (show RelI (RdP (but g w1) g) true g gc m s3 kind key u3 0 u5 from ⟨none, 0, [], [], s3, RepAt.start _ _ _, alike_nil _, (fun c hc => by cases hc), (fun c hc => by cases hc), hI5.out, World.ownsRow_nil u5 (gc + 1) _ _⟩)
    replace hgc := Lib.hid hgc
    replace hA := Lib.hid hA
    replace hAl := Lib.hid hAl
    replace hNm := Lib.hid hNm
    clear hR5 hG5 hI hI5
    go_wp2_with fail
    go_loopw [8] (fun s8 wq => ∃ j : Nat, j ≤ m ∧ s8 = .int .i64 ((m : Int) - (j : Int)) ∧ Hid (RelI (RdP (but g w1) g) true g gc m s3 kind key u3 j wq)) (fun s8 _ => (intOf s8).toNat)
    case atStart => exact ⟨0, by omega, by simp, hst2⟩
    case round =>
      clear hst2
      obtain ⟨j, hj, rfl, hQ⟩ := hrel
      by_cases hjlt : j < m
      case neg =>
        obtain rfl : j = m := by omega
        obtain ⟨va2, vc2, acc2, hal2, hnm2, hC2, hI2⟩ := relI_done (t := s2) hm.out (by rw [hs3'.out]; exact hQ.out) hkz.out
        clear hQ
        have e2 : (rdAs true s2).2 = (rdC true s).2 := by rw [← hs2.out]; rfl
        have hO6 := Lib.hid (hO3.out.call hI2.grown (e2 ▸ hI2.rd))
        have hown6 := Lib.hid (owns_kept hown3.out hI2.grown (by omega))
        have hLs6 := Lib.hid (fun c hc => (hLs3.out c hc).mono (newG_grown hI2.grown))
        have hob := Lib.hid (fun k hk => Nat.lt_succ_of_lt (hgc.out ▸ (hown3.out.lt k hk).2))
        have d0 := hO6.out.sub.cell 0
        have d1 := hO6.out.sub.lt
        obtain ⟨c0, c1, c2⟩ := own3cc hI2.own
        have c3 := hI2.own.lt
        have d2 : gs + 1 ≤ wr.heap.size := by omega
        simp only [List.getElem?_toArray, List.getElem?_cons_zero] at d0
        replace hI2 := Lib.hid hI2
        replace hC2 := Lib.hid hC2
        replace hal2 := Lib.hid hal2
        replace hnm2 := Lib.hid hnm2
        have cM : ¬ (0 : Int) < (j : Int) - (j : Int) := by omega
        go_wp2_with (at_builtin; refine wpList_append_lies _ rfl _ _ 22 rfl (gs + 1) 37 i0 (.agg #[.string ⟨#[]⟩, .string ⟨#[]⟩, .slice none 0 0]) 3 56 Tryz.underlying22 hi0 hz0 hz1 hz2 rfl (by decide) (.slice va i vc) i (acc.map CT.row).flatten rfl (hown6.out.alloc _) ⟨wr.heap.size, 0, none⟩ 1 1 [.string kind, .string key, .slice va2 j vc2] rfl rfl (World.news_of_block (cs := #[.string kind, .string key, .slice va2 j vc2]) (t := 37) (fr := (0, 0)) (Own.new' rfl)) (by simp [Value.oneCell']) (by omega) (by unfold maxLen; omega) (by omega) (by simp; omega) (wr.heap.size + 1) (by simp) ?_; intro gg cap w6 hown7 hgrow7 hat hlt7; have hO7 := Lib.hid ((hO6.out.alloc I.out _).app I.out (hown6.out.alloc _) hgrow7); have e0 := hO7.out.sub.cell 0; have e1 := hO7.out.sub.free 0; have e3 := hO7.out.sub.lt; simp only [List.getElem?_toArray, List.getElem?_cons_zero] at e0)
        have hN' := Lib.hid (relO_next (gc := gc) I.out hlt hA.out hAl.out hNm.out hLs6.out hO6.out hown6.out hkind.out hkey.out (by rw [hs2.out]; exact hal2.out) hnm2.out hC2.out (by omega) hob.out hgrow7 hat hown7)
        clear hgrow7 hown7 hat
        go_wp2
        go_roundw
        case rel => exact ⟨i + 1, by omega, by first | go_num | (congr 1; omega), hN'⟩
        case measure => simp [intOf]; omega
      obtain ⟨va2, vc2, acc2, plain2, sj, hA2, hAl2, hNm2, hLs2, hI2, hown2⟩ := hQ.out
      clear hQ
      have hgr2 := g_call hO3.out.grown hI2.grown
      have cM : (0 : Int) < (m : Int) - (j : Int) := by omega
      replace hA2 := Lib.hid hA2
      replace hAl2 := Lib.hid hAl2
      replace hNm2 := Lib.hid hNm2
      obtain ⟨nm, hnm⟩ : ∃ k : ByteArray, Hid (k = ⟨(rdT 32 sj).1.toArray⟩) := ⟨_, Lib.hid rfl⟩
      have hI3 := Lib.hid (hI2.drew I.out)
      have hT3 := Lib.hid (rtext_any (but g w1) g wr.drew sj (sub_of_grown (g_drew hgr2)) 32 (by decide) hI3.out.rd)
      rw [← hnm.out] at hT3
      have y2 := hI2.own.cell 2
      have y3 := hI2.own.lt
      have y4 : gc < wr.drew.heap.size := hI3.out.own.lt
      simp only [List.getElem?_toArray, List.getElem?_cons_succ, List.getElem?_cons_zero] at y2
      replace hI2 := Lib.hid hI2
      replace hown2 := Lib.hid hown2
      replace hLs2 := Lib.hid hLs2
      replace hgr2 := Lib.hid hgr2
      go_wp2_with fail
      go_region_law
        ((first
          | (refine step_append_lies _ (by rfl) _ _ _ (by rfl) (gc + 1) 79 j0 _ 5 72 Tryz.underlying35 hj0 hy0 hy1 hy2 rfl (by omega) (.slice va2 j vc2) j _ (by rfl) (hown5.out.alloc _) ⟨w5.heap.size, 0, none⟩ 1 1 [.string nm, .int .i64 dv.kind, .int .i64 dv.num, .string dv.text, .slice dv.ptr dv.len dv.cap] (by rfl) (by rfl) (World.news_of_block (cs := #[.string nm, .int .i64 dv.kind, .int .i64 dv.num, .string dv.text, .slice dv.ptr dv.len dv.cap]) (t := 79) (fr := (0, 0)) (heap_alloc_new w5 _)) (by simp [Value.oneCell']) (by omega) (by unfold maxLen; omega) (by omega) (by simp; omega) (w5.heap.size + 1) (by simp) ?_; intro gg cap w6 hown6 hgrow6 hat hlt6; have hI6 := Lib.hid ((hI5.out.alloc I.out _).app I.out (hown5.out.alloc _) hgrow6); have t2 := hI6.out.own.cell 2; have t3 := hI6.out.own.free 2; have t4 := hI6.out.own.lt; simp only [List.getElem?_toArray, List.getElem?_cons_succ, List.getElem?_cons_zero] at t2)
          | (go_simp; go_at_call 61; refine hVc.out.mono ?_; rintro e w5 ⟨⟨dv, rfl, hsv, hLd⟩, hR5, hG5⟩; have hI5 := Lib.hid (hI4.out.call hG5 hR5); have hown5 := Lib.hid (owns_kept hown4.out hG5 (by omega)); have hLs5 := Lib.hid (fun a ha => AAt.mono (newG_grown hG5) (hLs4.out a ha)); have hob2 := Lib.hid (fun k hk => (hown4.out.lt k hk).2); have x2 := hI5.out.own.cell 2; have xl := hI5.out.own.lt; simp only [List.getElem?_toArray, List.getElem?_cons_succ, List.getElem?_cons_zero] at x2; replace hsv := Lib.hid hsv; replace hLd := Lib.hid hLd; clear hR5 hG5)
          | (go_simp; go_at_call 60; refine hT3.out.mono ?_; rintro e w4 ⟨rfl, hR4, hG4⟩; have hI4 := Lib.hid (hI3.out.call hG4 hR4); have hown4 := Lib.hid (owns_kept (owns_drew hown2.out) hG4 (by omega)); have hLs4 := Lib.hid (fun a ha => AAt.mono (newG_grown hG4) (hLs2.out a ha)); have hVc := Lib.hid (getV_any (but g w1) g w4 (rdT 32 sj).2 (sub_of_grown (g_call hO3.out.grown hI4.out.grown)) hI4.out.rd); have z2 := hI4.out.own.cell 2; have zl : gc < w4.heap.size := hI4.out.own.lt; simp only [List.getElem?_toArray, List.getElem?_cons_succ, List.getElem?_cons_zero] at z2; clear hR4 hG4)))
      all_goals
        rw [hnm.out] at hown6
        have hN' := Lib.hid (relI_next (B := w4.heap.size) I.out hjlt hA2.out hAl2.out hNm2.out hLs5.out hI5.out hown5.out hsv.out hLd.out (by omega) hob2.out hgrow6 hat hown6)
        clear hgrow6 hown6 hat
        go_wp2
        go_roundw
        case rel => exact ⟨j + 1, by omega, by first | go_num | (congr 1; omega), hN'⟩
        case measure => simp [intOf]; omega

end Go.Proofs.YtamkmdlfhlbbeaaGreatDoor.wire

