/- Drawn values of any kind, once more: a list that is nil has no room. -/
import Derived.Test.YtnghpjijfdpmkaaGreatDoorValDR
namespace Go.Proofs.YtnghpjijfdpmkaaGreatDoor.value
open Go.RowKit Go.Proofs.YtnghpjijfdpmkaaGreatDoor Go.Proofs.YtnghpjijfdpmkaaGreatDoor.text Go.Proofs.YtnghpjijfdpmkaaGreatDoor.draw

def DV2 (base : Nat) (e : Ending) (w' : World) : Prop := ∃ x : VX, e = .returned x.val ∧ x.Ok w' ∧ checkS x.v = 0 ∧ x.t.size ≤ 200 ∧ x.ls.length ≤ 20 ∧ LFrom base x.la ∧ (x.la = none → x.lc = 0)
theorem cap_owns {w : World} {base n : Nat} {e : TypeId} {va : Option Addr} {vc : Nat} {xs : List Value} (h : w.ownsRow base e 1 (.slice va n vc) n xs) : va = none → vc = 0 := by
  intro hv
  rcases h.2 with ⟨h1, -⟩ | ⟨g, cap, cur, h1, -⟩
  · injection h1
  · injection h1 with h1 _ _
    rw [hv] at h1; cases h1
theorem dv2_flat {K : Int} {e : Ending} {base : Nat} {w' : World} (h : ValV K e) : DV2 base e w' := by
  obtain ⟨x, s, rfl, hc, hz⟩ := h
  exact ⟨⟨⟨K, x, s.data.toList, []⟩, s, none, 0, []⟩, rfl, ⟨⟨rfl, Or.inl rfl, rfl⟩, by show s.size ≤ 400; omega, by show 0 ≤ 41; omega⟩, hc, hz, by show 0 ≤ 20; omega, (fun a e => by cases e), fun _ => rfl⟩

set_option maxHeartbeats 1000000 in
theorem dvalue2_list (b : Nat) (a : Option Addr) (n c : Nat) (w : World) (h : Codes b a n c w) (hg : ListTab (but b w)) :
    Calls Tryz.prog 22 #[.pointer (some ⟨b, 0, none⟩), .int .i64 5] w (Drawn b a n c w (DV2 w.heap.size)) := by
  have hC := Lib.hid h
  have hg0 := Lib.hid (hg.mono (sub_of_grown (World.grownBy_alloc w (.cells zero4 24) (some b))))
  have hlt := h.lt
  clear h hg
  obtain ⟨i0, hi, hz0, hz1, hz2⟩ := info_parts infoStr
  go_enter Tryz.func22, Tryz.ntmps22
  go_wp2_with fail
  refine (next_any b a n c _ 5 (by omega) (by omega) (hC.out.alloc (.cells zero4 24))).mono ?_
  rintro e w' ⟨⟨m, rfl, hm0, hm1⟩, hH, hG⟩
  obtain ⟨j, rfl⟩ := Int.eq_ofNat_of_zero_le hm0
  obtain ⟨ad, cc, l, hs, hl, hval, hls⟩ := (hg0.out.mono (sub_of_grown hG)) j (by omega)
  have hs := but_sub _ _ _ _ hs
  have hls1 : ∀ i u, (l.map Value.string)[i]? = some u → w'.cell? (ad.add i) = some u := by
    intro i u hu
    rw [List.getElem?_map] at hu
    cases hq : l[i]? with
    | none => rw [hq] at hu; cases hu
    | some s => rw [hq] at hu; cases hu; exact but_sub _ _ _ _ (hls i s hq)
  have hls2 := Lib.hid hls1
  replace hval := Lib.hid hval
  have hO := Lib.hid ((Own.new w zero4 24).kept hG (by simp; omega))
  have hH1 := Lib.hid hH
  have hG1 := Lib.hid (g_call (g_alloc (grown_refl w _) _) hG)
  have hone : ∀ u ∈ l.map Value.string, u.oneCell' = true := by
    intro u hu
    obtain ⟨s, -, rfl⟩ := List.mem_map.1 hu
    rfl
  have hone1 := Lib.hid hone
  have hsz' : w.heap.size ≤ w'.heap.size := by have := hG.size; simp at this; omega
  clear hH hG hls hls1 hone
  go_wp2_with (at_builtin; refine wpList_append_own _ rfl _ _ 22 rfl w'.heap.size 9 i0 (.string ⟨#[]⟩) 1 16 Tryz.underlying22 hi hz0 hz1 hz2 rfl (by decide) _ _ _ rfl (World.ownsRow_nil _ _ _ _) ad l.length cc (l.map Value.string) rfl (by simp) hls2.out hone1.out (by unfold maxLen; omega) (by omega) (Nat.le_refl _) ?_)
  intro v' w1 hown hgrow hiff
  clear hiff
  obtain ⟨va, vc, hv⟩ := owns_slice hown
  have hgrow1 : w'.grownBy w1 none := hgrow
  have hO1 := hO.out.kept hgrow1 (by simp)
  obtain ⟨c0, c1, c2, c3, f0, f1, f2, f3⟩ := own4 hO1
  have hlt1 := hO1.lt
  have hH2 := Lib.hid (hH1.out.kept hgrow1 (by simp))
  have hG2 := Lib.hid (g_call hG1.out (grown_none hgrow1 _))
  rw [hv] at hown
  have hown1 := Lib.hid (show w1.ownsRow w'.heap.size 9 1 (.slice va l.length vc) l.length (l.map Value.string) by simpa using hown)
  clear hgrow hgrow1 hown
  rw [hv]
  clear hv
  go_wp2
  refine bodyPost_ret (v := .agg #[.int .i64 5, .int .i64 0, .string ⟨#[]⟩, .slice va l.length vc]) (by simp [results, Tryz.results22, go_sem, c0, c1, c2, c3]) rfl ?_
  have hlf := lfrom_owns hown1.out
  have hcap := cap_owns hown1.out
  have hwlt : w.heap.size < w'.heap.size := hO.out.lt
  refine ⟨⟨⟨⟨5, 0, [], lsL l⟩, ⟨#[]⟩, va, vc, l⟩, rfl, ⟨⟨rfl, ?_, rfl⟩, Nat.zero_le _, by show l.length ≤ 41; omega⟩, ?_, Nat.zero_le _, hl, hlf.le hsz', hcap⟩, ?_, ?_⟩
  · exact lin_owns (own_set4 hown1.out hwlt _ _ _ _)
  · exact hval.out
  · exact (((hH2.out.set (by simp; omega) _).set (by simp; omega) _).set (by simp; omega) _).set (by simp; omega) _
  · exact g_setCell (g_setCell (g_setCell (g_setCell hG2.out (by simp) _) (by simp) _) (by simp) _) (by simp) _

theorem dvalue2_all (K : Int) (hK : 1 ≤ K ∧ K ≤ 5) (b : Nat) (a : Option Addr) (n c : Nat) (w : World) (h : Codes b a n c w) (hg : DrawTabs (but b w)) (hl : ListTab (but b w)) :
    Calls Tryz.prog 22 #[.pointer (some ⟨b, 0, none⟩), .int .i64 K] w (Drawn b a n c w (DV2 w.heap.size)) := by
  rcases (show K = 1 ∨ K = 2 ∨ K = 3 ∨ K = 4 ∨ K = 5 by omega) with rfl | rfl | rfl | rfl | rfl
  · exact (dvalue_bool b a n c w h).mono fun e w' h => ⟨dv2_flat h.1, h.2⟩
  · exact (dvalue_number b a n c w h).mono fun e w' h => ⟨dv2_flat h.1, h.2⟩
  · exact (dvalue_text b a n c w h hg).mono fun e w' h => ⟨dv2_flat h.1, h.2⟩
  · exact (dvalue_version b a n c w h hg).mono fun e w' h => ⟨dv2_flat h.1, h.2⟩
  · exact dvalue2_list b a n c w h hl

set_option maxHeartbeats 1000000 in
theorem dany2_any (b : Nat) (a : Option Addr) (n c : Nat) (w : World) (h : Codes b a n c w) (hg : DrawTabs (but b w)) (hl : ListTab (but b w)) :
    Calls Tryz.prog 10 #[.pointer (some ⟨b, 0, none⟩)] w (Drawn b a n c w (DV2 w.heap.size)) := by
  have hC := Lib.hid h
  have hg0 := Lib.hid (hg.mono (sub_of_grown (World.grownBy_alloc w (.cells zero4 24) (some b))))
  have hl0 := Lib.hid (hl.mono (sub_of_grown (World.grownBy_alloc w (.cells zero4 24) (some b))))
  have hlt := h.lt
  clear h hg hl
  go_enter Tryz.func10, Tryz.ntmps10
  go_wp2_with fail
  refine (next_any b a n c _ 5 (by omega) (by omega) (hC.out.alloc (.cells zero4 24))).mono ?_
  rintro e w' ⟨⟨m, rfl, hm0, hm1⟩, hH, hG⟩
  have hC2 := Lib.hid ((hC.out.alloc (.cells zero4 24)).still hG hH)
  have hg2 := Lib.hid (hg0.out.mono (sub_of_grown hG))
  have hl2 := Lib.hid (hl0.out.mono (sub_of_grown hG))
  have hO := Lib.hid ((Own.new w zero4 24).kept hG (by simp; omega))
  have hG1 := Lib.hid (g_call (g_alloc (grown_refl w _) _) hG)
  clear hH hG
  obtain ⟨K, hK⟩ : ∃ K, 1 + m = K := ⟨_, rfl⟩
  have hK1 : 1 ≤ K ∧ K ≤ 5 := by omega
  replace hK1 := Lib.hid hK1
  go_wp2_with fail
  replace hK := Lib.hid hK
  refine (dvalue2_all K hK1.out b a n c _ hC2.out hg2.out hl2.out).mono ?_
  rintro e w2 ⟨⟨x, rfl, hx, hc, htz, hlz, hlf, hcap⟩, hH, hG⟩
  have hw' := hO.out.lt
  obtain ⟨c0, c1, c2, c3, f0, f1, f2, f3⟩ := own4 (hO.out.kept hG (by simp; omega))
  have hH1 := Lib.hid hH
  have hG2 := Lib.hid (g_call hG1.out hG)
  have hx1 := Lib.hid hx
  have hcap1 := Lib.hid hcap
  have hc1 := Lib.hid hc
  have hlf1 := Lib.hid (hlf.le (show w.heap.size + 1 ≤ w'.heap.size from hw'))
  clear hH hG hx hc hlf hcap
  unfold VX.val
  go_wp2
  refine bodyPost_ret (v := x.val) (by simp [results, Tryz.results10, go_sem, c0, c1, c2, c3, VX.val]) rfl ?_
  refine ⟨⟨x, rfl, DV.set4 hx1.out hlf1.out _ _ _ _, hc1.out, htz, hlz, hlf1.out.le (Nat.le_succ _), hcap1.out⟩, ?_, ?_⟩
  · exact (((hH1.out.set (by simp; omega) _).set (by simp; omega) _).set (by simp; omega) _).set (by simp; omega) _
  · exact g_setCell (g_setCell (g_setCell (g_setCell hG2.out (by simp) _) (by simp) _) (by simp) _) (by simp) _

end Go.Proofs.YtnghpjijfdpmkaaGreatDoor.value
