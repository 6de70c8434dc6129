/- SubjectChecks: the walk. -/
import Derived.Test.YtamkmdlfhlbbeaaGreatDoorKSuP
import Derived.Test.YtamkmdlfhlbbeaaGreatDoorKSuA
import Derived.Test.YtamkmdlfhlbbeaaGreatDoorKSuV
import Derived.Lib.QuietBelow
namespace Go.Proofs.YtamkmdlfhlbbeaaGreatDoor.subj
open Go.RowKit Go.Sort Go.Proofs.YtamkmdlfhlbbeaaGreatDoor Go.Proofs.YtamkmdlfhlbbeaaGreatDoor.schema Go.Proofs.YtamkmdlfhlbbeaaGreatDoor.value Go.Proofs.YtamkmdlfhlbbeaaGreatDoor.text Go.Proofs.YtamkmdlfhlbbeaaGreatDoor.clause Go.Proofs.YtamkmdlfhlbbeaaGreatDoor.draw

attribute [local go_sem ↓] Go.wp_at_zero Go.wp_at_succ

theorem decl_nm : ∀ d ∈ declD, d.name.size ≤ 1048576 := by decide +kernel
theorem okSub_each {l : List CT} (h : okSub l) : ∀ c ∈ l, (c.kind.size ≤ 1048576) ∧ okC c := by
  intro c hc
  have hm : ∀ K : List ByteArray, (∀ k ∈ K, k.size ≤ 1048576) → okL K l → (c.kind.size ≤ 1048576) ∧ okC c := fun K hK hl => ⟨hK _ (by rw [← hl.1]; exact List.mem_map_of_mem hc), hl.2 c hc⟩
  rcases h with h | h | h | h
  · exact hm _ (fun k hk => by cases hk) h
  · exact hm _ (fun k hk => by obtain rfl := List.mem_singleton.1 hk; decide) h
  · exact hm _ (fun k hk => by obtain rfl := List.mem_singleton.1 hk; decide) h
  · exact hm _ (fun k hk => by simp at hk; rcases hk with rfl | rfl <;> decide) h
theorem okSub_nm {l : List CT} (h : okSub l) : Nm l := fun c hc => by
  have h1 := okSub_each h c hc
  refine ⟨h1.1, fun a ha => ?_⟩
  obtain ⟨-, d, hd, -, h3, -⟩ := h1.2.2.2 a ha
  rw [← h3]
  exact decl_nm d hd
theorem okSub_few {l : List CT} (h : okSub l) : ∀ c ∈ l, c.attrs.length ≤ 8 := fun c hc => by
  have h1 := (okSub_each h c hc).2.2.1.length_le
  have h2 : (namesD c.kind 8).length ≤ 8 := by
    unfold namesD
    rw [List.length_map]
    exact Nat.le_trans (List.length_filter_le _ _) (by decide)
  simp at h1
  omega

set_option maxRecDepth 100000 in
set_option maxHeartbeats 16000000 in
theorem checks_walk (a : Option Addr) (n c : Nat) (sa : Option Addr) (sn sc : Nat) (ls : List CT) (w : World) (h : BytesAt w.cell? a n c) (hSs : SAt w.cell? (.slice sa sn sc) ls) (hNs : Nm ls) (hg : ∀ b, w.heap.size ≤ b → Glob (but b w)) (hT : STabs w) :
    Calls Tryz.prog 3 #[.agg #[.slice sa sn sc], .slice a n c] w fun e w' => e = .returned (.bool true) ∧ Below w.heap.size w w' := by
  have hB0 : Below w.heap.size w (w.alloc (.cells #[.slice sa sn sc] 24)) := (Below.refl _ _).alloc (Nat.le_refl _) _
  have hOs := Lib.hid (Own.new w #[.slice sa sn sc] 24)
  have hA := Lib.hid h
  have hg0 := Lib.hid hg
  have hT0 := Lib.hid hT
  replace hSs := Lib.hid hSs
  replace hNs := Lib.hid hNs
  replace hB0 := Lib.hid hB0
  clear h hg hT
  go_enter Tryz.func3, Tryz.ntmps3
  go_wp2_with fail
  generalize w.alloc (.cells #[.slice sa sn sc] 24) = w0 at hB0 hOs ⊢
  obtain ⟨gs, hgs⟩ : ∃ g : Nat, Hid (g = w.heap.size) := ⟨_, Lib.hid rfl⟩
  rw [← hgs.out] at hOs ⊢
  refine (sawake_any _ (hT0.out.below hB0.out)).mono ?_
  rintro e w1 ⟨rfl, hb1⟩
  have hB1 := Lib.hid (hB0.out.trans (hb1.mono hB0.out.size))
  have hOs1 := hOs.out.below hb1 hOs.out.lt
  have s0 := hOs1.cell 0
  simp only [List.getElem?_toArray, List.getElem?_cons_zero] at s0
  have hsl := hOs1.lt
  replace hOs1 := Lib.hid hOs1
  clear hb1 hB0 hOs
  go_wp2_with fail
  refine (small_any ls sa sn sc _ (hSs.out.mono (sub_of_below hB1.out))).mono ?_
  rintro e w2 ⟨rfl, hb2⟩
  have hB2 := Lib.hid (hB1.out.trans (hb2.mono hB1.out.size))
  have hOs2 := Lib.hid (hOs1.out.below hb2 hsl)
  clear hb2 hB1 hOs1 s0 hsl
  cases hsm : smallB ls
  case false =>
    clear hsm
    go_wp2
    go_ret
    exact ⟨rfl, hB2.out⟩
  clear hsm
  go_wp2_with fail
  refine (new_any a n c 80 _ (by omega) (by omega) (hA.out.mono (sub_of_below hB2.out))).mono ?_
  rintro e w3 ⟨rfl, ⟨a', n', c', hC⟩, hb3⟩
  have hsz : w.heap.size ≤ w2.heap.size := hB2.out.size
  have hlt := hC.lt
  have hge : gs < w2.heap.size := hOs2.out.lt
  have hB3 := Lib.hid (hB2.out.trans (hb3.mono hsz))
  have hOs3 := Lib.hid (hOs2.out.below hb3 hOs2.out.lt)
  have hC3 := Lib.hid hC
  have hg3 := Lib.hid ((hg0.out w2.heap.size hsz).mono (sub_of_grown (grown_of_below ((hB2.out.trans (hb3.mono hsz)).mono (Nat.le_refl _)) _)))
  clear hC hb3 hB2 hOs2
  go_wp2_with fail
  refine (subject_any w2.heap.size a' n' c' _ hC3.out hg3.out).mono ?_
  rintro e w4 ⟨⟨va, vn, vc, l, rfl, hok, hS4⟩, hH4, hG4⟩
  have hG5 : w3.grownBy (w4.alloc (.cells #[.slice va vn vc] 24)) (some w2.heap.size) := g_alloc hG4 _
  have hC5 := Lib.hid (hC3.out.still hG5 (hH4.alloc _))
  have hg5 := Lib.hid (hg3.out.mono (sub_of_grown hG5))
  have hB5 := Lib.hid (hB3.out.trans (below_of_grown hG5 hB3.out.size hsz))
  have hOx5 := Lib.hid (Own.new w4 #[.slice va vn vc] 24)
  have hOs5 := Lib.hid (hOs3.out.kept hG5 (by simp; omega))
  have hS5 := Lib.hid ((hS4.mono (newM_grown (g_alloc (grown_refl w4 (some w2.heap.size)) (.cells #[.slice va vn vc] 24)))).mono (newM_but _ _ _))
  have hx4 : w2.heap.size < w4.heap.size := hH4.lt
  replace hok := Lib.hid hok
  clear hG5 hG4 hH4 hS4 hC3 hg3 hB3 hOs3
  have x0 := hOx5.out.cell 0
  simp only [List.getElem?_toArray, List.getElem?_cons_zero] at x0
  go_wp2_with fail
  generalize w4.alloc (.cells #[.slice va vn vc] 24) = w5 at hC5 hg5 hB5 hOx5 hOs5 hS5 x0 ⊢
  obtain ⟨gx, hgx⟩ : ∃ g : Nat, g = w4.heap.size := ⟨_, rfl⟩
  rw [← hgx] at hOx5 hx4 x0 ⊢
  clear hgx x0
  refine (spoil_any w2.heap.size a' n' c' va vn vc l _ hC5.out hg5.out hS5.out hok.out.len (okSub_nm hok.out) (okSub_few hok.out)).mono ?_
  rintro e w6 ⟨⟨ua, un, uc, lu, rfl, ⟨-, hNu, -⟩, hS6⟩, hH6, hG6⟩
  have hG7 : w5.grownBy (w6.alloc (.cells #[.slice ua un uc] 24)) (some w2.heap.size) := g_alloc hG6 _
  have hB7 := Lib.hid (hB5.out.trans (below_of_grown hG7 hB5.out.size hsz))
  have hOx7 := hOx5.out.kept hG7 (by simp; omega)
  have hOs7 := hOs5.out.kept hG7 (by simp; omega)
  have hOu7 := Own.new w6 #[.slice ua un uc] 24
  have hSt := Lib.hid ((hS5.out.mono (sub_of_grown hG7)).mono (but_sub _ _))
  have hSu := Lib.hid ((hS6.mono (but_sub _ _)).mono (sub_of_below ((Below.refl w6.heap.size w6).alloc (Nat.le_refl _) (.cells #[.slice ua un uc] 24))))
  have hSr := Lib.hid (hSs.out.mono (sub_of_below hB7.out))
  have hT7 := Lib.hid (hT0.out.below hB7.out)
  have x0 := hOx7.cell 0
  have y0 := hOs7.cell 0
  have u0 := hOu7.cell 0
  simp only [List.getElem?_toArray, List.getElem?_cons_zero] at x0 y0 u0
  have hxl := hOx7.lt
  have hyl := hOs7.lt
  have hul := hOu7.lt
  replace hNu := Lib.hid hNu
  clear hG7 hG6 hH6 hS6 hC5 hg5 hB5 hOx5 hOs5 hS5 hOx7 hOs7 hOu7
  go_wp2_with fail
  generalize w6.alloc (.cells #[.slice ua un uc] 24) = w7 at hB7 hSt hSu hSr hT7 x0 y0 u0 hxl hyl hul ⊢
  obtain ⟨gu, hgu⟩ : ∃ g : Nat, g = w6.heap.size := ⟨_, rfl⟩
  rw [← hgu] at u0 hul ⊢
  clear hgu
  have cT := Lib.hid (fun (dq : Nat) (os : Array Obj) => Calls.regrown_of (scheck_any l va vn vc (Sort.grow (redrawn w7 dq) os) (hSt.out.mono (sub_of_below (below_regrown w7 dq os))) (hT7.out.below (below_regrown w7 dq os))))
  have cS := Lib.hid (fun (dq : Nat) (os : Array Obj) => Calls.regrown_of (scheck_any ls sa sn sc (Sort.grow (redrawn w7 dq) os) (hSr.out.mono (sub_of_below (below_regrown w7 dq os))) (hT7.out.below (below_regrown w7 dq os))))
  have cR := Lib.hid (fun (dq : Nat) (os : Array Obj) => Calls.regrown_of (scheck_ref ls sa sn sc (Sort.grow (redrawn w7 dq) os) (hSr.out.mono (sub_of_below (below_regrown w7 dq os))) hNs.out (hT7.out.below (below_regrown w7 dq os))))
  have cU := Lib.hid (fun (dq : Nat) (os : Array Obj) => Calls.regrown_of (scheck_any lu ua un uc (Sort.grow (redrawn w7 dq) os) (hSu.out.mono (sub_of_below (below_regrown w7 dq os))) (hT7.out.below (below_regrown w7 dq os))))
  have cV := Lib.hid (fun (dq : Nat) (os : Array Obj) => Calls.regrown_of (scheck_ref lu ua un uc (Sort.grow (redrawn w7 dq) os) (hSu.out.mono (sub_of_below (below_regrown w7 dq os))) hNu.out (hT7.out.below (below_regrown w7 dq os))))
  rw [sub_ok hok.out] at cT
  generalize subS ls = ds at cS cR
  generalize subS lu = du at cU cV
  have k0 := cell_regrown x0
  have k1 := cell_regrown y0
  have k2 := cell_regrown u0
  clear x0 y0 u0 hSt hSu hSr hT7
  go_wp2_with fail
  refine wp_region_quiet_below (by kernel_rfl) (by kernel_rfl) ?_
  repeat (go_big_quiet_step (first | (with_reducible exact cT.out _ _) | (with_reducible exact cS.out _ _) | (with_reducible exact cR.out _ _) | (with_reducible exact cU.out _ _) | (with_reducible exact cV.out _ _)))
  refine wpQuiet_nil ?_
  intro _ hw'
  obtain ⟨⟨dq, osq⟩, hw''⟩ := hw'
  subst hw''
  have hBz := Lib.hid (hB7.out.trans ((below_regrown w7 dq osq).mono hB7.out.size))
  clear cT cS cR cU cV k0 k1 k2
  go_wp2
  go_ret
  exact ⟨by simp, hBz.out⟩

end Go.Proofs.YtamkmdlfhlbbeaaGreatDoor.subj

