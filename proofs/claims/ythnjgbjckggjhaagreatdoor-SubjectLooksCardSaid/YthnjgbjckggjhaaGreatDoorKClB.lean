/- Drawn subjects. -/
import Derived.Test.YthnjgbjckggjhaaGreatDoorKClD
import Derived.Deep.CutBlock
import Derived.Deep.DeepCutAuto
namespace Go.Proofs.YthnjgbjckggjhaaGreatDoor.clause
open Go.RowKit Go.Proofs.YthnjgbjckggjhaaGreatDoor Go.Proofs.YthnjgbjckggjhaaGreatDoor.schema Go.Proofs.YthnjgbjckggjhaaGreatDoor.value Go.Proofs.YthnjgbjckggjhaaGreatDoor.text Go.Proofs.YthnjgbjckggjhaaGreatDoor.draw

attribute [local go_sem ↓] Go.wp_at_zero Go.wp_at_succ

theorem infoC : (Tryz.prog.info? 37).map (fun i => (i.zero, i.size, i.bytes)) = some (some (.agg #[.string ⟨#[]⟩, .string ⟨#[]⟩, .slice none 0 0]), 3, 56) := by kernel_rfl
/-- What is known while a subject is made. -/
structure SI (w u : World) (b : Nat) (a : Option Addr) (n c r e : Nat) (v : Value) : Prop where
  head : Head b a n c u
  grown : w.grownBy u (some b)
  ownR : Own u r #[.slice none 0 0] 24
  ownE : Own u e #[v] 24
  br : b < w.heap.size
  rw : w.heap.size ≤ r
  re : r < e
theorem SI.call {w u x : World} {b : Nat} {a : Option Addr} {n c r e : Nat} {v : Value} (h : SI w u b a n c r e v) (hG : u.grownBy x (some b)) (hH : Head b a n c x) : SI w x b a n c r e v := by
  obtain ⟨h1, h2, h3, h5, h6, h7, h9⟩ := h
  exact ⟨hH, g_call h2 hG, h3.kept hG (by simp; omega), h5.kept hG (by simp; omega), h6, h7, h9⟩
theorem SI.drew {w u : World} {b : Nat} {a : Option Addr} {n c r e : Nat} {v : Value} (h : SI w u b a n c r e v) : SI w u.drew b a n c r e v := by
  obtain ⟨h1, h2, h3, h5, h6, h7, h9⟩ := h
  exact ⟨h1, g_drew h2, h3, h5, h6, h7, h9⟩
theorem SI.codes {w u : World} {b : Nat} {a : Option Addr} {n c r e : Nat} {v : Value} (h : SI w u b a n c r e v) (hC : Codes b a n c w) : Codes b a n c u := hC.still h.grown h.head
theorem SI.glob {w u : World} {b : Nat} {a : Option Addr} {n c r e : Nat} {v : Value} (h : SI w u b a n c r e v) (hg : Glob (but b w)) : Glob (but b u) := hg.mono (sub_of_grown h.grown)
theorem SI.setV {w u : World} {b : Nat} {a : Option Addr} {n c r e : Nat} {v : Value} (h : SI w u b a n c r e v) (v' : Value) : SI w (u.setCell ⟨e, 0, none⟩ v') b a n c r e v' := by
  obtain ⟨h1, h2, h3, h5, h6, h7, h9⟩ := h
  exact ⟨h1.set (by simp; omega) _, g_setCell h2 (by simp; omega) _, h3.setOther (by simp; omega) _, h5.set 0 _, h6, h7, h9⟩
theorem SI.alloc {w u : World} {b : Nat} {a : Option Addr} {n c r e : Nat} {v : Value} (h : SI w u b a n c r e v) (o : Obj) : SI w (u.alloc o) b a n c r e v :=
  h.call (World.grownBy_alloc u o _) (h.head.alloc o)
theorem SI.app {w u x : World} {b : Nat} {a : Option Addr} {n c r e : Nat} {v v2 : Value} {ty : TypeId} {sz m : Nat} {xs : List Value} (h : SI w u b a n c r e v)
    (ho : u.ownsRow (e + 1) ty sz v2 m xs) (hg : u.grownBy x v2.ownBlock) : SI w x b a n c r e v := by
  obtain ⟨h1, h2, h3, h5, h6, h7, h9⟩ := h
  exact ⟨h1.kept hg (row_far ho (by omega)), g_own h2 hg (fun i e => by have := (ho.lt i e).1; omega), own_past ho h3 hg (by omega), own_past ho h5 hg (by omega), h6, h7, h9⟩

/-- So far so many contexts. -/
def RelB (w wr : World) (b : Nat) (a : Option Addr) (n c r e : Nat) (K : List ByteArray) : Prop :=
  ∃ va vc, ∃ l : List CT, okL K l ∧ (∀ u ∈ l, CAt (newG (e + 1) b (Value.slice va l.length vc).ownBlock wr) u) ∧ SI w wr b a n c r e (.slice va l.length vc) ∧ wr.ownsRow (e + 1) 37 3 (.slice va l.length vc) l.length (l.map CT.row).flatten
theorem cts_more {B b : Nat} {g : Option Nat} {w4 w5 : World} {l : List CT} {ct : CT} (h : ∀ v ∈ l, CAt (newG B b g w4) v) (hg : ∀ j, g = some j → j < w4.heap.size) (hB : B ≤ w4.heap.size) (hG : w4.drew.grownBy w5 (some b)) (hd : CAt (newM w4.drew.heap.size b w5) ct) : ∀ v ∈ l ++ [ct], CAt (newG B b g w5) v := by
  intro v hv
  rcases List.mem_append.1 hv with hv | hv
  · exact (h v hv).mono (newG_grown (w := w4.drew) hG)
  · obtain rfl := List.mem_singleton.1 hv
    exact hd.mono (newM_newG hB hg w5)
theorem relB_next {w w5 w6 : World} {b : Nat} {a : Option Addr} {n c r e k : Nat} {K : List ByteArray} {kd : ByteArray} {v : Value} {l : List CT} {ct : CT} {o : Obj} {gg cap : Nat} (hl : l.length = k) (hi : okL K l) (hOk : ct.kind = kd ∧ okC ct)
    (hLs : ∀ u ∈ l ++ [ct], CAt (newG (e + 1) b v.ownBlock w5) u) (hat : v.ownBlock = some gg ∨ gg = w5.heap.size + 1)
    (hI : SI w w5 b a n c r e v) (hown : w5.ownsRow (e + 1) 37 3 v k (l.map CT.row).flatten) (hg : (w5.alloc o).grownBy w6 v.ownBlock)
    (hown6 : w6.ownsRow (e + 1) 37 3 (.slice (some ⟨gg, 0, none⟩) (k + 1) cap) (k + 1) ((l.map CT.row).flatten ++ ct.row)) :
    RelB w (w6.setCell ⟨e, 0, none⟩ (.slice (some ⟨gg, 0, none⟩) (k + 1) cap)) b a n c r e (K ++ [kd]) := by
  subst hl
  have mX : Sub (newG (e + 1) b v.ownBlock w5) (newG (e + 1) b (some gg) (w6.setCell ⟨e, 0, none⟩ (.slice (some ⟨gg, 0, none⟩) (l.length + 1) cap))) :=
    ((newG_grown (World.grownBy_alloc w5 o _)).trans (newG_app hg (hat.imp id (fun e => by rw [e]; simp)))).trans (newG_set (by simp) _)
  have e0 : (l ++ [ct]).length = l.length + 1 := by simp
  refine ⟨some ⟨gg, 0, none⟩, cap, l ++ [ct], okL_more hi hOk.1 hOk.2, fun u hu => (hLs u hu).mono mX, by rw [e0]; exact ((hI.alloc o).app (hown.alloc o) hg).setV _, ?_⟩
  have e1 : ((l ++ [ct]).map CT.row).flatten = (l.map CT.row).flatten ++ ct.row := by simp
  rw [e1, e0]
  exact ownsRow_setCell_below hown6 (by simp) _
theorem ct_one (ct : CT) : ∀ u ∈ ct.row, u.oneCell' = true := by simp [CT.row, Value.oneCell']

/-- The row of contexts is a block of its own, and what they refer to lies elsewhere. -/
def OwnSub (B b : Nat) (w' : World) (v : Value) (l : List CT) : Prop := ∃ B', B ≤ B' ∧ b < B' ∧ w'.ownsRow B' 37 3 v l.length (l.map CT.row).flatten ∧ ∀ u ∈ l, CAt (newG B' b v.ownBlock w') u
/-- What a drawn subject is. -/
def SubIs (B b : Nat) (e : Ending) (w' : World) : Prop := ∃ va vn vc l, e = .returned (.agg #[.slice va vn vc]) ∧ (okSub l ∧ OwnSub B b w' (.slice va vn vc) l) ∧ SAt (newM B b w') (.slice va vn vc) l

set_option maxRecDepth 100000 in
set_option maxHeartbeats 8000000 in
theorem subject_any (b : Nat) (a : Option Addr) (n c : Nat) (w : World) (h : Codes b a n c w) (hg : Glob (but b w)) :
    Calls Tryz.prog 8 #[.pointer (some ⟨b, 0, none⟩)] w (Drawn b a n c w fun e w' => SubIs w.heap.size b e w') := by
  have hC := Lib.hid h
  have hg0 := Lib.hid hg
  have hlt := h.lt
  clear h hg
  obtain ⟨i0, hi, hz0, hz1, hz2⟩ := info_parts infoC
  have hR := (Own.new w #[.slice none 0 0] 24).alloc (.cells #[.slice none 0 0] 24)
  have hE := Own.new (w.alloc (.cells #[.slice none 0 0] 24)) #[.slice none 0 0] 24
  rw [World.size_alloc] at hE
  have hI := Lib.hid (show SI w ((w.alloc (.cells #[.slice none 0 0] 24)).alloc (.cells #[.slice none 0 0] 24)) b a n c w.heap.size (w.heap.size + 1) (.slice none 0 0) from
    ⟨(hC.out.1.alloc _).alloc _, g_alloc (g_alloc (grown_refl _ _) _) _, hR, hE, hlt, Nat.le_refl _, by omega⟩)
  clear hR hE
  go_enter Tryz.func8, Tryz.ntmps8
  go_wp2_with fail
  refine (next_any b a n c _ 6 (by omega) (by omega) (hI.out.codes hC.out)).mono ?_
  rintro e w3 ⟨⟨m, rfl, hm0, hm1⟩, hH, hG⟩
  have hI3 := hI.out.call hG hH
  have hS := Lib.hid (show RelB w w3 b a n c w.heap.size (w.heap.size + 1) [] from ⟨none, 0, [], okL_nil, (fun u hu => by cases hu), hI3, World.ownsRow_nil _ _ _ _⟩)
  clear hH hG hI hI3
  rcases (show m = 0 ∨ m = 1 ∨ m = 2 ∨ m = 3 ∨ m = 4 ∨ m = 5 by omega) with rfl | rfl | rfl | rfl | rfl | rfl
  · skip
    go_upto_region 6 with fail
    go_cut [] (fun wy => Hid (RelB w wy b a n c w.heap.size (w.heap.size + 1) [sUser]))
    case first =>
      obtain ⟨va, vc, l, hll, hLs, hSI, hown⟩ := hS.out
      have hlen : l.length ≤ 2 := Nat.le_trans (Nat.le_of_eq hll.len) (by decide)
      replace hll := Lib.hid hll
      have hb' := hSI.br
      have hr' := hSI.rw
      have he' := hSI.re
      have e0 := hSI.ownE.cell 0
      have f0 := hSI.ownE.free 0
      have hel : w.heap.size + 1 < w3.heap.size := hSI.ownE.lt
      simp only [List.getElem?_toArray, List.getElem?_cons_zero] at e0
      have hlt4 := Lib.hid (fun j hj => (hown.lt j hj).2)
      replace hSI := Lib.hid hSI
      replace hown := Lib.hid hown
      replace hLs := Lib.hid hLs
      go_region_law
        ((first
          | (refine step_append_lies _ (by rfl) _ _ _ (by rfl) (w.heap.size + 1 + 1) 37 i0 _ 3 56 Tryz.underlying22 hi hz0 hz1 hz2 rfl (by omega) (.slice va l.length vc) l.length _ (by rfl) (hown5.out.alloc _) ⟨w5.heap.size, 0, none⟩ 1 1 [.string ck, .string cy, .slice cp cl cc] (by rfl) (by rfl) (World.news_of_block (cs := #[.string ck, .string cy, .slice cp cl cc]) (t := 37) (fr := (0, 0)) (heap_alloc_new w5 _)) (ct_one ⟨ck, cy, cp, cl, cc, ca⟩) (by omega) (by unfold maxLen; omega) (by omega) (by simp; omega) (w5.heap.size + 1) (by simp) ?_; intro gg cap w6 hown6 hgrow6 hat hlt6; have hE6 := own_past (hown5.out.alloc _) (hI5.out.ownE.alloc _) hgrow6 (show w.heap.size + 1 < w.heap.size + 1 + 1 by omega); have y2 := hE6.cell 0; have z2 := hE6.free 0; simp only [List.getElem?_toArray, List.getElem?_cons_zero] at y2)
          | (go_simp; go_at_call 22; refine (context_any b a n c ⟨#[117, 115, 101, 114]⟩ _ (hSI.out.drew.codes hC.out) (hSI.out.drew.glob hg0.out)).mono ?_; rintro e w5 ⟨⟨⟨ck, cy, cp, cl, cc, ca⟩, rfl, hOk, hLd⟩, hH5, hG6⟩; replace hOk := Lib.hid hOk; have hLs5 := Lib.hid (cts_more hLs.out hlt4.out (show w.heap.size + 1 + 1 ≤ w3.heap.size by omega) hG6 hLd); have hI5 := Lib.hid (hSI.out.drew.call hG6 hH5); have hl5 : w.heap.size + 1 < w5.heap.size := hI5.out.ownE.lt; have x2 := hI5.out.ownE.cell 0; simp only [List.getElem?_toArray, List.getElem?_cons_zero] at x2; have hown5 := Lib.hid (owns_kept (owns_drew hown.out) hG6 (by omega)); clear hH5 hG6 hLd)))
      all_goals
        have hN := Lib.hid (relB_next (K := []) (kd := sUser) (ct := ⟨ck, cy, cp, cl, cc, ca⟩) rfl hll.out hOk.out hLs5.out hat hI5.out hown5.out hgrow6 hown6)
        clear hgrow6 hown6 hat
        go_wp2_with fail
        go_meet
        exact hN
    case rest =>
    clear hS
    have hS := hcut
    clear hcut
    obtain ⟨va, vc, l, hll, hLs, hSI, hown⟩ := hS.out
    have hlen : l.length ≤ 2 := Nat.le_trans (Nat.le_of_eq hll.len) (by decide)
    replace hll := Lib.hid hll
    have hb' := hSI.br
    have hr' := hSI.rw
    have he' := hSI.re
    have e0 := hSI.ownE.cell 0
    have z0 := hSI.ownR.cell 0
    have g0 := hSI.ownR.free 0
    have hel : w.heap.size + 1 < wc.heap.size := hSI.ownE.lt
    have hrl : w.heap.size < wc.heap.size := hSI.ownR.lt
    simp only [List.getElem?_toArray, List.getElem?_cons_zero] at e0 z0
    replace hSI := Lib.hid hSI
    replace hown := Lib.hid hown
    replace hLs := Lib.hid hLs
    go_wp2
    refine bodyPost_ret (v := .agg #[.slice va l.length vc]) (by simp [results, Tryz.results8, go_sem, z0]) rfl ?_
    refine ⟨⟨va, l.length, vc, l, rfl, ⟨by first | exact Or.inl hll.out | exact Or.inr (Or.inl hll.out) | exact Or.inr (Or.inr (Or.inl hll.out)) | exact Or.inr (Or.inr (Or.inr hll.out)), w.heap.size + 1 + 1, by omega, by omega, ownsRow_setCell_below hown.out (by simp; omega) _, fun u hu => (hLs.out u hu).mono (newG_set (by simp; omega) _)⟩, ⟨?_, fun u hu => ?_⟩⟩, ?_, ?_⟩
    · refine RowsAt.mono ?_ (rows_of_owns_new (B := w.heap.size + 1 + 1) (b := b) hown.out (Nat.le_refl _) (by omega) (l.map CT.row) (by simp) (by intro r hr; obtain ⟨d, -, rfl⟩ := List.mem_map.1 hr; rfl) rfl)
      exact Sub.trans (newM_set (B := w.heap.size + 1 + 1) (by simp; omega) _) (newM_mono (by omega) b _)
    · exact ((hLs.out u hu).mono (newG_none _ _ _ _)).mono (Sub.trans (newM_set (B := w.heap.size + 1 + 1) (by simp; omega) _) (newM_mono (by omega) b _))
    · exact hSI.out.head.set (by simp; omega) _
    · exact g_setCell hSI.out.grown (by simp) _
  · skip
    go_upto_region 4 with fail
    go_cut [] (fun wy => Hid (RelB w wy b a n c w.heap.size (w.heap.size + 1) [sDevice]))
    case first =>
      obtain ⟨va, vc, l, hll, hLs, hSI, hown⟩ := hS.out
      have hlen : l.length ≤ 2 := Nat.le_trans (Nat.le_of_eq hll.len) (by decide)
      replace hll := Lib.hid hll
      have hb' := hSI.br
      have hr' := hSI.rw
      have he' := hSI.re
      have e0 := hSI.ownE.cell 0
      have f0 := hSI.ownE.free 0
      have hel : w.heap.size + 1 < w3.heap.size := hSI.ownE.lt
      simp only [List.getElem?_toArray, List.getElem?_cons_zero] at e0
      have hlt4 := Lib.hid (fun j hj => (hown.lt j hj).2)
      replace hSI := Lib.hid hSI
      replace hown := Lib.hid hown
      replace hLs := Lib.hid hLs
      go_region_law
        ((first
          | (refine step_append_lies _ (by rfl) _ _ _ (by rfl) (w.heap.size + 1 + 1) 37 i0 _ 3 56 Tryz.underlying22 hi hz0 hz1 hz2 rfl (by omega) (.slice va l.length vc) l.length _ (by rfl) (hown5.out.alloc _) ⟨w5.heap.size, 0, none⟩ 1 1 [.string ck, .string cy, .slice cp cl cc] (by rfl) (by rfl) (World.news_of_block (cs := #[.string ck, .string cy, .slice cp cl cc]) (t := 37) (fr := (0, 0)) (heap_alloc_new w5 _)) (ct_one ⟨ck, cy, cp, cl, cc, ca⟩) (by omega) (by unfold maxLen; omega) (by omega) (by simp; omega) (w5.heap.size + 1) (by simp) ?_; intro gg cap w6 hown6 hgrow6 hat hlt6; have hE6 := own_past (hown5.out.alloc _) (hI5.out.ownE.alloc _) hgrow6 (show w.heap.size + 1 < w.heap.size + 1 + 1 by omega); have y2 := hE6.cell 0; have z2 := hE6.free 0; simp only [List.getElem?_toArray, List.getElem?_cons_zero] at y2)
          | (go_simp; go_at_call 22; refine (context_any b a n c ⟨#[100, 101, 118, 105, 99, 101]⟩ _ (hSI.out.drew.codes hC.out) (hSI.out.drew.glob hg0.out)).mono ?_; rintro e w5 ⟨⟨⟨ck, cy, cp, cl, cc, ca⟩, rfl, hOk, hLd⟩, hH5, hG6⟩; replace hOk := Lib.hid hOk; have hLs5 := Lib.hid (cts_more hLs.out hlt4.out (show w.heap.size + 1 + 1 ≤ w3.heap.size by omega) hG6 hLd); have hI5 := Lib.hid (hSI.out.drew.call hG6 hH5); have hl5 : w.heap.size + 1 < w5.heap.size := hI5.out.ownE.lt; have x2 := hI5.out.ownE.cell 0; simp only [List.getElem?_toArray, List.getElem?_cons_zero] at x2; have hown5 := Lib.hid (owns_kept (owns_drew hown.out) hG6 (by omega)); clear hH5 hG6 hLd)))
      all_goals
        have hN := Lib.hid (relB_next (K := []) (kd := sDevice) (ct := ⟨ck, cy, cp, cl, cc, ca⟩) rfl hll.out hOk.out hLs5.out hat hI5.out hown5.out hgrow6 hown6)
        clear hgrow6 hown6 hat
        go_wp2_with fail
        go_meet
        exact hN
    case rest =>
    clear hS
    have hS := hcut
    clear hcut
    obtain ⟨va, vc, l, hll, hLs, hSI, hown⟩ := hS.out
    have hlen : l.length ≤ 2 := Nat.le_trans (Nat.le_of_eq hll.len) (by decide)
    replace hll := Lib.hid hll
    have hb' := hSI.br
    have hr' := hSI.rw
    have he' := hSI.re
    have e0 := hSI.ownE.cell 0
    have z0 := hSI.ownR.cell 0
    have g0 := hSI.ownR.free 0
    have hel : w.heap.size + 1 < wc.heap.size := hSI.ownE.lt
    have hrl : w.heap.size < wc.heap.size := hSI.ownR.lt
    simp only [List.getElem?_toArray, List.getElem?_cons_zero] at e0 z0
    replace hSI := Lib.hid hSI
    replace hown := Lib.hid hown
    replace hLs := Lib.hid hLs
    go_wp2
    refine bodyPost_ret (v := .agg #[.slice va l.length vc]) (by simp [results, Tryz.results8, go_sem, z0]) rfl ?_
    refine ⟨⟨va, l.length, vc, l, rfl, ⟨by first | exact Or.inl hll.out | exact Or.inr (Or.inl hll.out) | exact Or.inr (Or.inr (Or.inl hll.out)) | exact Or.inr (Or.inr (Or.inr hll.out)), w.heap.size + 1 + 1, by omega, by omega, ownsRow_setCell_below hown.out (by simp; omega) _, fun u hu => (hLs.out u hu).mono (newG_set (by simp; omega) _)⟩, ⟨?_, fun u hu => ?_⟩⟩, ?_, ?_⟩
    · refine RowsAt.mono ?_ (rows_of_owns_new (B := w.heap.size + 1 + 1) (b := b) hown.out (Nat.le_refl _) (by omega) (l.map CT.row) (by simp) (by intro r hr; obtain ⟨d, -, rfl⟩ := List.mem_map.1 hr; rfl) rfl)
      exact Sub.trans (newM_set (B := w.heap.size + 1 + 1) (by simp; omega) _) (newM_mono (by omega) b _)
    · exact ((hLs.out u hu).mono (newG_none _ _ _ _)).mono (Sub.trans (newM_set (B := w.heap.size + 1 + 1) (by simp; omega) _) (newM_mono (by omega) b _))
    · exact hSI.out.head.set (by simp; omega) _
    · exact g_setCell hSI.out.grown (by simp) _
  · skip
    go_upto_region 4 with fail
    go_cut [] (fun wy => Hid (RelB w wy b a n c w.heap.size (w.heap.size + 1) [sDevice]))
    case first =>
      obtain ⟨va, vc, l, hll, hLs, hSI, hown⟩ := hS.out
      have hlen : l.length ≤ 2 := Nat.le_trans (Nat.le_of_eq hll.len) (by decide)
      replace hll := Lib.hid hll
      have hb' := hSI.br
      have hr' := hSI.rw
      have he' := hSI.re
      have e0 := hSI.ownE.cell 0
      have f0 := hSI.ownE.free 0
      have hel : w.heap.size + 1 < w3.heap.size := hSI.ownE.lt
      simp only [List.getElem?_toArray, List.getElem?_cons_zero] at e0
      have hlt4 := Lib.hid (fun j hj => (hown.lt j hj).2)
      replace hSI := Lib.hid hSI
      replace hown := Lib.hid hown
      replace hLs := Lib.hid hLs
      go_region_law
        ((first
          | (refine step_append_lies _ (by rfl) _ _ _ (by rfl) (w.heap.size + 1 + 1) 37 i0 _ 3 56 Tryz.underlying22 hi hz0 hz1 hz2 rfl (by omega) (.slice va l.length vc) l.length _ (by rfl) (hown5.out.alloc _) ⟨w5.heap.size, 0, none⟩ 1 1 [.string ck, .string cy, .slice cp cl cc] (by rfl) (by rfl) (World.news_of_block (cs := #[.string ck, .string cy, .slice cp cl cc]) (t := 37) (fr := (0, 0)) (heap_alloc_new w5 _)) (ct_one ⟨ck, cy, cp, cl, cc, ca⟩) (by omega) (by unfold maxLen; omega) (by omega) (by simp; omega) (w5.heap.size + 1) (by simp) ?_; intro gg cap w6 hown6 hgrow6 hat hlt6; have hE6 := own_past (hown5.out.alloc _) (hI5.out.ownE.alloc _) hgrow6 (show w.heap.size + 1 < w.heap.size + 1 + 1 by omega); have y2 := hE6.cell 0; have z2 := hE6.free 0; simp only [List.getElem?_toArray, List.getElem?_cons_zero] at y2)
          | (go_simp; go_at_call 22; refine (context_any b a n c ⟨#[100, 101, 118, 105, 99, 101]⟩ _ (hSI.out.drew.codes hC.out) (hSI.out.drew.glob hg0.out)).mono ?_; rintro e w5 ⟨⟨⟨ck, cy, cp, cl, cc, ca⟩, rfl, hOk, hLd⟩, hH5, hG6⟩; replace hOk := Lib.hid hOk; have hLs5 := Lib.hid (cts_more hLs.out hlt4.out (show w.heap.size + 1 + 1 ≤ w3.heap.size by omega) hG6 hLd); have hI5 := Lib.hid (hSI.out.drew.call hG6 hH5); have hl5 : w.heap.size + 1 < w5.heap.size := hI5.out.ownE.lt; have x2 := hI5.out.ownE.cell 0; simp only [List.getElem?_toArray, List.getElem?_cons_zero] at x2; have hown5 := Lib.hid (owns_kept (owns_drew hown.out) hG6 (by omega)); clear hH5 hG6 hLd)))
      all_goals
        have hN := Lib.hid (relB_next (K := []) (kd := sDevice) (ct := ⟨ck, cy, cp, cl, cc, ca⟩) rfl hll.out hOk.out hLs5.out hat hI5.out hown5.out hgrow6 hown6)
        clear hgrow6 hown6 hat
        go_wp2_with fail
        go_meet
        exact hN
    case rest =>
    clear hS
    have hS := hcut
    clear hcut
    go_upto_region 6 with fail
    go_cut [] (fun wy => Hid (RelB w wy b a n c w.heap.size (w.heap.size + 1) [sDevice, sUser]))
    case first =>
      obtain ⟨va, vc, l, hll, hLs, hSI, hown⟩ := hS.out
      have hlen : l.length ≤ 2 := Nat.le_trans (Nat.le_of_eq hll.len) (by decide)
      replace hll := Lib.hid hll
      have hb' := hSI.br
      have hr' := hSI.rw
      have he' := hSI.re
      have e0 := hSI.ownE.cell 0
      have f0 := hSI.ownE.free 0
      have hel : w.heap.size + 1 < wc.heap.size := hSI.ownE.lt
      simp only [List.getElem?_toArray, List.getElem?_cons_zero] at e0
      have hlt4 := Lib.hid (fun j hj => (hown.lt j hj).2)
      replace hSI := Lib.hid hSI
      replace hown := Lib.hid hown
      replace hLs := Lib.hid hLs
      go_region_law
        ((first
          | (refine step_append_lies _ (by rfl) _ _ _ (by rfl) (w.heap.size + 1 + 1) 37 i0 _ 3 56 Tryz.underlying22 hi hz0 hz1 hz2 rfl (by omega) (.slice va l.length vc) l.length _ (by rfl) (hown5.out.alloc _) ⟨w5.heap.size, 0, none⟩ 1 1 [.string ck, .string cy, .slice cp cl cc] (by rfl) (by rfl) (World.news_of_block (cs := #[.string ck, .string cy, .slice cp cl cc]) (t := 37) (fr := (0, 0)) (heap_alloc_new w5 _)) (ct_one ⟨ck, cy, cp, cl, cc, ca⟩) (by omega) (by unfold maxLen; omega) (by omega) (by simp; omega) (w5.heap.size + 1) (by simp) ?_; intro gg cap w6 hown6 hgrow6 hat hlt6; have hE6 := own_past (hown5.out.alloc _) (hI5.out.ownE.alloc _) hgrow6 (show w.heap.size + 1 < w.heap.size + 1 + 1 by omega); have y2 := hE6.cell 0; have z2 := hE6.free 0; simp only [List.getElem?_toArray, List.getElem?_cons_zero] at y2)
          | (go_simp; go_at_call 22; refine (context_any b a n c ⟨#[117, 115, 101, 114]⟩ _ (hSI.out.drew.codes hC.out) (hSI.out.drew.glob hg0.out)).mono ?_; rintro e w5 ⟨⟨⟨ck, cy, cp, cl, cc, ca⟩, rfl, hOk, hLd⟩, hH5, hG6⟩; replace hOk := Lib.hid hOk; have hLs5 := Lib.hid (cts_more hLs.out hlt4.out (show w.heap.size + 1 + 1 ≤ wc.heap.size by omega) hG6 hLd); have hI5 := Lib.hid (hSI.out.drew.call hG6 hH5); have hl5 : w.heap.size + 1 < w5.heap.size := hI5.out.ownE.lt; have x2 := hI5.out.ownE.cell 0; simp only [List.getElem?_toArray, List.getElem?_cons_zero] at x2; have hown5 := Lib.hid (owns_kept (owns_drew hown.out) hG6 (by omega)); clear hH5 hG6 hLd)))
      all_goals
        have hN := Lib.hid (relB_next (K := [sDevice]) (kd := sUser) (ct := ⟨ck, cy, cp, cl, cc, ca⟩) rfl hll.out hOk.out hLs5.out hat hI5.out hown5.out hgrow6 hown6)
        clear hgrow6 hown6 hat
        go_wp2_with fail
        go_meet
        exact hN
    case rest =>
    clear hS
    have hS := hcut
    clear hcut
    obtain ⟨va, vc, l, hll, hLs, hSI, hown⟩ := hS.out
    have hlen : l.length ≤ 2 := Nat.le_trans (Nat.le_of_eq hll.len) (by decide)
    replace hll := Lib.hid hll
    have hb' := hSI.br
    have hr' := hSI.rw
    have he' := hSI.re
    have e0 := hSI.ownE.cell 0
    have z0 := hSI.ownR.cell 0
    have g0 := hSI.ownR.free 0
    have hel : w.heap.size + 1 < wc.heap.size := hSI.ownE.lt
    have hrl : w.heap.size < wc.heap.size := hSI.ownR.lt
    simp only [List.getElem?_toArray, List.getElem?_cons_zero] at e0 z0
    replace hSI := Lib.hid hSI
    replace hown := Lib.hid hown
    replace hLs := Lib.hid hLs
    go_wp2
    refine bodyPost_ret (v := .agg #[.slice va l.length vc]) (by simp [results, Tryz.results8, go_sem, z0]) rfl ?_
    refine ⟨⟨va, l.length, vc, l, rfl, ⟨by first | exact Or.inl hll.out | exact Or.inr (Or.inl hll.out) | exact Or.inr (Or.inr (Or.inl hll.out)) | exact Or.inr (Or.inr (Or.inr hll.out)), w.heap.size + 1 + 1, by omega, by omega, ownsRow_setCell_below hown.out (by simp; omega) _, fun u hu => (hLs.out u hu).mono (newG_set (by simp; omega) _)⟩, ⟨?_, fun u hu => ?_⟩⟩, ?_, ?_⟩
    · refine RowsAt.mono ?_ (rows_of_owns_new (B := w.heap.size + 1 + 1) (b := b) hown.out (Nat.le_refl _) (by omega) (l.map CT.row) (by simp) (by intro r hr; obtain ⟨d, -, rfl⟩ := List.mem_map.1 hr; rfl) rfl)
      exact Sub.trans (newM_set (B := w.heap.size + 1 + 1) (by simp; omega) _) (newM_mono (by omega) b _)
    · exact ((hLs.out u hu).mono (newG_none _ _ _ _)).mono (Sub.trans (newM_set (B := w.heap.size + 1 + 1) (by simp; omega) _) (newM_mono (by omega) b _))
    · exact hSI.out.head.set (by simp; omega) _
    · exact g_setCell hSI.out.grown (by simp) _
  · skip
    go_upto_region 6 with fail
    go_cut [] (fun wy => Hid (RelB w wy b a n c w.heap.size (w.heap.size + 1) [sUser]))
    case first =>
      obtain ⟨va, vc, l, hll, hLs, hSI, hown⟩ := hS.out
      have hlen : l.length ≤ 2 := Nat.le_trans (Nat.le_of_eq hll.len) (by decide)
      replace hll := Lib.hid hll
      have hb' := hSI.br
      have hr' := hSI.rw
      have he' := hSI.re
      have e0 := hSI.ownE.cell 0
      have f0 := hSI.ownE.free 0
      have hel : w.heap.size + 1 < w3.heap.size := hSI.ownE.lt
      simp only [List.getElem?_toArray, List.getElem?_cons_zero] at e0
      have hlt4 := Lib.hid (fun j hj => (hown.lt j hj).2)
      replace hSI := Lib.hid hSI
      replace hown := Lib.hid hown
      replace hLs := Lib.hid hLs
      go_region_law
        ((first
          | (refine step_append_lies _ (by rfl) _ _ _ (by rfl) (w.heap.size + 1 + 1) 37 i0 _ 3 56 Tryz.underlying22 hi hz0 hz1 hz2 rfl (by omega) (.slice va l.length vc) l.length _ (by rfl) (hown5.out.alloc _) ⟨w5.heap.size, 0, none⟩ 1 1 [.string ck, .string cy, .slice cp cl cc] (by rfl) (by rfl) (World.news_of_block (cs := #[.string ck, .string cy, .slice cp cl cc]) (t := 37) (fr := (0, 0)) (heap_alloc_new w5 _)) (ct_one ⟨ck, cy, cp, cl, cc, ca⟩) (by omega) (by unfold maxLen; omega) (by omega) (by simp; omega) (w5.heap.size + 1) (by simp) ?_; intro gg cap w6 hown6 hgrow6 hat hlt6; have hE6 := own_past (hown5.out.alloc _) (hI5.out.ownE.alloc _) hgrow6 (show w.heap.size + 1 < w.heap.size + 1 + 1 by omega); have y2 := hE6.cell 0; have z2 := hE6.free 0; simp only [List.getElem?_toArray, List.getElem?_cons_zero] at y2)
          | (go_simp; go_at_call 22; refine (context_any b a n c ⟨#[117, 115, 101, 114]⟩ _ (hSI.out.drew.codes hC.out) (hSI.out.drew.glob hg0.out)).mono ?_; rintro e w5 ⟨⟨⟨ck, cy, cp, cl, cc, ca⟩, rfl, hOk, hLd⟩, hH5, hG6⟩; replace hOk := Lib.hid hOk; have hLs5 := Lib.hid (cts_more hLs.out hlt4.out (show w.heap.size + 1 + 1 ≤ w3.heap.size by omega) hG6 hLd); have hI5 := Lib.hid (hSI.out.drew.call hG6 hH5); have hl5 : w.heap.size + 1 < w5.heap.size := hI5.out.ownE.lt; have x2 := hI5.out.ownE.cell 0; simp only [List.getElem?_toArray, List.getElem?_cons_zero] at x2; have hown5 := Lib.hid (owns_kept (owns_drew hown.out) hG6 (by omega)); clear hH5 hG6 hLd)))
      all_goals
        have hN := Lib.hid (relB_next (K := []) (kd := sUser) (ct := ⟨ck, cy, cp, cl, cc, ca⟩) rfl hll.out hOk.out hLs5.out hat hI5.out hown5.out hgrow6 hown6)
        clear hgrow6 hown6 hat
        go_wp2_with fail
        go_meet
        exact hN
    case rest =>
    clear hS
    have hS := hcut
    clear hcut
    obtain ⟨va, vc, l, hll, hLs, hSI, hown⟩ := hS.out
    have hlen : l.length ≤ 2 := Nat.le_trans (Nat.le_of_eq hll.len) (by decide)
    replace hll := Lib.hid hll
    have hb' := hSI.br
    have hr' := hSI.rw
    have he' := hSI.re
    have e0 := hSI.ownE.cell 0
    have z0 := hSI.ownR.cell 0
    have g0 := hSI.ownR.free 0
    have hel : w.heap.size + 1 < wc.heap.size := hSI.ownE.lt
    have hrl : w.heap.size < wc.heap.size := hSI.ownR.lt
    simp only [List.getElem?_toArray, List.getElem?_cons_zero] at e0 z0
    replace hSI := Lib.hid hSI
    replace hown := Lib.hid hown
    replace hLs := Lib.hid hLs
    go_wp2
    refine bodyPost_ret (v := .agg #[.slice va l.length vc]) (by simp [results, Tryz.results8, go_sem, z0]) rfl ?_
    refine ⟨⟨va, l.length, vc, l, rfl, ⟨by first | exact Or.inl hll.out | exact Or.inr (Or.inl hll.out) | exact Or.inr (Or.inr (Or.inl hll.out)) | exact Or.inr (Or.inr (Or.inr hll.out)), w.heap.size + 1 + 1, by omega, by omega, ownsRow_setCell_below hown.out (by simp; omega) _, fun u hu => (hLs.out u hu).mono (newG_set (by simp; omega) _)⟩, ⟨?_, fun u hu => ?_⟩⟩, ?_, ?_⟩
    · refine RowsAt.mono ?_ (rows_of_owns_new (B := w.heap.size + 1 + 1) (b := b) hown.out (Nat.le_refl _) (by omega) (l.map CT.row) (by simp) (by intro r hr; obtain ⟨d, -, rfl⟩ := List.mem_map.1 hr; rfl) rfl)
      exact Sub.trans (newM_set (B := w.heap.size + 1 + 1) (by simp; omega) _) (newM_mono (by omega) b _)
    · exact ((hLs.out u hu).mono (newG_none _ _ _ _)).mono (Sub.trans (newM_set (B := w.heap.size + 1 + 1) (by simp; omega) _) (newM_mono (by omega) b _))
    · exact hSI.out.head.set (by simp; omega) _
    · exact g_setCell hSI.out.grown (by simp) _
  · skip
    go_upto_region 4 with fail
    go_cut [] (fun wy => Hid (RelB w wy b a n c w.heap.size (w.heap.size + 1) [sDevice]))
    case first =>
      obtain ⟨va, vc, l, hll, hLs, hSI, hown⟩ := hS.out
      have hlen : l.length ≤ 2 := Nat.le_trans (Nat.le_of_eq hll.len) (by decide)
      replace hll := Lib.hid hll
      have hb' := hSI.br
      have hr' := hSI.rw
      have he' := hSI.re
      have e0 := hSI.ownE.cell 0
      have f0 := hSI.ownE.free 0
      have hel : w.heap.size + 1 < w3.heap.size := hSI.ownE.lt
      simp only [List.getElem?_toArray, List.getElem?_cons_zero] at e0
      have hlt4 := Lib.hid (fun j hj => (hown.lt j hj).2)
      replace hSI := Lib.hid hSI
      replace hown := Lib.hid hown
      replace hLs := Lib.hid hLs
      go_region_law
        ((first
          | (refine step_append_lies _ (by rfl) _ _ _ (by rfl) (w.heap.size + 1 + 1) 37 i0 _ 3 56 Tryz.underlying22 hi hz0 hz1 hz2 rfl (by omega) (.slice va l.length vc) l.length _ (by rfl) (hown5.out.alloc _) ⟨w5.heap.size, 0, none⟩ 1 1 [.string ck, .string cy, .slice cp cl cc] (by rfl) (by rfl) (World.news_of_block (cs := #[.string ck, .string cy, .slice cp cl cc]) (t := 37) (fr := (0, 0)) (heap_alloc_new w5 _)) (ct_one ⟨ck, cy, cp, cl, cc, ca⟩) (by omega) (by unfold maxLen; omega) (by omega) (by simp; omega) (w5.heap.size + 1) (by simp) ?_; intro gg cap w6 hown6 hgrow6 hat hlt6; have hE6 := own_past (hown5.out.alloc _) (hI5.out.ownE.alloc _) hgrow6 (show w.heap.size + 1 < w.heap.size + 1 + 1 by omega); have y2 := hE6.cell 0; have z2 := hE6.free 0; simp only [List.getElem?_toArray, List.getElem?_cons_zero] at y2)
          | (go_simp; go_at_call 22; refine (context_any b a n c ⟨#[100, 101, 118, 105, 99, 101]⟩ _ (hSI.out.drew.codes hC.out) (hSI.out.drew.glob hg0.out)).mono ?_; rintro e w5 ⟨⟨⟨ck, cy, cp, cl, cc, ca⟩, rfl, hOk, hLd⟩, hH5, hG6⟩; replace hOk := Lib.hid hOk; have hLs5 := Lib.hid (cts_more hLs.out hlt4.out (show w.heap.size + 1 + 1 ≤ w3.heap.size by omega) hG6 hLd); have hI5 := Lib.hid (hSI.out.drew.call hG6 hH5); have hl5 : w.heap.size + 1 < w5.heap.size := hI5.out.ownE.lt; have x2 := hI5.out.ownE.cell 0; simp only [List.getElem?_toArray, List.getElem?_cons_zero] at x2; have hown5 := Lib.hid (owns_kept (owns_drew hown.out) hG6 (by omega)); clear hH5 hG6 hLd)))
      all_goals
        have hN := Lib.hid (relB_next (K := []) (kd := sDevice) (ct := ⟨ck, cy, cp, cl, cc, ca⟩) rfl hll.out hOk.out hLs5.out hat hI5.out hown5.out hgrow6 hown6)
        clear hgrow6 hown6 hat
        go_wp2_with fail
        go_meet
        exact hN
    case rest =>
    clear hS
    have hS := hcut
    clear hcut
    go_upto_region 6 with fail
    go_cut [] (fun wy => Hid (RelB w wy b a n c w.heap.size (w.heap.size + 1) [sDevice, sUser]))
    case first =>
      obtain ⟨va, vc, l, hll, hLs, hSI, hown⟩ := hS.out
      have hlen : l.length ≤ 2 := Nat.le_trans (Nat.le_of_eq hll.len) (by decide)
      replace hll := Lib.hid hll
      have hb' := hSI.br
      have hr' := hSI.rw
      have he' := hSI.re
      have e0 := hSI.ownE.cell 0
      have f0 := hSI.ownE.free 0
      have hel : w.heap.size + 1 < wc.heap.size := hSI.ownE.lt
      simp only [List.getElem?_toArray, List.getElem?_cons_zero] at e0
      have hlt4 := Lib.hid (fun j hj => (hown.lt j hj).2)
      replace hSI := Lib.hid hSI
      replace hown := Lib.hid hown
      replace hLs := Lib.hid hLs
      go_region_law
        ((first
          | (refine step_append_lies _ (by rfl) _ _ _ (by rfl) (w.heap.size + 1 + 1) 37 i0 _ 3 56 Tryz.underlying22 hi hz0 hz1 hz2 rfl (by omega) (.slice va l.length vc) l.length _ (by rfl) (hown5.out.alloc _) ⟨w5.heap.size, 0, none⟩ 1 1 [.string ck, .string cy, .slice cp cl cc] (by rfl) (by rfl) (World.news_of_block (cs := #[.string ck, .string cy, .slice cp cl cc]) (t := 37) (fr := (0, 0)) (heap_alloc_new w5 _)) (ct_one ⟨ck, cy, cp, cl, cc, ca⟩) (by omega) (by unfold maxLen; omega) (by omega) (by simp; omega) (w5.heap.size + 1) (by simp) ?_; intro gg cap w6 hown6 hgrow6 hat hlt6; have hE6 := own_past (hown5.out.alloc _) (hI5.out.ownE.alloc _) hgrow6 (show w.heap.size + 1 < w.heap.size + 1 + 1 by omega); have y2 := hE6.cell 0; have z2 := hE6.free 0; simp only [List.getElem?_toArray, List.getElem?_cons_zero] at y2)
          | (go_simp; go_at_call 22; refine (context_any b a n c ⟨#[117, 115, 101, 114]⟩ _ (hSI.out.drew.codes hC.out) (hSI.out.drew.glob hg0.out)).mono ?_; rintro e w5 ⟨⟨⟨ck, cy, cp, cl, cc, ca⟩, rfl, hOk, hLd⟩, hH5, hG6⟩; replace hOk := Lib.hid hOk; have hLs5 := Lib.hid (cts_more hLs.out hlt4.out (show w.heap.size + 1 + 1 ≤ wc.heap.size by omega) hG6 hLd); have hI5 := Lib.hid (hSI.out.drew.call hG6 hH5); have hl5 : w.heap.size + 1 < w5.heap.size := hI5.out.ownE.lt; have x2 := hI5.out.ownE.cell 0; simp only [List.getElem?_toArray, List.getElem?_cons_zero] at x2; have hown5 := Lib.hid (owns_kept (owns_drew hown.out) hG6 (by omega)); clear hH5 hG6 hLd)))
      all_goals
        have hN := Lib.hid (relB_next (K := [sDevice]) (kd := sUser) (ct := ⟨ck, cy, cp, cl, cc, ca⟩) rfl hll.out hOk.out hLs5.out hat hI5.out hown5.out hgrow6 hown6)
        clear hgrow6 hown6 hat
        go_wp2_with fail
        go_meet
        exact hN
    case rest =>
    clear hS
    have hS := hcut
    clear hcut
    obtain ⟨va, vc, l, hll, hLs, hSI, hown⟩ := hS.out
    have hlen : l.length ≤ 2 := Nat.le_trans (Nat.le_of_eq hll.len) (by decide)
    replace hll := Lib.hid hll
    have hb' := hSI.br
    have hr' := hSI.rw
    have he' := hSI.re
    have e0 := hSI.ownE.cell 0
    have z0 := hSI.ownR.cell 0
    have g0 := hSI.ownR.free 0
    have hel : w.heap.size + 1 < wc.heap.size := hSI.ownE.lt
    have hrl : w.heap.size < wc.heap.size := hSI.ownR.lt
    simp only [List.getElem?_toArray, List.getElem?_cons_zero] at e0 z0
    replace hSI := Lib.hid hSI
    replace hown := Lib.hid hown
    replace hLs := Lib.hid hLs
    go_wp2
    refine bodyPost_ret (v := .agg #[.slice va l.length vc]) (by simp [results, Tryz.results8, go_sem, z0]) rfl ?_
    refine ⟨⟨va, l.length, vc, l, rfl, ⟨by first | exact Or.inl hll.out | exact Or.inr (Or.inl hll.out) | exact Or.inr (Or.inr (Or.inl hll.out)) | exact Or.inr (Or.inr (Or.inr hll.out)), w.heap.size + 1 + 1, by omega, by omega, ownsRow_setCell_below hown.out (by simp; omega) _, fun u hu => (hLs.out u hu).mono (newG_set (by simp; omega) _)⟩, ⟨?_, fun u hu => ?_⟩⟩, ?_, ?_⟩
    · refine RowsAt.mono ?_ (rows_of_owns_new (B := w.heap.size + 1 + 1) (b := b) hown.out (Nat.le_refl _) (by omega) (l.map CT.row) (by simp) (by intro r hr; obtain ⟨d, -, rfl⟩ := List.mem_map.1 hr; rfl) rfl)
      exact Sub.trans (newM_set (B := w.heap.size + 1 + 1) (by simp; omega) _) (newM_mono (by omega) b _)
    · exact ((hLs.out u hu).mono (newG_none _ _ _ _)).mono (Sub.trans (newM_set (B := w.heap.size + 1 + 1) (by simp; omega) _) (newM_mono (by omega) b _))
    · exact hSI.out.head.set (by simp; omega) _
    · exact g_setCell hSI.out.grown (by simp) _
  · skip
    obtain ⟨va, vc, l, hll, hLs, hSI, hown⟩ := hS.out
    have hlen : l.length ≤ 2 := Nat.le_trans (Nat.le_of_eq hll.len) (by decide)
    replace hll := Lib.hid hll
    have hb' := hSI.br
    have hr' := hSI.rw
    have he' := hSI.re
    have e0 := hSI.ownE.cell 0
    have z0 := hSI.ownR.cell 0
    have g0 := hSI.ownR.free 0
    have hel : w.heap.size + 1 < w3.heap.size := hSI.ownE.lt
    have hrl : w.heap.size < w3.heap.size := hSI.ownR.lt
    simp only [List.getElem?_toArray, List.getElem?_cons_zero] at e0 z0
    replace hSI := Lib.hid hSI
    replace hown := Lib.hid hown
    replace hLs := Lib.hid hLs
    go_wp2
    refine bodyPost_ret (v := .agg #[.slice va l.length vc]) (by simp [results, Tryz.results8, go_sem, z0]) rfl ?_
    refine ⟨⟨va, l.length, vc, l, rfl, ⟨by first | exact Or.inl hll.out | exact Or.inr (Or.inl hll.out) | exact Or.inr (Or.inr (Or.inl hll.out)) | exact Or.inr (Or.inr (Or.inr hll.out)), w.heap.size + 1 + 1, by omega, by omega, ownsRow_setCell_below hown.out (by simp; omega) _, fun u hu => (hLs.out u hu).mono (newG_set (by simp; omega) _)⟩, ⟨?_, fun u hu => ?_⟩⟩, ?_, ?_⟩
    · refine RowsAt.mono ?_ (rows_of_owns_new (B := w.heap.size + 1 + 1) (b := b) hown.out (Nat.le_refl _) (by omega) (l.map CT.row) (by simp) (by intro r hr; obtain ⟨d, -, rfl⟩ := List.mem_map.1 hr; rfl) rfl)
      exact Sub.trans (newM_set (B := w.heap.size + 1 + 1) (by simp; omega) _) (newM_mono (by omega) b _)
    · exact ((hLs.out u hu).mono (newG_none _ _ _ _)).mono (Sub.trans (newM_set (B := w.heap.size + 1 + 1) (by simp; omega) _) (newM_mono (by omega) b _))
    · exact hSI.out.head.set (by simp; omega) _
    · exact g_setCell hSI.out.grown (by simp) _

end Go.Proofs.YthnjgbjckggjhaaGreatDoor.clause

