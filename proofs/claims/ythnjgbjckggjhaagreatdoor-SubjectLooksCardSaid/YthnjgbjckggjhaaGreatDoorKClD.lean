/- Drawn subjects: a context of a kind. -/
import Derived.Test.YthnjgbjckggjhaaGreatDoorKDraw5
import Derived.Test.YthnjgbjckggjhaaGreatDoorKClL
import Derived.Test.YthnjgbjckggjhaaGreatDoorKSuD
namespace Go.Proofs.YthnjgbjckggjhaaGreatDoor.clause
open Go.RowKit Go.Proofs.YthnjgbjckggjhaaGreatDoor Go.Proofs.YthnjgbjckggjhaaGreatDoor.schema Go.Proofs.YthnjgbjckggjhaaGreatDoor.value Go.Proofs.YthnjgbjckggjhaaGreatDoor.text Go.Proofs.YthnjgbjckggjhaaGreatDoor.draw

attribute [local go_sem ↓] Go.wp_at_zero Go.wp_at_succ

theorem infoA : (Tryz.prog.info? 56).map (fun i => (i.zero, i.size, i.bytes)) = some (some (.agg #[.string ⟨#[]⟩, .int .i64 0, .int .i64 0, .string ⟨#[]⟩, .slice none 0 0]), 5, 72) := by kernel_rfl
def ctE (kind key : ByteArray) (v : Value) : Array Value := #[.string kind, .string key, v]
def zeroCt : Array Value := #[.string ⟨#[]⟩, .string ⟨#[]⟩, .slice none 0 0]
/-- What is known while a context is made. -/
structure CI (w u : World) (b : Nat) (a : Option Addr) (n c r e d : Nat) (kind key : ByteArray) (v : Value) : Prop where
  head : Head b a n c u
  grown : w.grownBy u (some b)
  ownR : Own u r zeroCt 37
  ownD : Own u d declArr 73
  ownE : Own u e (ctE kind key v) 37
  br : b < w.heap.size
  rw : w.heap.size ≤ r
  de : d = e + 1
  re : r < e
theorem CI.call {w u x : World} {b : Nat} {a : Option Addr} {n c r e d : Nat} {kind key : ByteArray} {v : Value} (h : CI w u b a n c r e d kind key v) (hG : u.grownBy x (some b)) (hH : Head b a n c x) : CI w x b a n c r e d kind key v := by
  obtain ⟨h1, h2, h3, h4, h5, h6, h7, h8, h9⟩ := h
  exact ⟨hH, g_call h2 hG, h3.kept hG (by simp; omega), h4.kept hG (by simp; omega), h5.kept hG (by simp; omega), h6, h7, h8, h9⟩
theorem CI.drew {w u : World} {b : Nat} {a : Option Addr} {n c r e d : Nat} {kind key : ByteArray} {v : Value} (h : CI w u b a n c r e d kind key v) : CI w u.drew b a n c r e d kind key v := by
  obtain ⟨h1, h2, h3, h4, h5, h6, h7, h8, h9⟩ := h
  exact ⟨h1, g_drew h2, h3, h4, h5, h6, h7, h8, h9⟩
theorem CI.codes {w u : World} {b : Nat} {a : Option Addr} {n c r e d : Nat} {kind key : ByteArray} {v : Value} (h : CI w u b a n c r e d kind key v) (hC : Codes b a n c w) : Codes b a n c u := hC.still h.grown h.head
theorem CI.glob {w u : World} {b : Nat} {a : Option Addr} {n c r e d : Nat} {kind key : ByteArray} {v : Value} (h : CI w u b a n c r e d kind key v) (hg : Glob (but b w)) : Glob (but b u) := hg.mono (sub_of_grown h.grown)
theorem CI.setV {w u : World} {b : Nat} {a : Option Addr} {n c r e d : Nat} {kind key : ByteArray} {v : Value} (h : CI w u b a n c r e d kind key v) (v' : Value) : CI w (u.setCell ⟨e, 2, none⟩ v') b a n c r e d kind key v' := by
  obtain ⟨h1, h2, h3, h4, h5, h6, h7, h8, h9⟩ := h
  exact ⟨h1.set (by simp; omega) _, g_setCell h2 (by simp; omega) _, h3.setOther (by simp; omega) _, h4.setOther (by simp; omega) _, h5.set 2 _, h6, h7, h8, h9⟩
theorem CI.alloc {w u : World} {b : Nat} {a : Option Addr} {n c r e d : Nat} {kind key : ByteArray} {v : Value} (h : CI w u b a n c r e d kind key v) (o : Obj) : CI w (u.alloc o) b a n c r e d kind key v :=
  h.call (World.grownBy_alloc u o _) (h.head.alloc o)
theorem CI.app {w u x : World} {b : Nat} {a : Option Addr} {n c r e d : Nat} {kind key : ByteArray} {v v2 : Value} {ty : TypeId} {sz m : Nat} {xs : List Value} (h : CI w u b a n c r e d kind key v)
    (ho : u.ownsRow (e + 2) ty sz v2 m xs) (hg : u.grownBy x v2.ownBlock) : CI w x b a n c r e d kind key v := by
  obtain ⟨h1, h2, h3, h4, h5, h6, h7, h8, h9⟩ := h
  exact ⟨h1.kept hg (row_far ho (by omega)), g_own h2 hg (fun i e => by have := (ho.lt i e).1; omega), own_past ho h3 hg (by omega), own_past ho h4 hg (by omega), own_past ho h5 hg (by omega), h6, h7, h8, h9⟩

/-- The loop that draws the attributes. -/
def RelA (w wr : World) (b : Nat) (a : Option Addr) (n c r e d : Nat) (kind key : ByteArray) (i : Nat) : Prop :=
  ∃ va vc, ∃ l : List AD, (l.length ≤ i ∧ okA kind l i) ∧ (∀ u ∈ l, LAt (newG (e + 2) b (Value.slice va l.length vc).ownBlock wr) u.val) ∧ CI w wr b a n c r e d kind key (.slice va l.length vc) ∧ wr.ownsRow (e + 2) 56 5 (.slice va l.length vc) l.length (l.map AD.row).flatten
theorem relA_call {w u x : World} {b : Nat} {a : Option Addr} {n c r e d : Nat} {kind key : ByteArray} {i j : Nat} (h : RelA w u b a n c r e d kind key i) (hG : u.grownBy x (some b)) (hH : Head b a n c x) (hij : i ≤ j) : RelA w x b a n c r e d kind key j := by
  obtain ⟨va, vc, l, h1, h2, h3, h4⟩ := h
  have hb := h3.br
  have hr := h3.rw
  have he := h3.re
  exact ⟨va, vc, l, ⟨by have := h1.1; omega, okA_up hij h1.2⟩, fun u hu => (h2 u hu).mono (newG_grown hG), h3.call hG hH, owns_kept h4 hG (by omega)⟩
theorem atts_more {B b : Nat} {g : Option Nat} {w4 w5 : World} {l : List AD} {nm : ByteArray} {dv : VD} (h : ∀ v ∈ l, LAt (newG B b g w4) v.val) (hg : ∀ j, g = some j → j < w4.heap.size) (hB : B ≤ w4.heap.size) (hG : w4.drew.grownBy w5 (some b)) (hd : LAt (newM w4.drew.heap.size b w5) dv) : ∀ v ∈ l ++ [(⟨nm, dv⟩ : AD)], LAt (newG B b g w5) v.val := by
  intro v hv
  rcases List.mem_append.1 hv with hv | hv
  · exact (h v hv).mono (newG_grown (w := w4.drew) hG)
  · obtain rfl := List.mem_singleton.1 hv
    exact hd.mono (newM_newG hB hg w5)
theorem relA_next {w w5 w6 : World} {b : Nat} {a : Option Addr} {n c r e d : Nat} {kind key nm : ByteArray} {i k : Nat} {v : Value} {l : List AD} {dv : VD} {o : Obj} {gg cap : Nat} (hl : l.length = k) (hi : l.length ≤ i) (hOk : okA kind (l ++ [(⟨nm, dv⟩ : AD)]) (i + 1))
    (hLs : ∀ u ∈ l ++ [(⟨nm, dv⟩ : AD)], LAt (newG (e + 2) b v.ownBlock w5) u.val) (hat : v.ownBlock = some gg ∨ gg = w5.heap.size + 1)
    (hI : CI w w5 b a n c r e d kind key v) (hown : w5.ownsRow (e + 2) 56 5 v k (l.map AD.row).flatten) (hg : (w5.alloc o).grownBy w6 v.ownBlock)
    (hown6 : w6.ownsRow (e + 2) 56 5 (.slice (some ⟨gg, 0, none⟩) (k + 1) cap) (k + 1) ((l.map AD.row).flatten ++ .string nm :: dv.row)) :
    RelA w (w6.setCell ⟨e, 2, none⟩ (.slice (some ⟨gg, 0, none⟩) (k + 1) cap)) b a n c r e d kind key (i + 1) := by
  subst hl
  have mX : Sub (newG (e + 2) b v.ownBlock w5) (newG (e + 2) b (some gg) (w6.setCell ⟨e, 2, none⟩ (.slice (some ⟨gg, 0, none⟩) (l.length + 1) cap))) :=
    ((newG_grown (World.grownBy_alloc w5 o _)).trans (newG_app hg (hat.imp id (fun e => by rw [e]; simp)))).trans (newG_set (by simp) _)
  have e0 : (l ++ [(⟨nm, dv⟩ : AD)]).length = l.length + 1 := by simp
  refine ⟨some ⟨gg, 0, none⟩, cap, l ++ [⟨nm, dv⟩], ⟨by simp; omega, hOk⟩, fun u hu => (hLs u hu).mono mX, by rw [e0]; exact ((hI.alloc o).app (hown.alloc o) hg).setV _, ?_⟩
  have e1 : ((l ++ [(⟨nm, dv⟩ : AD)]).map AD.row).flatten = (l.map AD.row).flatten ++ .string nm :: dv.row := by simp [AD.row]
  rw [e1, e0]
  exact ownsRow_setCell_below hown6 (by simp) _

/-- What a drawn context is. -/
def CtIs (B b : Nat) (kind : ByteArray) (e : Ending) (w' : World) : Prop :=
  ∃ ct : CT, e = .returned (.agg #[.string ct.kind, .string ct.key, .slice ct.ptr ct.len ct.cap]) ∧ (ct.kind = kind ∧ okC ct) ∧ CAt (newM B b w') ct

theorem ad_one (s : ByteArray) (d : VD) : ∀ u ∈ (Value.string s :: d.row), u.oneCell' = true := by simp [VD.row, Value.oneCell']
theorem sub_keep {w u : World} {r : Option Nat} {p : Addr} {v : Value} (g : w.grownBy u r) (h : w.cell? p = some v) (hr : r ≠ some p.block) : u.cell? p = some v := g.cell h (fun e => hr e.symm)

set_option maxRecDepth 100000 in
set_option maxHeartbeats 8000000 in
theorem context_any (b : Nat) (a : Option Addr) (n c : Nat) (kind : ByteArray) (w : World) (h : Codes b a n c w) (hg : Glob (but b w)) :
    Calls Tryz.prog 22 #[.pointer (some ⟨b, 0, none⟩), .string kind] w (Drawn b a n c w fun e w' => CtIs w.heap.size b kind e w') := by
  have hC := Lib.hid h
  have hg0 := Lib.hid hg
  have hlt := h.lt
  clear h hg
  obtain ⟨i0, hi, hz0, hz1, hz2⟩ := info_parts infoA
  go_enter Tryz.func22, Tryz.ntmps22
  go_wp2_with fail
  refine (key_any b a n c _ (hC.out.alloc (.cells zeroCt 37))).mono ?_
  rintro e w1 ⟨⟨key, rfl, hkz⟩, hH, hG⟩
  have hR1 := (Own.new w zeroCt 37).kept hG (by simp; omega)
  have hG1 := g_call (g_alloc (grown_refl w (some b)) (.cells zeroCt 37)) hG
  have hE2 := (Own.new w1 (ctE kind key (.slice none 0 0)) 37).alloc (.cells declArr 73)
  have hD2 := Own.new (w1.alloc (.cells (ctE kind key (.slice none 0 0)) 37)) declArr 73
  rw [World.size_alloc] at hD2
  have hI := Lib.hid (show CI w ((w1.alloc (.cells (ctE kind key (.slice none 0 0)) 37)).alloc (.cells declArr 73)) b a n c w.heap.size w1.heap.size (w1.heap.size + 1) kind key (.slice none 0 0) from
    ⟨(hH.alloc _).alloc _, g_alloc (g_alloc hG1 _) _, (hR1.alloc _).alloc _, hD2, hE2, hlt, Nat.le_refl _, rfl, hR1.lt⟩)
  have hS := Lib.hid (show RelA w ((w1.alloc (.cells (ctE kind key (.slice none 0 0)) 37)).alloc (.cells declArr 73)) b a n c w.heap.size w1.heap.size (w1.heap.size + 1) kind key 0 from ⟨none, 0, [], ⟨Nat.le_refl _, okA_nil _ _⟩, (fun u hu => by cases hu), hI.out, World.ownsRow_nil _ _ _ _⟩)
  replace hkz := Lib.hid hkz
  clear hH hG hR1 hG1 hE2 hD2 hI
  go_wp2_with fail
  refine (declared_any _).mono ?_
  rintro e w3 ⟨rfl, rfl⟩
  go_wp2_with fail
  unfold ctE at hS
  generalize (w1.alloc (.cells #[.string kind, .string key, .slice none 0 0] 37)).alloc (.cells declArr 73) = w2 at hS ⊢
  obtain ⟨E, hE⟩ : ∃ E : Nat, E = w1.heap.size := ⟨_, rfl⟩
  rw [← hE] at hS ⊢
  clear hE
  go_loopw [7] (fun s7 wr => ∃ i : Nat, i ≤ 8 ∧ s7 = .int .i64 i ∧ Hid (RelA w wr b a n c w.heap.size E (E + 1) kind key i)) (fun s7 _ => 8 - (intOf s7).toNat)
  case atStart => exact ⟨0, by omega, rfl, hS.out⟩
  case round =>
    clear hS
    obtain ⟨i, hi8, rfl, hR⟩ := hrel
    by_cases hil : i < 8
    case neg =>
      obtain ⟨va, vc, l, ⟨hl, hok⟩, hLs, hCI, hown⟩ := hR.out
      replace hok := Lib.hid hok
      have hb' := hCI.br
      have hr' := hCI.rw
      have he' := hCI.re
      obtain ⟨e0, e1, e2⟩ := own3c hCI.ownE
      obtain ⟨z0, z1, z2⟩ := own3c hCI.ownR
      have g0 := hCI.ownR.free 0
      have g1 := hCI.ownR.free 1
      have g2 := hCI.ownR.free 2
      have hel : E < wr.heap.size := hCI.ownE.lt
      have hrl : w.heap.size < wr.heap.size := hCI.ownR.lt
      replace hCI := Lib.hid hCI
      replace hown := Lib.hid hown
      replace hLs := Lib.hid hLs
      go_wp2
      refine bodyPost_ret (v := .agg #[.string kind, .string key, .slice va l.length vc]) (by simp [results, Tryz.results22, go_sem, z0, z1, z2]) rfl ?_
      refine ⟨⟨⟨kind, key, va, l.length, vc, l⟩, rfl, ⟨rfl, hkz.out, okA_up (by omega) hok.out⟩, ⟨?_, fun u hu => ?_, by simp only; have := hkz.out.1.1; omega⟩⟩, ?_, ?_⟩
      · refine RowsAt.mono ?_ (rows_of_owns_new (B := E + 2) (b := b) hown.out (Nat.le_refl _) (by omega) (l.map AD.row) (by simp) (by intro r hr; obtain ⟨d, -, rfl⟩ := List.mem_map.1 hr; rfl) rfl)
        exact Sub.trans (Sub.trans (Sub.trans (newM_set (B := E + 2) (by simp; omega) _) (newM_set (by simp; omega) _)) (newM_set (by simp; omega) _)) (newM_mono (by omega) b _)
      · exact LAtLow (LAtSet (LAtSet (LAtSet ((hLs.out u hu).mono (newG_none _ _ _ _)) (by simp; omega) _) (by simp; omega) _) (by simp; omega) _) (by omega)
      · exact ((hCI.out.head.set (by simp; omega) _).set (by simp; omega) _).set (by simp; omega) _
      · exact g_setCell (g_setCell (g_setCell hCI.out.grown (by simp) _) (by simp) _) (by simp) _
    obtain ⟨q0, q1, q2⟩ := declArr_at i hil
    have hMore := Lib.hid (fun (l : List AD) (dv : VD) (ho : okA kind l i) (hk : ((declD[i]'hil).kind.toList == kind.toList) = true) (hd : dv.kind = kindOf (declD[i]'hil).type ∧ okV dv) => okA_more hil ho hk hd)
    obtain ⟨va, vc, l, ⟨hl, hok⟩, hLs, hCI, hown⟩ := hR.out
    replace hok := Lib.hid hok
    have r0 := (hCI.ownD.cell (i * 3)).trans q0
    have r1 := (hCI.ownD.cell (i * 3 + 1)).trans q1
    have r2 := (hCI.ownD.cell (i * 3 + 2)).trans q2
    have hb' := hCI.br
    have hr' := hCI.rw
    have he' := hCI.re
    have hdl : E + 1 < wr.heap.size := hCI.ownD.lt
    have hlt0 := Lib.hid (fun j hj => (hown.lt j hj).2)
    have n0 : (0 : Int) ≤ (i : Int) := by omega
    have n1 : (i : Int) < 8 := by omega
    generalize (declD[i]'hil) = dd at r0 r1 r2 hMore
    obtain ⟨dk, dn, dt⟩ := dd
    simp only at r0 r1 r2
    replace hCI := Lib.hid hCI
    replace hown := Lib.hid hown
    replace hLs := Lib.hid hLs
    clear q0 q1 q2
    cases hkk : (dk.toList == kind.toList) with
    | false =>
      have hN := Lib.hid (relA_call (j := i + 1) hR.out (grown_refl _ _) hCI.out.head (by omega))
      go_wp2
      go_roundw
      case rel => exact ⟨i + 1, by omega, by go_num, hN.out⟩
      case measure => simp [intOf]; omega
    | true =>
      have hkk1 := Lib.hid hkk
      go_wp2_with fail
      refine (next_any _ a n c _ 4 (by omega) (by omega) (hCI.out.codes hC.out)).mono ?_
      rintro e w4 ⟨⟨m, rfl, hm0, hm1⟩, hH, hG⟩
      have hI4 := Lib.hid (hCI.out.call hG hH)
      have hown4 := Lib.hid (owns_kept hown.out hG (by omega))
      have hLs4 := Lib.hid (fun v hv => (hLs.out v hv).mono (newG_grown hG))
      have hlt4 := Lib.hid (fun j hj => Nat.lt_of_lt_of_le (hlt0.out j hj) hG.size)
      have hN := Lib.hid (relA_call (j := i + 1) hR.out hG hH (by omega))
      have hdl4 : E + 1 < w4.heap.size := hI4.out.ownD.lt
      have rr := hI4.out.ownD.kept (grown_refl w4 (some b)) (by simp; omega)
      have s0 : w4.cell? ⟨E + 1, i * 3, none⟩ = some (.string dk) := sub_keep hG r0 (by simp; omega)
      have s1 : w4.cell? ⟨E + 1, i * 3 + 1, none⟩ = some (.string dn) := sub_keep hG r1 (by simp; omega)
      have s2 : w4.cell? ⟨E + 1, i * 3 + 2, none⟩ = some (.int .i64 dt) := sub_keep hG r2 (by simp; omega)
      clear hH hG r0 r1 r2 rr hlt0 hLs hown hCI hR
      by_cases hm : 0 < m
      case neg =>
        go_wp2
        go_roundw
        case rel => exact ⟨i + 1, by omega, by go_num, hN.out⟩
        case measure => simp [intOf]; omega
      clear hN
      obtain ⟨e0, e1, e2⟩ := own3c hI4.out.ownE
      have f2 := hI4.out.ownE.free 2
      go_wp2_with fail
      go_region_law
        ((first
          | (refine step_append_lies _ (by rfl) _ _ _ (by rfl) (E + 2) 56 i0 _ 5 72 Tryz.underlying35 hi hz0 hz1 hz2 rfl (by omega) (.slice va l.length vc) l.length _ (by rfl) (hown5.out.alloc _) ⟨w5.heap.size, 0, none⟩ 1 1 (.string dn :: dv.row) (by rfl) (by rfl) (World.news_of_block (cs := (Value.string dn :: dv.row).toArray) (t := 56) (fr := (0, 0)) (heap_alloc_new w5 _)) (ad_one dn dv) (by omega) (by unfold maxLen; omega) (by omega) (by simp; omega) (w5.heap.size + 1) (by simp) ?_; intro gg cap w6 hown6 hgrow6 hat hlt6; have hE6 := own_past (hown5.out.alloc _) (hI5.out.ownE.alloc _) hgrow6 (show E < E + 2 by omega); have y2 := hE6.cell 2; have z2 := hE6.free 2; simp [ctE] at y2)
          | (go_simp; go_at_call 33; refine (value_any _ a n c _ (hI4.out.drew.codes hC.out) (hI4.out.drew.glob hg0.out) _).mono ?_; rintro e w5 ⟨⟨dv, rfl, hdk, hLd⟩, hH5, hG6⟩; replace hdk := Lib.hid hdk; have hLs5 := Lib.hid (atts_more (nm := dn) hLs4.out hlt4.out (show E + 2 ≤ w4.heap.size by omega) hG6 hLd); have hI5 := Lib.hid (hI4.out.drew.call hG6 hH5); have hl5 : E < w5.heap.size := hI5.out.ownE.lt; have x2 := hI5.out.ownE.cell 2; simp [ctE] at x2; have t0 : w5.cell? ⟨E + 1, i * 3, none⟩ = some (.string dk) := sub_keep hG6 s0 (by simp; omega); have t1 : w5.cell? ⟨E + 1, i * 3 + 1, none⟩ = some (.string dn) := sub_keep hG6 s1 (by simp; omega); have t2 : w5.cell? ⟨E + 1, i * 3 + 2, none⟩ = some (.int .i64 dt) := sub_keep hG6 s2 (by simp; omega); have hdl5 : E + 1 < w5.heap.size := hI5.out.ownD.lt; have hown5 := Lib.hid (owns_kept (owns_drew hown4.out) hG6 (by omega)); clear hH5 hG6 hLd; unfold VD.row)))
      all_goals
        have hN := Lib.hid (relA_next (i := i) (nm := dn) (dv := dv) rfl hl (hMore.out l dv hok.out hkk1.out hdk.out) hLs5.out hat hI5.out hown5.out hgrow6 hown6)
        clear hgrow6 hown6 hat
        go_wp2
        go_roundw
        case rel => exact ⟨i + 1, by omega, by go_num, hN.out⟩
        case measure => simp [intOf]; omega

end Go.Proofs.YthnjgbjckggjhaaGreatDoor.clause

