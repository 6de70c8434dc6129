/- SchemaSubjects: the walk. -/
import Derived.Test.YtamkmdlfhlbbeaaDoorKSuW
import Derived.Test.YtamkmdlfhlbbeaaDoorKLawA
import Derived.Test.YtamkmdlfhlbbeaaDoorKClB
import Derived.Test.YtamkmdlfhlbbeaaDoorKApp0
import Derived.Lib.QuietBelow
namespace Go.Proofs.YtamkmdlfhlbbeaaDoor.subj
open Go.RowKit Go.Sort Go.Proofs.YtamkmdlfhlbbeaaDoor Go.Proofs.YtamkmdlfhlbbeaaDoor.schema Go.Proofs.YtamkmdlfhlbbeaaDoor.value Go.Proofs.YtamkmdlfhlbbeaaDoor.text Go.Proofs.YtamkmdlfhlbbeaaDoor.clause Go.Proofs.YtamkmdlfhlbbeaaDoor.draw

attribute [local go_sem ↓] Go.wp_at_zero Go.wp_at_succ

theorem infoD : (Tryd.prog.info? 36).map (fun i => (i.zero, i.size, i.bytes)) = some (some (.agg #[.string ⟨#[]⟩, .string ⟨#[]⟩, .int .i64 0]), 3, 40) := by kernel_rfl
theorem rows3 (l : List DD) : ∀ r ∈ l.map DD.row, r.length = 3 := by
  intro r hr; obtain ⟨d, -, rfl⟩ := List.mem_map.1 hr; rfl
theorem flat3_one (l : List DD) : ∀ v ∈ (l.map DD.row).flatten, v.oneCell' = true := by
  intro v hv
  obtain ⟨r, hr, hv⟩ := List.mem_flatten.1 hv
  obtain ⟨d, -, rfl⟩ := List.mem_map.1 hr
  simp only [DD.row, List.mem_cons, List.not_mem_nil, or_false] at hv
  rcases hv with rfl | rfl | rfl <;> rfl
theorem decl_at {w : World} {D : Nat} (h : Own w D declArr 36) (i : Nat) (r : List Value) (hr : (declD.map DD.row)[i]? = some r) (j : Nat) (x : Value) (hx : r[j]? = some x) : w.cell? ⟨D, i * 3 + j, none⟩ = some x := by
  rw [h.cell]
  have := flat_get 3 (declD.map DD.row) (rows3 _) i r hr j x hx
  unfold declArr
  rw [List.getElem?_toArray]
  exact this
theorem decl_low {w : World} {D : Nat} (h : Own w D declArr 36) (k : Nat) (hk : k ≤ 8) : RowsAt w.cell? 3 (.slice (some ⟨D, 0, none⟩) k 8) ((declD.take k).map DD.row) := by
  have hl : declD.length = 8 := rfl
  refine ⟨some ⟨D, 0, none⟩, 8, by simp [hl] <;> omega, by simp <;> omega, by decide, Or.inr ⟨D, 0, rfl, fun i r hi j x hj => ?_⟩⟩
  rw [Nat.zero_add]
  refine decl_at h i r ?_ j x hj
  rw [List.map_take, List.getElem?_take] at hi
  split at hi
  · exact hi
  · cases hi
theorem decl_high {w : World} {D al : Nat} (h : Own w D declArr 36) (k : Nat) (hk : k < 8) (ha : al = if k = 7 then 0 else (k + 1) * 3) : RowsAt w.cell? 3 (.slice (some ⟨D, al, none⟩) (7 - k) (7 - k)) ((declD.drop (k + 1)).map DD.row) := by
  have hl : declD.length = 8 := rfl
  refine ⟨some ⟨D, al, none⟩, 7 - k, by simp [hl] <;> omega, by simp [hl] <;> omega, by unfold maxLen; omega, ?_⟩
  by_cases h7 : k = 7
  · subst h7
    exact Or.inl rfl
  · rw [if_neg h7] at ha
    refine Or.inr ⟨D, al, rfl, fun i r hi j x hj => ?_⟩
    rw [List.map_drop, List.getElem?_drop] at hi
    have := decl_at h (k + 1 + i) r hi j x hj
    rw [show al + i * 3 + j = (k + 1 + i) * 3 + j by omega]
    exact this
theorem decl_nm9 : ∀ d ∈ declD, d.name.size ≤ 1048576 := by decide +kernel
theorem okSub_nm9 {l : List CT} (h : okSub l) : Nm l := by
  intro c hc
  have hm : ∀ K : List ByteArray, (∀ k ∈ K, k.size ≤ 1048576) → okL K l → (c.kind.size ≤ 1048576) ∧ okC c := fun K hK hl => ⟨hK _ (by rw [← hl.1]; exact List.mem_map_of_mem hc), hl.2 c hc⟩
  have h1 : (c.kind.size ≤ 1048576) ∧ okC c := by
    rcases h with h | h | h | h
    · exact hm _ (fun k hk => by cases hk) h
    · exact hm _ (fun k hk => by obtain rfl := List.mem_singleton.1 hk; decide) h
    · exact hm _ (fun k hk => by obtain rfl := List.mem_singleton.1 hk; decide) h
    · exact hm _ (fun k hk => by simp at hk; rcases hk with rfl | rfl <;> decide) h
  refine ⟨h1.1, fun a ha => ?_⟩
  obtain ⟨-, d, hd, -, h3, -⟩ := h1.2.2.2 a ha
  rw [← h3]
  exact decl_nm9 d hd
theorem below_none {w u : World} (h : w.grownBy u none) : Below w.heap.size w u := ⟨h.os, h.tape, h.output, h.size, fun k hk => h.block k hk (by simp)⟩
/-- One type is another one. -/
theorem decl_other (k : Nat) (hk : k < 8) (v : Int) : (declArr.setIfInBounds (k * 3 + 2) (.int .i64 v)).toList = ((declD.set k ⟨(declD[k]'hk).kind, (declD[k]'hk).name, v⟩).map DD.row).flatten := by
  rcases (show k = 0 ∨ k = 1 ∨ k = 2 ∨ k = 3 ∨ k = 4 ∨ k = 5 ∨ k = 6 ∨ k = 7 by omega) with rfl | rfl | rfl | rfl | rfl | rfl | rfl | rfl
  all_goals rfl

set_option maxRecDepth 100000 in
set_option maxHeartbeats 16000000 in
theorem ssub_walk (a : Option Addr) (n c : Nat) (drop t : Int) (hp0 : -9223372036854775808 ≤ drop) (hp1 : drop ≤ 9223372036854775807) (ht0 : -9223372036854775808 ≤ t) (ht1 : t ≤ 9223372036854775807) (sa : Option Addr) (sn sc : Nat) (ls : List CT) (w : World) (h : BytesAt w.cell? a n c) (hSs : SAt w.cell? (.slice sa sn sc) ls) (hNs : Nm ls) (hg : ∀ b, w.heap.size ≤ b → Glob (but b w)) (hT : STabs w) :
    Calls Tryd.prog 3 #[.slice a n c, .int .i64 drop, .int .i64 t, .agg #[.slice sa sn sc]] w fun e w' => e = .returned (.bool true) ∧ Below w.heap.size w w' := by
  have hB0 : Below w.heap.size w (w.alloc (.cells #[.slice sa sn sc] 25)) := (Below.refl _ _).alloc (Nat.le_refl _) _
  have hOs := Lib.hid (Own.new w #[.slice sa sn sc] 25)
  have hA := Lib.hid h
  have hg0 := Lib.hid hg
  have hT0 := Lib.hid hT
  replace hSs := Lib.hid hSs
  replace hNs := Lib.hid hNs
  replace hB0 := Lib.hid hB0
  clear h hg hT
  go_enter Tryd.func3, Tryd.ntmps3
  go_wp2_with fail
  generalize w.alloc (.cells #[.slice sa sn sc] 25) = w0 at hB0 hOs ⊢
  obtain ⟨gs, hgs⟩ : ∃ g : Nat, Hid (g = w.heap.size) := ⟨_, Lib.hid rfl⟩
  rw [← hgs.out] at hOs ⊢
  refine (law.awake_any _).mono ?_
  rintro e w1 ⟨rfl, hb1⟩
  have hB1 := Lib.hid (hB0.out.trans (hb1.mono hB0.out.size))
  have hOs1 := hOs.out.below hb1 hOs.out.lt
  have s0 := hOs1.cell 0
  simp only [List.getElem?_toArray, List.getElem?_cons_zero] at s0
  have hsl := hOs1.lt
  replace hOs1 := Lib.hid hOs1
  clear hb1 hB0 hOs
  by_cases hlarge : (8 : Int) < (sn : Int)
  case pos =>
    go_wp2
    go_ret
    exact ⟨rfl, hB1.out⟩
  go_wp2_with fail
  refine (new_any a n c 80 _ (by omega) (by omega) (hA.out.mono (sub_of_below hB1.out))).mono ?_
  rintro e w3 ⟨rfl, ⟨a', n', c', hC⟩, hb3⟩
  have hsz : w.heap.size ≤ w1.heap.size := hB1.out.size
  have hlt := hC.lt
  have hge : gs < w1.heap.size := hsl
  have hB3 := Lib.hid (hB1.out.trans (hb3.mono hsz))
  have hOs3 := Lib.hid (hOs1.out.below hb3 hOs1.out.lt)
  have hC3 := Lib.hid hC
  have hg3 := Lib.hid ((hg0.out w1.heap.size hsz).mono (sub_of_grown (grown_of_below ((hB1.out.trans (hb3.mono hsz)).mono (Nat.le_refl _)) _)))
  clear hC hb3 hB1 hOs1 s0 hsl hlarge
  go_wp2_with fail
  refine (subject_any w1.heap.size a' n' c' _ hC3.out hg3.out).mono ?_
  rintro e w4 ⟨⟨va, vn, vc, l, rfl, ⟨hok, -⟩, hS4⟩, hH4, hG4⟩
  have hG5 : w3.grownBy (w4.alloc (.cells #[.slice va vn vc] 25)) (some w1.heap.size) := g_alloc hG4 _
  have hB5 := Lib.hid (hB3.out.trans (below_of_grown hG5 hB3.out.size hsz))
  have hOx5 := Lib.hid (Own.new w4 #[.slice va vn vc] 25)
  have hOs5 := Lib.hid (hOs3.out.kept hG5 (by simp; omega))
  have hS5 := Lib.hid ((hS4.mono (newM_grown (g_alloc (grown_refl w4 (some w1.heap.size)) (.cells #[.slice va vn vc] 25)))).mono ((newM_but _ _ _).trans (but_sub _ _)))
  have hx4 : gs < w4.heap.size := by have := hOs5.out.lt; have := hG4.size; have := hOs3.out.lt; omega
  replace hok := Lib.hid hok
  clear hG5 hG4 hH4 hS4 hC3 hg3 hB3 hOs3
  go_wp2_with fail
  generalize w4.alloc (.cells #[.slice va vn vc] 25) = w5 at hB5 hOx5 hOs5 hS5 ⊢
  obtain ⟨gx, hgx⟩ : ∃ g : Nat, g = w4.heap.size := ⟨_, rfl⟩
  rw [← hgx] at hOx5 hx4 ⊢
  clear hgx
  refine (declared_any _).mono ?_
  rintro e w5b ⟨rfl, rfl⟩
  have hbD : Below w5.heap.size w5 (w5.alloc (.cells declArr 36)) := (Below.refl _ _).alloc (Nat.le_refl _) _
  have hD6 := Lib.hid (Own.new w5 declArr 36)
  have hB6 := Lib.hid (hB5.out.trans (hbD.mono hB5.out.size))
  have hOx6 := Lib.hid (hOx5.out.below hbD hOx5.out.lt)
  have hOs6 := Lib.hid (hOs5.out.below hbD hOs5.out.lt)
  have hS6 := Lib.hid (hS5.out.mono (sub_of_below hbD))
  have x0 := hOx6.out.cell 0
  simp only [List.getElem?_toArray, List.getElem?_cons_zero] at x0
  have hxl := hOx6.out.lt
  clear hbD hB5 hOx5 hOs5 hS5
  go_wp2_with fail
  generalize w5.alloc (.cells declArr 36) = w6a at hD6 hB6 hOx6 hOs6 hS6 x0 hxl ⊢
  obtain ⟨D, hDe⟩ : ∃ g : Nat, g = w5.heap.size := ⟨_, rfl⟩
  rw [← hDe] at hD6 ⊢
  clear hDe
  refine (sub9_any declD (.slice (some ⟨D, 0, none⟩) 8 8) l va vn vc _ (decl_low hD6.out 8 (by omega)) hS6.out (hT0.out.below hB6.out)).mono ?_
  rintro e w6 ⟨rfl, hb6⟩
  rw [subj_ok hok.out]
  have hB7 := Lib.hid (hB6.out.trans (hb6.mono hB6.out.size))
  have hOx7 := Lib.hid (hOx6.out.below hb6 hOx6.out.lt)
  have hOs7 := Lib.hid (hOs6.out.below hb6 hOs6.out.lt)
  have hS7 := Lib.hid (hS6.out.mono (sub_of_below hb6))
  replace hD6 := Lib.hid (hD6.out.below hb6 hD6.out.lt)
  have hDl : D < w6.heap.size := hD6.out.lt
  clear hb6 hB6 hOx6 hOs6 hS6 x0 hxl
  go_wp2_with fail
  refine (mod_any drop 8 _ (by omega) (by omega) hp0 hp1).mono ?_
  rintro e w7 ⟨⟨q, rfl, hq0, hq1⟩, rfl⟩
  obtain ⟨k, rfl⟩ : ∃ k : Nat, q = (k : Int) := ⟨q.toNat, by omega⟩
  have hk : k < 8 := by omega
  go_wp2_with fail
  obtain ⟨i0, hi, hz0, hz1, hz2⟩ := info_parts infoD
  have hwk : IntKind.i64.wrap ((k : Int) + 1) = (k : Int) + 1 := IntWalk.i64_in _ (by omega)
  have hk7 : (k : Int) ≤ 7 := by omega
  have hk8 : (k : Int) ≤ 8 := by omega
  have hk0 : (0 : Int) ≤ (k : Int) := by omega
  obtain ⟨al, hal⟩ : ∃ al : Nat, Hid (al = if k = 7 then 0 else (k + 1) * 3) := ⟨_, Lib.hid rfl⟩
  refine wp_region_held_drew (S := fun W => w6.grownBy W none) (by kernel_rfl) (grown_drew w6 none) (fun hHeld => ?_)
  generalize w6.drew = wd at hHeld ⊢
  refine wpAnyH_take (i := 0) (oi := ?oi1) (v := ?v1) ?ho1 (by kernel_rfl) (by kernel_rfl) (by kernel_rfl) ?hp1 (Or.inl ⟨?hw1, ?hy1⟩) (by assumption) ?rest1
  case ho1 => simp only [List.getElem?_toArray, List.getElem?_cons_zero]; rfl
  case hp1 => exact fun _ _ _ h => h
  case hw1 => rfl
  case hy1 =>
    intro W hSw
    go_simp
    try exact rfl
  simp only [Act.put, List.setIfInBounds_toArray, List.set_cons_zero, List.set_cons_succ]
  refine wpAnyH_take (i := 1) (oi := ?oi2) (v := ?v2) ?ho2 (by kernel_rfl) (by kernel_rfl) (by kernel_rfl) ?hp2 (Or.inl ⟨?hw2, ?hy2⟩) (by assumption) ?rest2
  case ho2 => simp only [List.getElem?_toArray, List.getElem?_cons_succ, List.getElem?_cons_zero]; rfl
  case hp2 => exact fun _ _ _ h => h
  case hw2 => rfl
  case hy2 =>
    intro W hSw
    go_simp
    try exact rfl
  simp only [Act.put, List.setIfInBounds_toArray, List.set_cons_zero, List.set_cons_succ]
  refine wpAnyH_take (i := 2) (oi := ?oi3) (v := ?v3) ?ho3 (by kernel_rfl) (by kernel_rfl) (by kernel_rfl) ?hp3 (Or.inl ⟨?hw3, ?hy3⟩) (by assumption) ?rest3
  case ho3 => simp only [List.getElem?_toArray, List.getElem?_cons_succ, List.getElem?_cons_zero]; rfl
  case hp3 => exact fun _ _ _ h => h
  case hw3 => rfl
  case hy3 =>
    intro W hSw
    go_simp
    try exact rfl
  simp only [Act.put, List.setIfInBounds_toArray, List.set_cons_zero, List.set_cons_succ]
  refine wpAnyH_take (i := 4) (oi := ?oi4) (v := ?v4) ?ho4 (by kernel_rfl) (by kernel_rfl) (by kernel_rfl) ?hp4 (Or.inl ⟨?hw4, ?hy4⟩) (by assumption) ?rest4
  case ho4 => simp only [List.getElem?_toArray, List.getElem?_cons_succ, List.getElem?_cons_zero]; rfl
  case hp4 => exact fun _ _ _ h => h
  case hw4 => rfl
  case hy4 =>
    intro W hSw
    go_simp
    try exact rfl
  simp only [Act.put, List.setIfInBounds_toArray, List.set_cons_zero, List.set_cons_succ]
  refine wpAnyH_take (i := 5) (oi := ?oi5) (v := ?v5) ?ho5 (by kernel_rfl) (by kernel_rfl) (by kernel_rfl) ?hp5 (Or.inl ⟨?hw5, ?hy5⟩) (by assumption) ?rest5
  case ho5 => simp only [List.getElem?_toArray, List.getElem?_cons_succ, List.getElem?_cons_zero]; rfl
  case hp5 => exact fun _ _ _ h => h
  case hw5 => rfl
  case hy5 =>
    intro W hSw
    go_simp
    try exact rfl
  simp only [Act.put, List.setIfInBounds_toArray, List.set_cons_zero, List.set_cons_succ]
  refine wpAnyH_take (i := 6) (oi := ?oi6) (v := ?v6) ?ho6 (by kernel_rfl) (by kernel_rfl) (by kernel_rfl) ?hp6 (Or.inl ⟨?hw6, ?hy6⟩) (by assumption) ?rest6
  case ho6 => simp only [List.getElem?_toArray, List.getElem?_cons_succ, List.getElem?_cons_zero]; rfl
  case hp6 => exact fun _ _ _ h => h
  case hw6 => rfl
  case hy6 =>
    intro W hSw
    go_simp
    try exact rfl
  simp only [Act.put, List.setIfInBounds_toArray, List.set_cons_zero, List.set_cons_succ]
  refine wpAnyH_take (i := 7) (oi := ?oi7) (v := .slice (some ⟨D, al, none⟩) (7 - k) (7 - k)) ?ho7 (by kernel_rfl) (by kernel_rfl) (by kernel_rfl) ?hp7 (Or.inl ⟨?hw7, ?hy7⟩) (by assumption) ?rest7
  case ho7 => simp only [List.getElem?_toArray, List.getElem?_cons_succ, List.getElem?_cons_zero]; rfl
  case hp7 => exact fun _ _ _ h => h
  case hw7 => rfl
  case hy7 =>
    intro W hSw
    rw [hal.out]
    go_simp
    rw [if_pos ⟨by omega, by omega⟩]
    by_cases h7 : k = 7 <;> simp [h7]
  simp only [Act.put, List.setIfInBounds_toArray, List.set_cons_zero, List.set_cons_succ]
  refine wpAnyH_ready (rs := [3]) (by kernel_rfl) (by simp) ?_
  refine AllReadyH.cons rfl (fun K hK => ?_) AllReadyH.nil
  rw [if_pos (by rfl)]
  refine wp_append_rows _ _ 30 rfl w6.heap.size 36 i0 (.agg #[.string ⟨#[]⟩, .string ⟨#[]⟩, .int .i64 0]) 3 40 Tryd.underlying30 hi hz0 hz1 hz2 rfl (by decide) _ 0 [] rfl (World.ownsRow_nil wd w6.heap.size 36 3) (some ⟨D, 0, none⟩) k 8 ((declD.take k).map DD.row) wd.cell? rfl (decl_low (hD6.out.kept hHeld (by simp)) k (by omega)) (Sub.refl _) (rows3 _) (flat3_one _) (by unfold maxLen; omega) (by omega) hHeld.size (fun vqa wqa ho hg => ?_)
  have hH2 : w6.grownBy wqa none := g_own hHeld hg (fun i e => by cases e)
  refine hK.out _ _ hH2 (fun hHeld => ?_)
  clear hK K hg hH2
  have hOa := ho
  clear ho
  try simp only [Act.put]
  generalize wqa = wva at hHeld hOa ⊢
  refine wpAnyH_ready (rs := [8]) (by kernel_rfl) (by simp) ?_
  refine AllReadyH.cons rfl (fun K hK => ?_) AllReadyH.nil
  rw [if_pos (by rfl)]
  refine wp_append_rows _ _ 30 rfl w6.heap.size 36 i0 (.agg #[.string ⟨#[]⟩, .string ⟨#[]⟩, .int .i64 0]) 3 40 Tryd.underlying30 hi hz0 hz1 hz2 rfl (by decide) _ (0 + k) ([] ++ ((declD.take k).map DD.row).flatten) rfl hOa (some ⟨D, al, none⟩) (7 - k) (7 - k) ((declD.drop (k + 1)).map DD.row) wva.cell? rfl (decl_high (hD6.out.kept hHeld (by simp)) k (by omega) hal.out) (Sub.refl _) (rows3 _) (flat3_one _) (by unfold maxLen; omega) (by omega) hHeld.size (fun vqb wqb ho hg => ?_)
  have hH2 : w6.grownBy wqb none := g_own hHeld hg (fun i e => (hOa.lt i e).1)
  refine hK.out _ _ hH2 (fun hHeld => ?_)
  clear hK K hg hH2
  have hOb := ho
  clear ho
  try simp only [Act.put]
  generalize wqb = wvb at hHeld hOb ⊢
  refine wpAnyH_take (i := 9) (oi := ?oi8) (v := ?v8) ?ho8 (by kernel_rfl) (by kernel_rfl) (by kernel_rfl) ?hp8 (Or.inl ⟨?hw8, ?hy8⟩) (by assumption) ?rest8
  case ho8 => simp only [List.getElem?_toArray, List.getElem?_cons_succ, List.getElem?_cons_zero]; rfl
  case hp8 => exact fun _ _ _ h => h
  case hw8 => rfl
  case hy8 =>
    intro W hSw
    go_simp
    try exact rfl
  simp only [Act.put]
  refine wpAnyH_done (by kernel_rfl) ?_ _
  rw [List.nil_append] at hOb
  rw [show 0 + k + (7 - k) = 7 by omega] at hOb
  obtain ⟨vla, vlc, rfl⟩ := owns_slice hOb
  have hb8 := below_none hHeld
  have hB8 := hB7.out.trans (hb8.mono hB7.out.size)
  have hOx8 := hOx7.out.below hb8 hOx7.out.lt
  have hOs8 := hOs7.out.below hb8 hOs7.out.lt
  have hS8 := hS7.out.mono (sub_of_below hb8)
  have hD8 := hD6.out.below hb8 hDl
  have hlD : declD.length = 8 := rfl
  have hL8 : RowsAt wvb.cell? 3 (.slice vla 7 vlc) ((declD.take k ++ declD.drop (k + 1)).map DD.row) := rows_of_owns hOb _ (by simp [hlD] <;> omega) (rows3 _) (by rw [List.map_append, List.flatten_append])
  replace hB8 := Lib.hid hB8
  replace hOx8 := Lib.hid hOx8
  replace hOs8 := Lib.hid hOs8
  replace hS8 := Lib.hid hS8
  replace hD8 := Lib.hid hD8
  replace hL8 := Lib.hid hL8
  clear hHeld hOa hb8 hal hwk hk7 hk8 hi hz0 hz1 hz2 hB7 hOx7 hOs7 hS7 hD6 hOb hDl hlD
  go_wp2_with fail
  refine (declared_any _).mono ?_
  rintro e w8 ⟨rfl, rfl⟩
  have hbE : Below wvb.heap.size wvb (wvb.alloc (.cells declArr 36)) := (Below.refl _ _).alloc (Nat.le_refl _) _
  have hE9 := Own.new wvb declArr 36
  have hEl : wvb.heap.size < (wvb.alloc (.cells declArr 36)).heap.size := by simp
  obtain ⟨q0, q1, q2⟩ := declArr_at k hk
  have e2 := (hE9.cell (k * 3 + 2)).trans q2
  have f2 := hE9.free (k * 3 + 2)
  clear q0 q1 q2
  replace hE9 := Lib.hid hE9
  replace hbE := Lib.hid hbE
  go_wp2_with fail
  generalize wvb.alloc (.cells declArr 36) = w9 at hE9 hbE hEl e2 f2 ⊢
  obtain ⟨E, hEe⟩ : ∃ g : Nat, Hid (g = wvb.heap.size) := ⟨_, Lib.hid rfl⟩
  rw [← hEe.out] at hE9 hbE hEl e2 f2 ⊢
  refine (mod_any t 5 _ (by omega) (by omega) ht0 ht1).mono ?_
  rintro e w10 ⟨⟨m, rfl, hm0, hm1⟩, rfl⟩
  have hEt := hE9.out.set (k * 3 + 2) (.int .i64 (1 + m))
  have hlE : wvb.heap.size ≤ E := Nat.le_of_eq hEe.out.symm
  have hbt0 : Below E wvb (w9.setCell ⟨E, k * 3 + 2, none⟩ (.int .i64 (1 + m))) := hbE.out.setCell (by simp) _
  have hbt := hbt0.mono hlE
  have hBt := hB8.out.trans (hbt.mono hB8.out.size)
  have hOxt := hOx8.out.below hbt hOx8.out.lt
  have hOst := hOs8.out.below hbt hOs8.out.lt
  have hSt := hS8.out.mono (sub_of_below hbt)
  have hSr := hSs.out.mono (sub_of_below hBt)
  have hTt := hT0.out.below hBt
  have hAt := decl_low (hD8.out.below hbt hD8.out.lt) 8 (by omega)
  have hLt := hL8.out.mono (sub_of_below hbt)
  have hOt := rows_of_own hEt 3 ((declD.set k ⟨(declD[k]'hk).kind, (declD[k]'hk).name, 1 + m⟩).map DD.row) (rows3 _) (decl_other k hk (1 + m)) 8 (by simp [declD]) (by decide)
  rw [show ((declD.set k ⟨(declD[k]'hk).kind, (declD[k]'hk).name, 1 + m⟩).map DD.row).length = 8 by simp [declD]] at hOt
  have hn1 : (k : Int) < 8 := by omega
  have hEl2 : E < (w9.setCell ⟨E, k * 3 + 2, none⟩ (.int .i64 (1 + m))).heap.size := by simpa using hEl
  replace hBt := Lib.hid hBt
  replace hOxt := Lib.hid hOxt
  replace hOst := Lib.hid hOst
  replace hSt := Lib.hid hSt
  replace hSr := Lib.hid hSr
  replace hTt := Lib.hid hTt
  replace hAt := Lib.hid hAt
  replace hLt := Lib.hid hLt
  replace hOt := Lib.hid hOt
  clear hEt hbt hbt0 hB8 hOx8 hOs8 hS8 hD8 hL8 hE9 hbE
  go_wp2_with fail
  have hsz10 : (w9.setCell ⟨E, k * 3 + 2, none⟩ (.int .i64 (1 + m))).heap.size = w9.heap.size := by simp
  generalize w9.setCell ⟨E, k * 3 + 2, none⟩ (.int .i64 (1 + m)) = w10 at hsz10 hBt hOxt hOst hSt hSr hTt hAt hLt hOt hEl2 ⊢
  have hba : Below w10.heap.size w10 (w10.alloc (.cells #[.slice (some ⟨D, 0, none⟩) 8 8, .slice vla 7 vlc, .slice (some ⟨E, 0, none⟩) 8 8] 30)) := (Below.refl _ _).alloc (Nat.le_refl _) _
  have hFb := Lib.hid (Own.new w10 #[.slice (some ⟨D, 0, none⟩) 8 8, .slice vla 7 vlc, .slice (some ⟨E, 0, none⟩) 8 8] 30)
  have hBa := Lib.hid (hBt.out.trans (hba.mono hBt.out.size))
  have hOxa := Lib.hid (hOxt.out.below hba hOxt.out.lt)
  have hOsa := Lib.hid (hOst.out.below hba hOst.out.lt)
  have hSxa := Lib.hid (hSt.out.mono (sub_of_below hba))
  have hSra := Lib.hid (hSr.out.mono (sub_of_below hba))
  have hTa := Lib.hid (hTt.out.below hba)
  have hF : Hid (∀ j, j < 3 → ∃ (la : Option Addr) (ln lc : Nat) (dl : List DD), (#[.slice (some ⟨D, 0, none⟩) 8 8, .slice vla 7 vlc, .slice (some ⟨E, 0, none⟩) 8 8] : Array Value)[j]? = some (.slice la ln lc) ∧ RowsAt (w10.alloc (.cells #[.slice (some ⟨D, 0, none⟩) 8 8, .slice vla 7 vlc, .slice (some ⟨E, 0, none⟩) 8 8] 30)).cell? 3 (.slice la ln lc) (dl.map DD.row)) := Lib.hid (by
    intro j hj
    rcases (show j = 0 ∨ j = 1 ∨ j = 2 by omega) with rfl | rfl | rfl
    · exact ⟨_, _, _, _, rfl, hAt.out.mono (sub_of_below hba)⟩
    · exact ⟨_, _, _, _, rfl, hLt.out.mono (sub_of_below hba)⟩
    · exact ⟨_, _, _, _, rfl, hOt.out.mono (sub_of_below hba)⟩)
  clear hba hBt hOxt hOst hSt hSr hTt hAt hLt hOt hEl2 hEl e2 f2
  generalize w10.alloc (.cells #[.slice (some ⟨D, 0, none⟩) 8 8, .slice vla 7 vlc, .slice (some ⟨E, 0, none⟩) 8 8] 30) = wa at hFb hBa hOxa hOsa hSxa hSra hTa hF ⊢
  rw [hsz10] at hFb
  obtain ⟨F, hFe⟩ : ∃ g : Nat, g = w9.heap.size := ⟨_, rfl⟩
  rw [← hFe] at hFb ⊢
  clear hFe hsz10
  have hnx := Lib.hid (okSub_nm9 hok.out)
  go_loopw [60] (fun s60 wr => ∃ j : Nat, j ≤ 3 ∧ s60 = .int .i64 j ∧ Hid (Below wa.heap.size wa wr)) (fun s60 _ => 3 - (intOf s60).toNat)
  case atStart => exact ⟨0, by omega, rfl, Lib.hid (Below.refl _ _)⟩
  case round =>
    obtain ⟨j, hj, rfl, hy⟩ := hrel
    have hBr := Lib.hid (hBa.out.trans (hy.out.mono hBa.out.size))
    by_cases hlt3 : j < 3
    case neg =>
      go_wp2
      go_ret
      exact ⟨rfl, hBr.out⟩
    obtain ⟨la, ln, lc, dl, hce, hRl⟩ := hF.out j hlt3
    have hFr := hFb.out.below hy.out hFb.out.lt
    have c0 := (hFr.cell j).trans hce
    have hfl := hFr.lt
    have hOxr := hOxa.out.below hy.out hOxa.out.lt
    have hOsr := hOsa.out.below hy.out hOsa.out.lt
    have x0 := hOxr.cell 0
    have y0 := hOsr.cell 0
    simp only [List.getElem?_toArray, List.getElem?_cons_zero] at x0 y0
    have hxl := hOxr.lt
    have hyl := hOsr.lt
    have n0 : (0 : Int) ≤ (j : Int) := by omega
    have n1 : (j : Int) < 3 := by omega
    have hbi : Below wr.heap.size wr (wr.alloc (.cells #[.slice va vn vc, .slice sa sn sc] 25)) := (Below.refl _ _).alloc (Nat.le_refl _) _
    have hyi := Lib.hid (hy.out.trans (hbi.mono hy.out.size))
    have hOi := Lib.hid (Own.new wr #[.slice va vn vc, .slice sa sn sc] 25)
    replace hRl := Lib.hid hRl
    clear hbi hFr hce hOxr hOsr
    go_wp2_with fail
    generalize wr.alloc (.cells #[.slice va vn vc, .slice sa sn sc] 25) = wi at hyi hOi ⊢
    obtain ⟨gq, hgq⟩ : ∃ g : Nat, g = wr.heap.size := ⟨_, rfl⟩
    rw [← hgq] at hOi ⊢
    clear hgq c0 hfl x0 y0 hxl hyl hy
    have hZ : Hid (∀ i, i < 2 → ∃ (za : Option Addr) (zn zc : Nat) (lz : List CT), (#[.slice va vn vc, .slice sa sn sc] : Array Value)[i]? = some (.slice za zn zc) ∧ SAt wa.cell? (.slice za zn zc) lz ∧ Nm lz) := Lib.hid (by
      intro i hi
      rcases (show i = 0 ∨ i = 1 by omega) with rfl | rfl
      · exact ⟨_, _, _, l, rfl, hSxa.out, hnx.out⟩
      · exact ⟨_, _, _, ls, rfl, hSra.out, hNs.out⟩)
    go_loopw [68] (fun s68 wq => ∃ i : Nat, i ≤ 2 ∧ s68 = .int .i64 i ∧ Hid (Below wi.heap.size wi wq)) (fun s68 _ => 2 - (intOf s68).toNat)
    case atStart => exact ⟨0, by omega, rfl, Lib.hid (Below.refl _ _)⟩
    case round =>
      obtain ⟨i, hi, rfl, hyq⟩ := hrel
      have hyb := Lib.hid (hyi.out.trans (hyq.out.mono hyi.out.size))
      by_cases hlt2 : i < 2
      case neg =>
        go_wp2
        go_roundw
        case rel => exact ⟨j + 1, by omega, by go_num, hyb⟩
        case measure => simp [intOf]; omega
      obtain ⟨za, zn, zc, lz, hce, hSz, hNz⟩ := hZ.out i hlt2
      have hOiq := hOi.out.below hyq.out hOi.out.lt
      have c0 := (hOiq.cell i).trans hce
      have hql := hOiq.lt
      have m0 : (0 : Int) ≤ (i : Int) := by omega
      have m1 : (i : Int) < 2 := by omega
      have hX : Own (wr.alloc (.cells #[.slice za zn zc] 25)) wr.heap.size #[.slice za zn zc] 25 := Own.new wr _ _
      have hbx : Below wr.heap.size wr (wr.alloc (.cells #[.slice za zn zc] 25)) := (Below.refl _ _).alloc (Nat.le_refl _) _
      have hyx := Lib.hid (hyq.out.trans (hbx.mono hyq.out.size))
      have hyw := hyb.out.trans (hbx.mono hyb.out.size)
      have b0 := hX.cell 0
      simp only [List.getElem?_toArray, List.getElem?_cons_zero] at b0
      have cK := Lib.hid (fun (dq : Nat) (os : Array Obj) => Calls.regrown_of (sub9_any dl (.slice la ln lc) lz za zn zc (Sort.grow (redrawn (wr.alloc (.cells #[.slice za zn zc] 25)) dq) os) (hRl.out.mono (sub_of_below (hyw.trans ((below_regrown _ dq os).mono hyw.size)))) (hSz.mono (sub_of_below (hyw.trans ((below_regrown _ dq os).mono hyw.size)))) (hTa.out.below (hyw.trans ((below_regrown _ dq os).mono hyw.size)))))
      have cR := Lib.hid (fun (dq : Nat) (os : Array Obj) => Calls.regrown_of (sub9_ref dl (.slice la ln lc) lz za zn zc (Sort.grow (redrawn (wr.alloc (.cells #[.slice za zn zc] 25)) dq) os) (hRl.out.mono (sub_of_below (hyw.trans ((below_regrown _ dq os).mono hyw.size)))) (hSz.mono (sub_of_below (hyw.trans ((below_regrown _ dq os).mono hyw.size)))) hNz (hTa.out.below (hyw.trans ((below_regrown _ dq os).mono hyw.size)))))
      generalize subjS dl lz = bb at cK cR
      have k0 := cell_regrown b0
      clear hce hSz hNz hOiq hX hbx hyw b0
      go_wp2_with fail
      refine wp_region_quiet_below (by kernel_rfl) (by kernel_rfl) ?_
      repeat (go_big_quiet_step (first | (with_reducible exact cK.out _ _) | (with_reducible exact cR.out _ _)))
      refine wpQuiet_nil ?_
      intro _ hw'
      obtain ⟨⟨dq, osq⟩, hw''⟩ := hw'
      subst hw''
      have hyz := Lib.hid (hyx.out.trans ((below_regrown (wr.alloc (.cells #[.slice za zn zc] 25)) dq osq).mono hyx.out.size))
      clear cK cR k0 c0
      generalize Sort.grow (redrawn _ dq) osq = wz at hyz ⊢
      go_wp2
      go_roundw
      case rel => exact ⟨i + 1, by omega, by go_num, hyz⟩
      case measure => simp [intOf]; omega

end Go.Proofs.YtamkmdlfhlbbeaaDoor.subj

