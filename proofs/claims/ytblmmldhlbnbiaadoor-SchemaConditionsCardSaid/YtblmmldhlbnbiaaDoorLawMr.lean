/- SchemaMore: the walk. -/
import Derived.Test.YtblmmldhlbnbiaaDoorLawA
import Derived.Test.YtblmmldhlbnbiaaDoorDrawA
import Derived.Test.YtblmmldhlbnbiaaDoorDraw7
import Derived.Test.YtblmmldhlbnbiaaDoorSchMore
namespace Go.Proofs.YtblmmldhlbnbiaaDoor.law
open Go.RowKit Go.Proofs.YtblmmldhlbnbiaaDoor.schema Go.Proofs.YtblmmldhlbnbiaaDoor.draw

theorem newM_off (B b : Nat) (w : World) : Off b (newM B b w) := by
  intro p v hp
  unfold newM at hp
  split at hp
  · cases hp
  · rename_i h
    exact fun e => h (Or.inr e)
theorem alpha_rows {w : World} {g b : Nat} (h : Own w g #[.string ⟨#[97, 108, 112, 104, 97]⟩] 9) (hb : g ≠ b) : RowsAt (but b w) 1 (.slice (some ⟨g, 0, none⟩) 1 1) (([⟨#[97, 108, 112, 104, 97]⟩] : List ByteArray).map strRow) :=
  rows_in (rows_of_own h 1 (([⟨#[97, 108, 112, 104, 97]⟩] : List ByteArray).map strRow) (by simp [strRow]) rfl 1 (by simp) (by decide)) (fun n hn p hp => by
    have e : g = n := by simpa [Value.ownBlock] using hn
    unfold but
    rw [if_neg (by rw [hp, ← e]; exact hb)])

theorem infoD : (Tryd.prog.info? 41).map (fun i => (i.zero, i.size, i.bytes)) = some (some (.agg #[.string ⟨#[]⟩, .string ⟨#[]⟩, .int .i64 0]), 3, 40) := by kernel_rfl
theorem declD_one : ∀ v ∈ (declD.map DD.row).flatten, v.oneCell' = true := by
  intro v hv
  obtain ⟨r, hr, hv⟩ := List.mem_flatten.1 hv
  obtain ⟨d, -, rfl⟩ := List.mem_map.1 hr
  simp only [DD.row, List.mem_cons, List.not_mem_nil, or_false] at hv
  rcases hv with rfl | rfl | rfl <;> rfl

set_option maxRecDepth 100000 in
set_option maxHeartbeats 16000000 in
theorem more_walk (a : Option Addr) (n c : Nat) (kind name seg : ByteArray) (w : World) (h : BytesAt w.cell? a n c) (hg : ∀ b, w.heap.size ≤ b → Glob (but b w)) :
    Calls Tryd.prog 5 #[.slice a n c, .string kind, .string name, .string seg] w fun e w' => e = .returned (.bool true) ∧ Below w.heap.size w w' := by
  have hA := Lib.hid h
  have hg0 := Lib.hid hg
  clear h hg
  go_enter Tryd.func5, Tryd.ntmps5
  go_wp2_with fail
  refine (awake_any _).mono ?_
  rintro e w1 ⟨rfl, hb1⟩
  have hB1 := Lib.hid hb1
  clear hb1
  go_wp2_with fail
  refine (new_any a n c 120 _ (by omega) (by omega) (hA.out.mono (sub_of_below hB1.out))).mono ?_
  rintro e w2 ⟨rfl, ⟨a', n', c', hC⟩, hb2⟩
  have hsz : w.heap.size ≤ w1.heap.size := hB1.out.size
  have hlt := hC.lt
  have hB2 := Lib.hid (hB1.out.trans (hb2.mono hsz))
  have hC2 := Lib.hid hC
  have hg2 := Lib.hid ((hg0.out w1.heap.size hsz).mono (sub_of_grown (grown_of_below ((hB1.out.trans (hb2.mono hsz)).mono (Nat.le_refl _)) _)))
  clear hC hb2
  go_wp2_with fail
  refine (declared_any _).mono ?_
  rintro e w3 ⟨rfl, rfl⟩
  go_wp2_with fail
  have e3 : (w2.alloc (.cells declArr 41)).heap.size = w2.heap.size + 1 := by simp
  have hS3 := Own.new (w2.alloc (.cells declArr 41)) #[.string ⟨#[97, 108, 112, 104, 97]⟩] 9
  rw [e3] at hS3
  have hD3 := (Own.new w2 declArr 41).alloc (.cells #[.string ⟨#[97, 108, 112, 104, 97]⟩] 9)
  have hG3 : w2.grownBy ((w2.alloc (.cells declArr 41)).alloc (.cells #[.string ⟨#[97, 108, 112, 104, 97]⟩] 9)) (some w1.heap.size) := g_alloc (g_alloc (grown_refl _ _) _) _
  have hC3 := hC2.out.still hG3 ((hC2.out.1.alloc _).alloc _)
  have hg3 := hg2.out.mono (sub_of_grown hG3)
  have hB3 := (hB2.out.alloc hB2.out.size (.cells declArr 41)).alloc (by have := hB2.out.size; simp; omega) (.cells #[.string ⟨#[97, 108, 112, 104, 97]⟩] 9)
  generalize (w2.alloc (.cells declArr 41)).alloc (.cells _ 9) = w3 at hS3 hD3 hG3 hC3 hg3 hB3 ⊢
  clear e3 hC2 hg2 hB2
  refine (dexpr_any w1.heap.size a' n' c' _ [⟨#[97, 108, 112, 104, 97]⟩] (by simp) 3 3 w3 (by omega) (by omega) (by omega) hC3 hg3 (alpha_rows hS3 (by omega))).mono ?_
  rintro e w4 ⟨⟨d, op, kd, nm, va, vn, vc, ka, kn, kc, rfl, hE, hF⟩, hH, hG⟩
  have hC4 := hC3.still hG hH
  have hg4 := hg3.mono (sub_of_grown hG)
  have hD4 := Lib.hid (hD3.kept hG (by simp; omega))
  have hB4 := Lib.hid (hB3.trans (below_of_grown hG hB3.size hsz))
  clear hC3 hg3 hD3 hB3 hG hH hS3 hG3
  have hcall := Lib.hid (cond_any w1.heap.size a' n' c' 4 (by omega) (newM w3.heap.size w1.heap.size w4) (newM_off _ _ _) hE hF.2 w4 hC4 hg4 ((newM_but _ _ _).trans (but_sub _ _)))
  go_wp2_with fail
  refine hcall.out.mono ?_
  rintro e w5 ⟨⟨M', d', op', kd', nm', va', vn', vc', ka', kn', kc', rfl, -, hsub, hob, hE'⟩, hH5, hG5⟩
  have hC5 := hC4.still hG5 hH5
  have hg5 := hg4.mono (sub_of_grown hG5)
  have hD5 := hD4.out.kept hG5 (by simp; omega)
  have hB5 := hB4.out.trans (below_of_grown hG5 hB4.out.size hsz)
  have hbx5 : w1.heap.size < w5.heap.size := hC5.lt
  have hX6 : Own ((w5.alloc (.cells #[.int .i64 op', .string kd', .string nm', .slice va' vn' vc', .slice ka' kn' kc'] 26)).alloc (.cells #[.string ⟨#[97, 108, 112, 104, 97]⟩] 9)) w5.heap.size #[.int .i64 op', .string kd', .string nm', .slice va' vn' vc', .slice ka' kn' kc'] 26 := (Own.new w5 #[.int .i64 op', .string kd', .string nm', .slice va' vn' vc', .slice ka' kn' kc'] 26).alloc _
  have hS6 := Own.new (w5.alloc (.cells #[.int .i64 op', .string kd', .string nm', .slice va' vn' vc', .slice ka' kn' kc'] 26)) #[.string ⟨#[97, 108, 112, 104, 97]⟩] 9
  rw [show (w5.alloc (.cells #[.int .i64 op', .string kd', .string nm', .slice va' vn' vc', .slice ka' kn' kc'] 26)).heap.size = w5.heap.size + 1 by simp] at hS6
  have hD6 : Own ((w5.alloc (.cells #[.int .i64 op', .string kd', .string nm', .slice va' vn' vc', .slice ka' kn' kc'] 26)).alloc (.cells #[.string ⟨#[97, 108, 112, 104, 97]⟩] 9)) w2.heap.size declArr 41 := (hD5.alloc _).alloc _
  have hsub6 : Sub M' ((w5.alloc (.cells #[.int .i64 op', .string kd', .string nm', .slice va' vn' vc', .slice ka' kn' kc'] 26)).alloc (.cells #[.string ⟨#[97, 108, 112, 104, 97]⟩] 9)).cell? := sub_alloc (sub_alloc hsub _) _
  have hB6 : Below w.heap.size w ((w5.alloc (.cells #[.int .i64 op', .string kd', .string nm', .slice va' vn' vc', .slice ka' kn' kc'] 26)).alloc (.cells #[.string ⟨#[97, 108, 112, 104, 97]⟩] 9)) := (hB5.alloc hB5.size _).alloc (by have := hB5.size; simp; omega) _
  have hG6 : w5.grownBy ((w5.alloc (.cells #[.int .i64 op', .string kd', .string nm', .slice va' vn' vc', .slice ka' kn' kc'] 26)).alloc (.cells #[.string ⟨#[97, 108, 112, 104, 97]⟩] 9)) (some w1.heap.size) := g_alloc (g_alloc (grown_refl _ _) _) _
  have hC6 := hC5.still hG6 ((hC5.1.alloc _).alloc _)
  have hg6 := hg5.mono (sub_of_grown hG6)
  clear hC4 hg4 hD4 hB4 hG5 hH5 hcall hsub hC5 hg5 hD5 hB5 hG6
  obtain ⟨p0, p1, p2, p3, p4, -⟩ := own5 hX6
  replace hX6 := Lib.hid hX6
  replace hS6 := Lib.hid hS6
  replace hD6 := Lib.hid hD6
  replace hsub6 := Lib.hid hsub6
  replace hB6 := Lib.hid hB6
  replace hC6 := Lib.hid hC6
  replace hg6 := Lib.hid hg6
  replace hE' := Lib.hid hE'
  go_wp2_with fail
  generalize (w5.alloc (.cells _ 26)).alloc (.cells _ 9) = w6 at hX6 hS6 hD6 hsub6 hB6 hC6 hg6 ⊢
  clear p0 p1 p2 p3 p4
  have hd6 : RowsAt w6.cell? 3 (.slice (some ⟨w2.heap.size, 0, none⟩) 8 8) (declD.map DD.row) := rows_of_own hD6.out 3 (declD.map DD.row) (by intro r hr; obtain ⟨d, -, rfl⟩ := List.mem_map.1 hr; rfl) (by rfl) 8 (by decide) (by decide)
  have hs6 : RowsAt w6.cell? 1 (.slice (some ⟨w5.heap.size + 1, 0, none⟩) 1 1) (([⟨#[97, 108, 112, 104, 97]⟩] : List ByteArray).map strRow) := rows_of_own hS6.out 1 (([⟨#[97, 108, 112, 104, 97]⟩] : List ByteArray).map strRow) (by simp [strRow]) rfl 1 (by simp) (by decide)
  refine (expr_any declD [⟨#[97, 108, 112, 104, 97]⟩] _ _ w6.cell? hd6 hs6 _ _ (hE'.out.mono hsub6.out) w6 (Sub.refl _)).mono ?_
  rintro e w7 ⟨rfl, hb7⟩
  have hB7 := Lib.hid (hB6.out.trans (hb7.mono hB6.out.size))
  by_cases h0 : exprS declD [⟨#[97, 108, 112, 104, 97]⟩] d' = 0
  case neg =>
    have h1 : (exprS declD [⟨#[97, 108, 112, 104, 97]⟩] d' != 0) = true := by simpa using h0
    go_wp2
    go_ret
    exact ⟨rfl, hB7.out⟩
  rw [h0]
  replace hd6 := Lib.hid hd6
  replace hb7 := Lib.hid hb7
  clear hs6
  go_wp2_with fail
  refine (type_any _ declD kind name w7 (hd6.out.mono (sub_of_below hb7.out))).mono ?_
  rintro e w8 ⟨rfl, hb8⟩
  have hB8 := Lib.hid (hB7.out.trans (hb8.mono hB7.out.size))
  have hb68 := Lib.hid (hb7.out.trans (hb8.mono hb7.out.size))
  clear hB7 hb7 hb8
  have hd8 := Lib.hid (hd6.out.mono (sub_of_below hb68.out))
  have hX8 := Lib.hid (hX6.out.below hb68.out hX6.out.lt)
  have hs8 := Lib.hid (hsub6.out.trans (sub_of_below hb68.out))
  have hC8 := Lib.hid (hC6.out.still (grown_of_below hb68.out _) (hC6.out.1.below hb68.out hC6.out.lt))
  have hD8 := Lib.hid (hD6.out.below hb68.out hD6.out.lt)
  clear hd6 hX6 hsub6 hC6 hD6 hS6 hB6 hg6
  by_cases ht : typeOf kind.toList name.toList declD = 0
  case pos =>
    rw [ht]
    obtain ⟨i0, hi, hz0, hz1, hz2⟩ := info_parts infoD
    go_wp2_with fail
    refine (next_any w1.heap.size a' n' c' _ 5 (by omega) (by omega) hC8.out).mono ?_
    rintro e w9 ⟨⟨q, rfl, hq0, hq1⟩, hH, hG⟩
    have hoff9 : Off w9.heap.size M' := off_new hs8.out hG.size
    have hD9 := (hD8.out.kept hG (by simp; omega)).alloc (.cells #[.string kind, .string name, .int .i64 (1 + q)] 41)
    have hX9 := Lib.hid ((hX8.out.kept hG (by simp; omega)).alloc (.cells #[.string kind, .string name, .int .i64 (1 + q)] 41))
    have hs9 := Lib.hid (sub_alloc (sub_grow hs8.out hG (fun k e => by injection e with e; subst e; exact hob)) (.cells #[.string kind, .string name, .int .i64 (1 + q)] 41))
    have hB9 := Lib.hid ((hB8.out.trans (below_of_grown hG hB8.out.size hsz)))
    have hB10 := Lib.hid (hB9.out.alloc hB9.out.size (.cells #[.string kind, .string name, .int .i64 (1 + q)] 41))
    have hlit := Lib.hid (World.ownsRow_lit (base := w9.heap.size) (e := 41) (size := 3) w9 #[.string kind, .string name, .int .i64 (1 + q)] 1 (Nat.le_refl _) (by decide) rfl)
    have hd9 := Lib.hid (rows_of_own hD9 3 (declD.map DD.row) (by intro r hr; obtain ⟨d, -, rfl⟩ := List.mem_map.1 hr; rfl) (by rfl) 8 (by decide) (by decide))
    have h59 : w5.heap.size < w9.heap.size := by have h1 := hX8.out.lt; have h2 := hG.size; omega
    clear hD9 hD8 hH hG
    go_wp2_with (at_builtin; refine wpList_append_rows rfl _ _ 30 rfl w9.heap.size 41 i0 (.agg #[.string ⟨#[]⟩, .string ⟨#[]⟩, .int .i64 0]) 3 40 Tryd.underlying30 hi hz0 hz1 hz2 rfl (by decide) _ 1 _ rfl hlit.out _ 8 8 (declD.map DD.row) _ rfl hd9.out (Sub.refl _) (by intro r hr; obtain ⟨d, -, rfl⟩ := List.mem_map.1 hr; rfl) declD_one (by decide) (by decide) (by simp) ?_; intro v11 w11 hown hgrow; obtain ⟨g, cap, rfl, hgb⟩ := own_row hown (by omega); have hgr : (w9.alloc (.cells #[.string kind, .string name, .int .i64 (1 + q)] 41)).grownBy w11 (some w9.heap.size) := hgrow; replace hgr := Lib.hid hgr; clear hgrow; have hX10 := Lib.hid (hX9.out.kept hgr.out (by intro e; injection e with e; omega)); have hs10 := Lib.hid (sub_grow hs9.out hgr.out (fun k e => by injection e with e; subst e; exact hoff9)); have hB11 := Lib.hid (hB10.out.trans (below_of_grown hgr.out hB10.out.size hB9.out.size)); replace hown := Lib.hid hown; clear hX9 hs9 hd9 hgr; obtain ⟨p0, p1, p2, p3, p4, -⟩ := own5 hX10.out; have hxl : w5.heap.size < w11.heap.size := hX10.out.lt; fail_if_success done)
    have hrw : RowsAt w11.cell? 3 (.slice (some ⟨g, 0, none⟩) 9 cap) (((⟨kind, name, 1 + q⟩ : DD) :: declD).map DD.row) := rows_of_owns hown.out (((⟨kind, name, 1 + q⟩ : DD) :: declD).map DD.row) (by rfl) (by intro r hr; obtain ⟨d, -, rfl⟩ := List.mem_map.1 hr; rfl) (by rfl)
    have hs12 : RowsAt (w11.alloc (.cells #[.string seg, .string ⟨#[97, 108, 112, 104, 97]⟩, .string ⟨#[98, 101, 116, 97]⟩] 9)).cell? 1 (.slice (some ⟨w11.heap.size, 0, none⟩) 3 3) (([seg, ⟨#[97, 108, 112, 104, 97]⟩, ⟨#[98, 101, 116, 97]⟩] : List ByteArray).map strRow) := rows_of_own (Own.new w11 #[.string seg, .string ⟨#[97, 108, 112, 104, 97]⟩, .string ⟨#[98, 101, 116, 97]⟩] 9) 1 (([seg, ⟨#[97, 108, 112, 104, 97]⟩, ⟨#[98, 101, 116, 97]⟩] : List ByteArray).map strRow) (by simp [strRow]) rfl 3 (by simp) (by decide)
    refine (expr_any ((⟨kind, name, 1 + q⟩ : DD) :: declD) [seg, ⟨#[97, 108, 112, 104, 97]⟩, ⟨#[98, 101, 116, 97]⟩] _ _ (w11.alloc (.cells #[.string seg, .string ⟨#[97, 108, 112, 104, 97]⟩, .string ⟨#[98, 101, 116, 97]⟩] 9)).cell? (hrw.mono (sub_alloc (Sub.refl _) _)) hs12 _ _ (hE'.out.mono (sub_alloc hs10.out _)) (w11.alloc (.cells #[.string seg, .string ⟨#[97, 108, 112, 104, 97]⟩, .string ⟨#[98, 101, 116, 97]⟩] 9)) (Sub.refl _)).mono ?_
    rintro e w12 ⟨rfl, hb12⟩
    have h9 : exprS ((⟨kind, name, 1 + q⟩ : DD) :: declD) [seg, ⟨#[97, 108, 112, 104, 97]⟩, ⟨#[98, 101, 116, 97]⟩] d' = 0 := expr_more (fun x hx => by simp only [hasS, Bool.or_false, Bool.or_eq_true] at hx ⊢; exact Or.inr (Or.inl hx)) (type_more ht) d' h0
    rw [h9]
    have hB12 := Lib.hid ((hB11.out.alloc hB11.out.size (.cells #[.string seg, .string ⟨#[97, 108, 112, 104, 97]⟩, .string ⟨#[98, 101, 116, 97]⟩] 9)).trans (hb12.mono (by have := hB11.out.size; simp; omega)))
    clear hs12 hb12 hrw
    go_wp2
    go_ret
    exact ⟨rfl, hB12.out⟩
  case neg =>
    have ht1 : (typeOf kind.toList name.toList declD == 0) = false := by simpa using ht
    obtain ⟨p0, p1, p2, p3, p4, -⟩ := own5 hX8.out
    have hxl : w5.heap.size < w8.heap.size := hX8.out.lt
    go_wp2_with fail
    have hs9 : RowsAt (w8.alloc (.cells #[.string seg, .string ⟨#[97, 108, 112, 104, 97]⟩, .string ⟨#[98, 101, 116, 97]⟩] 9)).cell? 1 (.slice (some ⟨w8.heap.size, 0, none⟩) 3 3) (([seg, ⟨#[97, 108, 112, 104, 97]⟩, ⟨#[98, 101, 116, 97]⟩] : List ByteArray).map strRow) := rows_of_own (Own.new w8 #[.string seg, .string ⟨#[97, 108, 112, 104, 97]⟩, .string ⟨#[98, 101, 116, 97]⟩] 9) 1 (([seg, ⟨#[97, 108, 112, 104, 97]⟩, ⟨#[98, 101, 116, 97]⟩] : List ByteArray).map strRow) (by simp [strRow]) rfl 3 (by simp) (by decide)
    refine (expr_any declD [seg, ⟨#[97, 108, 112, 104, 97]⟩, ⟨#[98, 101, 116, 97]⟩] _ _ (w8.alloc (.cells #[.string seg, .string ⟨#[97, 108, 112, 104, 97]⟩, .string ⟨#[98, 101, 116, 97]⟩] 9)).cell? (hd8.out.mono (sub_alloc (Sub.refl _) _)) hs9 _ _ (hE'.out.mono (sub_alloc hs8.out _)) (w8.alloc (.cells #[.string seg, .string ⟨#[97, 108, 112, 104, 97]⟩, .string ⟨#[98, 101, 116, 97]⟩] 9)) (Sub.refl _)).mono ?_
    rintro e w9 ⟨rfl, hb9⟩
    have h9 : exprS declD [seg, ⟨#[97, 108, 112, 104, 97]⟩, ⟨#[98, 101, 116, 97]⟩] d' = 0 := expr_more (fun x hx => by simp only [hasS, Bool.or_false, Bool.or_eq_true] at hx ⊢; exact Or.inr (Or.inl hx)) (fun _ _ _ => rfl) d' h0
    rw [h9]
    have hB9 := Lib.hid ((hB8.out.alloc hB8.out.size (.cells #[.string seg, .string ⟨#[97, 108, 112, 104, 97]⟩, .string ⟨#[98, 101, 116, 97]⟩] 9)).trans (hb9.mono (by have := hB8.out.size; simp; omega)))
    clear hs9 hb9
    go_wp2
    go_ret
    exact ⟨rfl, hB9.out⟩

end Go.Proofs.YtblmmldhlbnbiaaDoor.law
