/- The law ValueOrder: Compare is a total order on the valid values of one kind. -/
import Derived.Test.YtpildefkhlejgaaDoorValX
import Derived.Lib.QuietBelow
import Derived.IntWalk
namespace Go.Proofs.YtpildefkhlejgaaDoor.law
open Go.RowKit Go.Proofs.YtpildefkhlejgaaDoor Go.Proofs.YtpildefkhlejgaaDoor.text Go.Proofs.YtpildefkhlejgaaDoor.value Go.Proofs.YtpildefkhlejgaaDoor.draw

/-- Three values without lists, one behind another. -/
def cells12 (K n0 n1 n2 : Int) (t0 t1 t2 : ByteArray) : Array Value :=
  #[.int .i64 K, .int .i64 n0, .string t0, .slice none 0 0, .int .i64 K, .int .i64 n1, .string t1, .slice none 0 0, .int .i64 K, .int .i64 n2, .string t2, .slice none 0 0]
theorem own12 {w : World} {A : Nat} {K n0 n1 n2 : Int} {t0 t1 t2 : ByteArray} {t : TypeId} (h : Own w A (cells12 K n0 n1 n2 t0 t1 t2) t) :
    (w.cell? ⟨A, 0, none⟩ = some (.int .i64 K) ∧ w.cell? ⟨A, 1, none⟩ = some (.int .i64 n0) ∧ w.cell? ⟨A, 2, none⟩ = some (.string t0) ∧ w.cell? ⟨A, 3, none⟩ = some (.slice none 0 0)) ∧
    (w.cell? ⟨A, 4, none⟩ = some (.int .i64 K) ∧ w.cell? ⟨A, 5, none⟩ = some (.int .i64 n1) ∧ w.cell? ⟨A, 6, none⟩ = some (.string t1) ∧ w.cell? ⟨A, 7, none⟩ = some (.slice none 0 0)) ∧
    (w.cell? ⟨A, 8, none⟩ = some (.int .i64 K) ∧ w.cell? ⟨A, 9, none⟩ = some (.int .i64 n2) ∧ w.cell? ⟨A, 10, none⟩ = some (.string t2) ∧ w.cell? ⟨A, 11, none⟩ = some (.slice none 0 0)) :=
  ⟨⟨h.cell 0, h.cell 1, h.cell 2, h.cell 3⟩, ⟨h.cell 4, h.cell 5, h.cell 6, h.cell 7⟩, ⟨h.cell 8, h.cell 9, h.cell 10, h.cell 11⟩⟩
theorem cmp_flat {K n m : Int} {s t : ByteArray} {x : Int} (hx : cmpR ⟨K, n, s.data.toList, []⟩ ⟨K, m, t.data.toList, []⟩ = .tuple #[.int .i64 x, .int .i64 0]) (w : World) (hs : s.size ≤ 200) (ht : t.size ≤ 200) (hT : Tabs w) :
    Calls Tryd.prog 23 #[.agg #[.int .i64 K, .int .i64 n, .string s, .slice none 0 0], .agg #[.int .i64 K, .int .i64 m, .string t, .slice none 0 0]] w fun e w' => e = .returned (.tuple #[.int .i64 x, .int .i64 0]) ∧ Below w.heap.size w w' := by
  rw [← hx]
  exact compare_any ⟨K, n, s.data.toList, []⟩ ⟨K, m, t.data.toList, []⟩ s t none none 0 0 [] [] w ⟨rfl, Or.inl rfl, rfl⟩ ⟨rfl, Or.inl rfl, rfl⟩ (by simp) (by simp) (by omega) (by omega) hT
theorem pieces_draw {u w : World} {b : Nat} (h : DrawTabs u.cell?) (hb : u.heap.size ≤ b) (hw : Below u.heap.size u w) : DrawTabs (but b w) :=
  (h.mono (sub_but u b hb)).mono (sub_of_grown (grown_of_below hw (some b)))
theorem num_zero {n : Int} {t : ByteArray} (h : checkS ⟨4, n, t.data.toList, []⟩ = 0) : n = 0 := by
  have := shape_of h
  unfold shapeS at this
  simpa using this
/-- The ways in which the three answers may stand. -/
theorem last_ways {x y z : Int} (h : x ≤ 0 → y ≤ 0 → z < 0 ∨ (z = 0 ∧ x = 0 ∧ y = 0)) :
    (0 < x ∧ (x == 0) = false) ∨ (x < 0 ∧ (x == 0) = false ∧ 0 < y) ∨ (x = 0 ∧ 0 < y) ∨ (x < 0 ∧ (x == 0) = false ∧ y ≤ 0 ∧ z < 0) ∨ (x = 0 ∧ y ≤ 0 ∧ z < 0) ∨ (x = 0 ∧ y = 0 ∧ z = 0) := by
  rcases (show 0 < x ∨ x < 0 ∨ x = 0 by omega) with h1 | h1 | h1
  · exact Or.inl ⟨h1, by simp; omega⟩
  · by_cases h2 : 0 < y
    · exact Or.inr (Or.inl ⟨h1, by simp; omega, h2⟩)
    · rcases h (by omega) (by omega) with h3 | h3
      · exact Or.inr (Or.inr (Or.inr (Or.inl ⟨h1, by simp; omega, by omega, h3⟩)))
      · omega
  · by_cases h2 : 0 < y
    · exact Or.inr (Or.inr (Or.inl ⟨h1, h2⟩))
    · rcases h (by omega) (by omega) with h3 | h3
      · exact Or.inr (Or.inr (Or.inr (Or.inr (Or.inl ⟨h1, by omega, h3⟩))))
      · exact Or.inr (Or.inr (Or.inr (Or.inr (Or.inr ⟨h1, h3.2.2, h3.1⟩))))
theorem ver_text {a b c : Int} {u1 u2 u3 : ByteArray} (h1 : u1 = ⟨(Lib.itoa a).toArray⟩) (h2 : u2 = ⟨(Lib.itoa b).toArray⟩) (h3 : u3 = ⟨(Lib.itoa c).toArray⟩) : (u1 ++ ⟨#[46]⟩ ++ u2 ++ ⟨#[46]⟩ ++ u3).data.toList = ver3 a b c := by
  rw [h1, h2, h3]
  simp [ByteArray.data_append, ver3]
theorem itoa_size {n : Int} (h : 0 ≤ n) (h2 : n ≤ 999999) : (⟨(Lib.itoa n).toArray⟩ : ByteArray).size ≤ 6 := by
  show (Lib.itoa n).toArray.size ≤ 6
  have := itoa_short h h2
  simpa using this

set_option maxRecDepth 100000 in
set_option maxHeartbeats 4000000 in
theorem order_walk (kind p q r : Int) (a : Option Addr) (n c : Nat) (w : World) (hk0 : -9223372036854775808 ≤ kind) (hk1 : kind ≤ 9223372036854775807) (hp : -9223372036854775808 ≤ p ∧ p ≤ 9223372036854775807) (hq : -9223372036854775808 ≤ q ∧ q ≤ 9223372036854775807) (hr : -9223372036854775808 ≤ r ∧ r ≤ 9223372036854775807)
    (hC : BytesAt w.cell? a n c) (hT : Tabs w) (hD : DrawTabs w.cell?) :
    Calls Tryd.prog 9 #[.int .i64 kind, .slice a n c, .int .i64 p, .int .i64 q, .int .i64 r] w fun e w' => e = .returned (.bool true) ∧ Below w.heap.size w w' := by
  replace hT := Lib.hid hT
  replace hD := Lib.hid hD
  replace hC := Lib.hid hC
  replace hp := Lib.hid hp
  replace hq := Lib.hid hq
  replace hr := Lib.hid hr
  obtain ⟨m, hm⟩ : ∃ m, Hid (m = kind % 3) := ⟨_, rfl⟩
  have hm0 : 0 ≤ m := by rw [hm.out]; omega
  have hm1 : m < 3 := by rw [hm.out]; omega
  go_enter Tryd.func9, Tryd.ntmps9
  go_wp2_with fail
  refine (awake_any _ hT.out).mono ?_
  rintro e w1 ⟨rfl, hb1⟩
  replace hb1 := Lib.hid hb1
  go_wp2_with fail
  refine (mod_eq kind 3 _ (by omega) (by omega) hk0 hk1).mono ?_
  rintro e w2 ⟨rfl, rfl⟩
  rw [← hm.out]
  obtain ⟨K, hKe⟩ : ∃ K, 2 + m = K := ⟨_, rfl⟩
  have hK3 : K = 2 ∨ K = 3 ∨ K = 4 := by omega
  replace hK3 := Lib.hid hK3
  go_wp2_with fail
  replace hKe := Lib.hid hKe
  refine (new_any a n c 20 _ (by omega) (by omega) (hC.out.mono (sub_of_below hb1.out))).mono ?_
  rintro e w3 ⟨rfl, ⟨ca, cn, cc, hCo⟩, hb3⟩
  have hB3 := Lib.hid (hb1.out.trans (hb3.mono hb1.out.size))
  have hbl := Lib.hid hb1.out.size
  replace hCo := Lib.hid hCo
  generalize w2.heap.size = b at hCo hbl ⊢
  clear hb3 hb1
  go_wp2_with fail
  refine (dvalue_any K hK3.out b ca cn cc _ hCo.out (pieces_draw hD.out hbl.out hB3.out)).mono ?_
  rintro e w4 ⟨⟨n0, t0, rfl, hv0, hz0⟩, hH4, hg4⟩
  have hC4 := Lib.hid (hCo.out.still hg4 hH4)
  have hB4 := Lib.hid (hB3.out.trans (below_of_grown hg4 hB3.out.size hbl.out))
  replace hv0 := Lib.hid hv0
  clear hH4 hg4 hCo hB3
  go_wp2_with fail
  refine (dvalue_any K hK3.out b ca cn cc _ hC4.out (pieces_draw hD.out hbl.out hB4.out)).mono ?_
  rintro e w5 ⟨⟨n1, t1, rfl, hv1, hz1⟩, hH5, hg5⟩
  have hC5 := Lib.hid (hC4.out.still hg5 hH5)
  have hB5 := Lib.hid (hB4.out.trans (below_of_grown hg5 hB4.out.size hbl.out))
  replace hv1 := Lib.hid hv1
  clear hH5 hg5 hC4 hB4
  go_wp2_with fail
  refine (dvalue_any K hK3.out b ca cn cc _ hC5.out (pieces_draw hD.out hbl.out hB5.out)).mono ?_
  rintro e w6 ⟨⟨n2, t2, rfl, hv2, hz2⟩, hH6, hg6⟩
  have hB6 := Lib.hid (hB5.out.trans (below_of_grown hg6 hB5.out.size hbl.out))
  replace hv2 := Lib.hid hv2
  have hO6 := Lib.hid (Own.new w6 (cells12 K n0 n1 n2 t0 t1 t2) 49)
  have hB7 := Lib.hid (hB6.out.alloc hB6.out.size (.cells (cells12 K n0 n1 n2 t0 t1 t2) 49))
  have hAw := hB6.out.size
  clear hH6 hg6 hC5 hB5 hC hbl
  rcases hK3.out with rfl | rfl | rfl
  · obtain ⟨x, y, z, u, hF⟩ := ord_num hv0.out hv1.out hv2.out
    obtain rfl : u = -x := hF.neg
    replace hF := Lib.hid hF
    have hO := Lib.hid (show Own (w6.alloc (.cells (cells12 2 n0 n1 n2 t0 t1 t2) 49)) w6.heap.size _ _ from hO6.out)
    have hB := Lib.hid (show Below w.heap.size w (w6.alloc (.cells (cells12 2 n0 n1 n2 t0 t1 t2) 49)) from hB7.out)
    clear hO6 hB7 hB6
    go_wp2_with fail
    unfold cells12 at hO hB
    generalize World.alloc w6 (.cells _ 49) = wa at hO hB ⊢
    generalize w6.heap.size = A at hO hAw ⊢
    change Hid (Own wa A (cells12 2 n0 n1 n2 t0 t1 t2) _) at hO
    obtain ⟨⟨a0, a1, a2, a3⟩, ⟨b0, b1, b2, b3⟩, ⟨d0, d1, d2, d3⟩⟩ := own12 hO.out
    have ka0 := cell_regrown a0
    have ka1 := cell_regrown a1
    have ka2 := cell_regrown a2
    have ka3 := cell_regrown a3
    have kb0 := cell_regrown b0
    have kb1 := cell_regrown b1
    have kb2 := cell_regrown b2
    have kb3 := cell_regrown b3
    have cK := Lib.hid (fun (dq : Nat) (os : Array Obj) => Calls.regrown_of (cmp_flat hF.out.h01 (Sort.grow (redrawn wa dq) os) hz0 hz1 (hT.out.below (hB.out.trans ((below_regrown wa dq os).mono hB.out.size)))))
    clear a0 a1 a2 a3 b0 b1 b2 b3 d0 d1 d2 d3
    go_wp2_with fail
    refine wp_region_quiet_below (by kernel_rfl) (by kernel_rfl) ?_
    repeat (go_big_quiet_step (exact cK.out _ _))
    refine wpQuiet_nil ?_
    intro _ hw'
    obtain ⟨⟨dq, osq⟩, hw''⟩ := hw'
    subst hw''
    replace hO := Lib.hid (hO.out.below (below_regrown wa dq osq) hO.out.lt)
    replace hB := Lib.hid (hB.out.trans ((below_regrown wa dq osq).mono hB.out.size))
    generalize Sort.grow (redrawn wa dq) osq = v1 at hO hB ⊢
    clear cK ka0 ka1 ka2 ka3 kb0 kb1 kb2 kb3
    obtain ⟨⟨a0, a1, a2, a3⟩, ⟨b0, b1, b2, b3⟩, ⟨d0, d1, d2, d3⟩⟩ := own12 hO.out
    have ka0 := cell_regrown b0
    have ka1 := cell_regrown b1
    have ka2 := cell_regrown b2
    have ka3 := cell_regrown b3
    have kb0 := cell_regrown d0
    have kb1 := cell_regrown d1
    have kb2 := cell_regrown d2
    have kb3 := cell_regrown d3
    have cK := Lib.hid (fun (dq : Nat) (os : Array Obj) => Calls.regrown_of (cmp_flat hF.out.h12 (Sort.grow (redrawn v1 dq) os) hz1 hz2 (hT.out.below (hB.out.trans ((below_regrown v1 dq os).mono hB.out.size)))))
    clear a0 a1 a2 a3 b0 b1 b2 b3 d0 d1 d2 d3
    go_wp2_with fail
    refine wp_region_quiet_below (by kernel_rfl) (by kernel_rfl) ?_
    repeat (go_big_quiet_step (exact cK.out _ _))
    refine wpQuiet_nil ?_
    intro _ hw'
    obtain ⟨⟨dq, osq⟩, hw''⟩ := hw'
    subst hw''
    replace hO := Lib.hid (hO.out.below (below_regrown v1 dq osq) hO.out.lt)
    replace hB := Lib.hid (hB.out.trans ((below_regrown v1 dq osq).mono hB.out.size))
    generalize Sort.grow (redrawn v1 dq) osq = v2 at hO hB ⊢
    clear cK ka0 ka1 ka2 ka3 kb0 kb1 kb2 kb3
    obtain ⟨⟨a0, a1, a2, a3⟩, ⟨b0, b1, b2, b3⟩, ⟨d0, d1, d2, d3⟩⟩ := own12 hO.out
    have ka0 := cell_regrown a0
    have ka1 := cell_regrown a1
    have ka2 := cell_regrown a2
    have ka3 := cell_regrown a3
    have kb0 := cell_regrown d0
    have kb1 := cell_regrown d1
    have kb2 := cell_regrown d2
    have kb3 := cell_regrown d3
    have cK := Lib.hid (fun (dq : Nat) (os : Array Obj) => Calls.regrown_of (cmp_flat hF.out.h02 (Sort.grow (redrawn v2 dq) os) hz0 hz2 (hT.out.below (hB.out.trans ((below_regrown v2 dq os).mono hB.out.size)))))
    clear a0 a1 a2 a3 b0 b1 b2 b3 d0 d1 d2 d3
    go_wp2_with fail
    refine wp_region_quiet_below (by kernel_rfl) (by kernel_rfl) ?_
    repeat (go_big_quiet_step (exact cK.out _ _))
    refine wpQuiet_nil ?_
    intro _ hw'
    obtain ⟨⟨dq, osq⟩, hw''⟩ := hw'
    subst hw''
    replace hO := Lib.hid (hO.out.below (below_regrown v2 dq osq) hO.out.lt)
    replace hB := Lib.hid (hB.out.trans ((below_regrown v2 dq osq).mono hB.out.size))
    generalize Sort.grow (redrawn v2 dq) osq = v3 at hO hB ⊢
    clear cK ka0 ka1 ka2 ka3 kb0 kb1 kb2 kb3
    obtain ⟨⟨a0, a1, a2, a3⟩, ⟨b0, b1, b2, b3⟩, ⟨d0, d1, d2, d3⟩⟩ := own12 hO.out
    have ka0 := cell_regrown b0
    have ka1 := cell_regrown b1
    have ka2 := cell_regrown b2
    have ka3 := cell_regrown b3
    have kb0 := cell_regrown a0
    have kb1 := cell_regrown a1
    have kb2 := cell_regrown a2
    have kb3 := cell_regrown a3
    have cK := Lib.hid (fun (dq : Nat) (os : Array Obj) => Calls.regrown_of (cmp_flat hF.out.h10 (Sort.grow (redrawn v3 dq) os) hz1 hz0 (hT.out.below (hB.out.trans ((below_regrown v3 dq os).mono hB.out.size)))))
    clear a0 a1 a2 a3 b0 b1 b2 b3 d0 d1 d2 d3
    go_wp2_with fail
    refine wp_region_quiet_below (by kernel_rfl) (by kernel_rfl) ?_
    repeat (go_big_quiet_step (exact cK.out _ _))
    refine wpQuiet_nil ?_
    intro _ hw'
    obtain ⟨⟨dq, osq⟩, hw''⟩ := hw'
    subst hw''
    replace hO := Lib.hid (hO.out.below (below_regrown v3 dq osq) hO.out.lt)
    replace hB := Lib.hid (hB.out.trans ((below_regrown v3 dq osq).mono hB.out.size))
    generalize Sort.grow (redrawn v3 dq) osq = v4 at hO hB ⊢
    clear cK ka0 ka1 ka2 ka3 kb0 kb1 kb2 kb3
    obtain ⟨⟨a0, a1, a2, a3⟩, ⟨b0, b1, b2, b3⟩, ⟨d0, d1, d2, d3⟩⟩ := own12 hO.out
    have ka0 := cell_regrown a0
    have ka1 := cell_regrown a1
    have ka2 := cell_regrown a2
    have ka3 := cell_regrown a3
    have kb0 := cell_regrown b0
    have kb1 := cell_regrown b1
    have kb2 := cell_regrown b2
    have kb3 := cell_regrown b3
    have cE := Lib.hid (fun (dq : Nat) (os : Array Obj) => Calls.regrown_of (show Calls Tryd.prog 26 #[.agg #[.int .i64 2, .int .i64 n0, .string t0, .slice none 0 0], .agg #[.int .i64 2, .int .i64 n1, .string t1, .slice none 0 0]] (Sort.grow (redrawn v4 dq) os) (fun e w' => e = .returned (.bool (x == 0)) ∧ Below (Sort.grow (redrawn v4 dq) os).heap.size (Sort.grow (redrawn v4 dq) os) w') by rw [hF.out.eq]; exact equal_flat 2 n0 n1 t0 t1 _))
    clear a0 a1 a2 a3 b0 b1 b2 b3 d0 d1 d2 d3
    have hbx := Lib.hid hF.out.bd
    obtain ⟨bx0, bx1, by0, by1, bz0, bz1⟩ := hF.out.bd
    have hways := last_ways hF.out.tr
    rcases hways with ⟨w1, w2⟩ | ⟨w1, w2, w3⟩ | ⟨rfl, w3⟩ | ⟨w1, w2, w3, w4⟩ | ⟨rfl, w3, w4⟩ | ⟨rfl, rfl, rfl⟩
    all_goals
      go_wp2_with fail
      refine wp_region_quiet_below (by kernel_rfl) (by kernel_rfl) ?_
      repeat (go_big_quiet_step (exact cE.out _ _))
      refine wpQuiet_nil ?_
      intro _ hw'
      obtain ⟨⟨dq, osq⟩, hw''⟩ := hw'
      subst hw''
      replace hB := Lib.hid (hB.out.trans ((below_regrown v4 dq osq).mono hB.out.size))
      generalize Sort.grow (redrawn v4 dq) osq = v5 at hB ⊢
      go_wp2
      go_ret
      exact ⟨rfl, hB.out⟩
  · obtain ⟨x, y, z, u, hF⟩ := ord_txt hv0.out hv1.out hv2.out
    obtain rfl : u = -x := hF.neg
    replace hF := Lib.hid hF
    have hO := Lib.hid (show Own (w6.alloc (.cells (cells12 3 n0 n1 n2 t0 t1 t2) 49)) w6.heap.size _ _ from hO6.out)
    have hB := Lib.hid (show Below w.heap.size w (w6.alloc (.cells (cells12 3 n0 n1 n2 t0 t1 t2) 49)) from hB7.out)
    clear hO6 hB7 hB6
    go_wp2_with fail
    unfold cells12 at hO hB
    generalize World.alloc w6 (.cells _ 49) = wa at hO hB ⊢
    generalize w6.heap.size = A at hO hAw ⊢
    change Hid (Own wa A (cells12 3 n0 n1 n2 t0 t1 t2) _) at hO
    obtain ⟨⟨a0, a1, a2, a3⟩, ⟨b0, b1, b2, b3⟩, ⟨d0, d1, d2, d3⟩⟩ := own12 hO.out
    have ka0 := cell_regrown a0
    have ka1 := cell_regrown a1
    have ka2 := cell_regrown a2
    have ka3 := cell_regrown a3
    have kb0 := cell_regrown b0
    have kb1 := cell_regrown b1
    have kb2 := cell_regrown b2
    have kb3 := cell_regrown b3
    have cK := Lib.hid (fun (dq : Nat) (os : Array Obj) => Calls.regrown_of (cmp_flat hF.out.h01 (Sort.grow (redrawn wa dq) os) hz0 hz1 (hT.out.below (hB.out.trans ((below_regrown wa dq os).mono hB.out.size)))))
    clear a0 a1 a2 a3 b0 b1 b2 b3 d0 d1 d2 d3
    go_wp2_with fail
    refine wp_region_quiet_below (by kernel_rfl) (by kernel_rfl) ?_
    repeat (go_big_quiet_step (exact cK.out _ _))
    refine wpQuiet_nil ?_
    intro _ hw'
    obtain ⟨⟨dq, osq⟩, hw''⟩ := hw'
    subst hw''
    replace hO := Lib.hid (hO.out.below (below_regrown wa dq osq) hO.out.lt)
    replace hB := Lib.hid (hB.out.trans ((below_regrown wa dq osq).mono hB.out.size))
    generalize Sort.grow (redrawn wa dq) osq = v1 at hO hB ⊢
    clear cK ka0 ka1 ka2 ka3 kb0 kb1 kb2 kb3
    obtain ⟨⟨a0, a1, a2, a3⟩, ⟨b0, b1, b2, b3⟩, ⟨d0, d1, d2, d3⟩⟩ := own12 hO.out
    have ka0 := cell_regrown b0
    have ka1 := cell_regrown b1
    have ka2 := cell_regrown b2
    have ka3 := cell_regrown b3
    have kb0 := cell_regrown d0
    have kb1 := cell_regrown d1
    have kb2 := cell_regrown d2
    have kb3 := cell_regrown d3
    have cK := Lib.hid (fun (dq : Nat) (os : Array Obj) => Calls.regrown_of (cmp_flat hF.out.h12 (Sort.grow (redrawn v1 dq) os) hz1 hz2 (hT.out.below (hB.out.trans ((below_regrown v1 dq os).mono hB.out.size)))))
    clear a0 a1 a2 a3 b0 b1 b2 b3 d0 d1 d2 d3
    go_wp2_with fail
    refine wp_region_quiet_below (by kernel_rfl) (by kernel_rfl) ?_
    repeat (go_big_quiet_step (exact cK.out _ _))
    refine wpQuiet_nil ?_
    intro _ hw'
    obtain ⟨⟨dq, osq⟩, hw''⟩ := hw'
    subst hw''
    replace hO := Lib.hid (hO.out.below (below_regrown v1 dq osq) hO.out.lt)
    replace hB := Lib.hid (hB.out.trans ((below_regrown v1 dq osq).mono hB.out.size))
    generalize Sort.grow (redrawn v1 dq) osq = v2 at hO hB ⊢
    clear cK ka0 ka1 ka2 ka3 kb0 kb1 kb2 kb3
    obtain ⟨⟨a0, a1, a2, a3⟩, ⟨b0, b1, b2, b3⟩, ⟨d0, d1, d2, d3⟩⟩ := own12 hO.out
    have ka0 := cell_regrown a0
    have ka1 := cell_regrown a1
    have ka2 := cell_regrown a2
    have ka3 := cell_regrown a3
    have kb0 := cell_regrown d0
    have kb1 := cell_regrown d1
    have kb2 := cell_regrown d2
    have kb3 := cell_regrown d3
    have cK := Lib.hid (fun (dq : Nat) (os : Array Obj) => Calls.regrown_of (cmp_flat hF.out.h02 (Sort.grow (redrawn v2 dq) os) hz0 hz2 (hT.out.below (hB.out.trans ((below_regrown v2 dq os).mono hB.out.size)))))
    clear a0 a1 a2 a3 b0 b1 b2 b3 d0 d1 d2 d3
    go_wp2_with fail
    refine wp_region_quiet_below (by kernel_rfl) (by kernel_rfl) ?_
    repeat (go_big_quiet_step (exact cK.out _ _))
    refine wpQuiet_nil ?_
    intro _ hw'
    obtain ⟨⟨dq, osq⟩, hw''⟩ := hw'
    subst hw''
    replace hO := Lib.hid (hO.out.below (below_regrown v2 dq osq) hO.out.lt)
    replace hB := Lib.hid (hB.out.trans ((below_regrown v2 dq osq).mono hB.out.size))
    generalize Sort.grow (redrawn v2 dq) osq = v3 at hO hB ⊢
    clear cK ka0 ka1 ka2 ka3 kb0 kb1 kb2 kb3
    obtain ⟨⟨a0, a1, a2, a3⟩, ⟨b0, b1, b2, b3⟩, ⟨d0, d1, d2, d3⟩⟩ := own12 hO.out
    have ka0 := cell_regrown b0
    have ka1 := cell_regrown b1
    have ka2 := cell_regrown b2
    have ka3 := cell_regrown b3
    have kb0 := cell_regrown a0
    have kb1 := cell_regrown a1
    have kb2 := cell_regrown a2
    have kb3 := cell_regrown a3
    have cK := Lib.hid (fun (dq : Nat) (os : Array Obj) => Calls.regrown_of (cmp_flat hF.out.h10 (Sort.grow (redrawn v3 dq) os) hz1 hz0 (hT.out.below (hB.out.trans ((below_regrown v3 dq os).mono hB.out.size)))))
    clear a0 a1 a2 a3 b0 b1 b2 b3 d0 d1 d2 d3
    go_wp2_with fail
    refine wp_region_quiet_below (by kernel_rfl) (by kernel_rfl) ?_
    repeat (go_big_quiet_step (exact cK.out _ _))
    refine wpQuiet_nil ?_
    intro _ hw'
    obtain ⟨⟨dq, osq⟩, hw''⟩ := hw'
    subst hw''
    replace hO := Lib.hid (hO.out.below (below_regrown v3 dq osq) hO.out.lt)
    replace hB := Lib.hid (hB.out.trans ((below_regrown v3 dq osq).mono hB.out.size))
    generalize Sort.grow (redrawn v3 dq) osq = v4 at hO hB ⊢
    clear cK ka0 ka1 ka2 ka3 kb0 kb1 kb2 kb3
    obtain ⟨⟨a0, a1, a2, a3⟩, ⟨b0, b1, b2, b3⟩, ⟨d0, d1, d2, d3⟩⟩ := own12 hO.out
    have ka0 := cell_regrown a0
    have ka1 := cell_regrown a1
    have ka2 := cell_regrown a2
    have ka3 := cell_regrown a3
    have kb0 := cell_regrown b0
    have kb1 := cell_regrown b1
    have kb2 := cell_regrown b2
    have kb3 := cell_regrown b3
    have cE := Lib.hid (fun (dq : Nat) (os : Array Obj) => Calls.regrown_of (show Calls Tryd.prog 26 #[.agg #[.int .i64 3, .int .i64 n0, .string t0, .slice none 0 0], .agg #[.int .i64 3, .int .i64 n1, .string t1, .slice none 0 0]] (Sort.grow (redrawn v4 dq) os) (fun e w' => e = .returned (.bool (x == 0)) ∧ Below (Sort.grow (redrawn v4 dq) os).heap.size (Sort.grow (redrawn v4 dq) os) w') by rw [hF.out.eq]; exact equal_flat 3 n0 n1 t0 t1 _))
    clear a0 a1 a2 a3 b0 b1 b2 b3 d0 d1 d2 d3
    have hbx := Lib.hid hF.out.bd
    obtain ⟨bx0, bx1, by0, by1, bz0, bz1⟩ := hF.out.bd
    have hways := last_ways hF.out.tr
    rcases hways with ⟨w1, w2⟩ | ⟨w1, w2, w3⟩ | ⟨rfl, w3⟩ | ⟨w1, w2, w3, w4⟩ | ⟨rfl, w3, w4⟩ | ⟨rfl, rfl, rfl⟩
    all_goals
      go_wp2_with fail
      refine wp_region_quiet_below (by kernel_rfl) (by kernel_rfl) ?_
      repeat (go_big_quiet_step (exact cE.out _ _))
      refine wpQuiet_nil ?_
      intro _ hw'
      obtain ⟨⟨dq, osq⟩, hw''⟩ := hw'
      subst hw''
      replace hB := Lib.hid (hB.out.trans ((below_regrown v4 dq osq).mono hB.out.size))
      generalize Sort.grow (redrawn v4 dq) osq = v5 at hB ⊢
      go_wp2
      go_ret
      exact ⟨rfl, hB.out⟩
  · obtain rfl : n0 = 0 := num_zero hv0.out
    obtain rfl : n1 = 0 := num_zero hv1.out
    obtain rfl : n2 = 0 := num_zero hv2.out
    have hO := Lib.hid (hO6.out.alloc (.cells #[.int .i64 p, .int .i64 q, .int .i64 r] 3))
    have hI := Lib.hid (Own.new (w6.alloc (.cells (cells12 4 0 0 0 t0 t1 t2) 49)) #[.int .i64 p, .int .i64 q, .int .i64 r] 3)
    have hB := Lib.hid (hB7.out.alloc hB7.out.size (.cells #[.int .i64 p, .int .i64 q, .int .i64 r] 3))
    clear hO6 hB7 hB6 hv0 hv1 hv2
    go_wp2
    unfold cells12 at hO hB hI
    simp only [World.size_alloc] at hI
    generalize World.alloc (World.alloc w6 (.cells _ 49)) (.cells _ 3) = wa at hO hB hI ⊢
    have hIA : w6.heap.size + 1 ≠ w6.heap.size := by omega
    generalize w6.heap.size + 1 = I at hI hIA ⊢
    generalize w6.heap.size = A at hO hAw hIA ⊢
    change Hid (Own wa A (cells12 4 0 0 0 t0 t1 t2) _) at hO
    go_loopw [47] (fun i wr => ∃ (J : Int) (T0 T1 T2 : ByteArray), i = .int .i64 J ∧ (J = 0 ∨ J = 1 ∨ J = 2 ∨ J = 3) ∧ T0.size ≤ 200 ∧ T1.size ≤ 200 ∧ T2.size ≤ 200 ∧ Hid ((1 ≤ J → IsVer 0 T0) ∧ (2 ≤ J → IsVer 0 T1) ∧ (3 ≤ J → IsVer 0 T2)) ∧ Hid (Own wr A (cells12 4 0 0 0 T0 T1 T2) 49) ∧ Hid (Own wr I #[.int .i64 p, .int .i64 q, .int .i64 r] 3) ∧ Hid (Below w.heap.size w wr)) (fun i _ => 3 - (intOf i).toNat)
    case atStart => exact ⟨0, t0, t1, t2, rfl, Or.inl rfl, hz0, hz1, hz2, ⟨fun h => absurd h (by omega), fun h => absurd h (by omega), fun h => absurd h (by omega)⟩, hO.out, hI.out, hB.out⟩
    case round =>
      clear hO hI hB hz0 hz1 hz2
      obtain ⟨J, T0, T1, T2, rfl, hJ, zT0, zT1, zT2, hIs, hO, hI, hB⟩ := hrel
      rcases hJ with rfl | rfl | rfl | rfl
      · have ci := hI.out.cell 0
        have co := hO.out.cell 2
        have fo := hO.out.free 2
        simp only [cells12] at ci co
        have cM := Lib.hid (fun u : World => mod_eq p 1000000 u (by omega) (by omega) hp.out.1 hp.out.2)
        obtain ⟨R, hR⟩ : ∃ R, Hid (R = p % 1000000) := ⟨_, rfl⟩
        have hR0 : 0 ≤ R := by rw [hR.out]; omega
        have hR1 : R ≤ 999999 := by rw [hR.out]; omega
        replace ci : wr.cell? ⟨I, 0, none⟩ = some (.int .i64 p) := ci
        replace co : wr.cell? ⟨A, 2, none⟩ = some (.string T0) := co
        go_wp2_with fail
        refine (cM.out _).mono ?_
        rintro e w8 ⟨rfl, rfl⟩
        rw [← hR.out]
        go_wp2_with fail
        refine (number_ref (R % 12) _ (by omega) (by omega)).mono ?_
        rintro e w9 ⟨rfl, rfl⟩
        obtain ⟨u1, hu1⟩ : ∃ u : ByteArray, Hid (u = ⟨(Lib.itoa (R % 12)).toArray⟩) := ⟨⟨(Lib.itoa (R % 12)).toArray⟩, rfl⟩
        rw [← hu1.out]
        have z1 : u1.size ≤ 6 := by rw [hu1.out]; exact itoa_size (by omega) (by omega)
        go_wp2_with fail
        refine (number_ref (R / 12 % 11) _ (by omega) (by omega)).mono ?_
        rintro e w9 ⟨rfl, rfl⟩
        obtain ⟨u2, hu2⟩ : ∃ u : ByteArray, Hid (u = ⟨(Lib.itoa (R / 12 % 11)).toArray⟩) := ⟨⟨(Lib.itoa (R / 12 % 11)).toArray⟩, rfl⟩
        rw [← hu2.out]
        have z2 : u2.size ≤ 6 := by rw [hu2.out]; exact itoa_size (by omega) (by omega)
        go_wp2_with fail
        refine (number_ref R _ (by omega) (by omega)).mono ?_
        rintro e w9 ⟨rfl, rfl⟩
        obtain ⟨u3, hu3⟩ : ∃ u : ByteArray, Hid (u = ⟨(Lib.itoa R).toArray⟩) := ⟨⟨(Lib.itoa R).toArray⟩, rfl⟩
        rw [← hu3.out]
        have z3 : u3.size ≤ 6 := by rw [hu3.out]; exact itoa_size (by omega) (by omega)
        have hVer := Lib.hid (show IsVer 0 (u1 ++ ⟨#[46]⟩ ++ u2 ++ ⟨#[46]⟩ ++ u3) from ⟨rfl, _, _, _, ver_text hu1.out hu2.out hu3.out, ⟨by omega, by omega⟩, ⟨by omega, by omega⟩, ⟨by omega, by omega⟩⟩)
        have y1 : (u1 ++ ⟨#[46]⟩).size ≤ 7 := by rw [ByteArray.size_append]; show u1.size + 1 ≤ 7; omega
        have y2 : (u1 ++ ⟨#[46]⟩ ++ u2).size ≤ 13 := by rw [ByteArray.size_append]; omega
        have y3 : (u1 ++ ⟨#[46]⟩ ++ u2 ++ ⟨#[46]⟩).size ≤ 14 := by rw [ByteArray.size_append]; show _ + 1 ≤ 14; omega
        have y4 : (u1 ++ ⟨#[46]⟩ ++ u2 ++ ⟨#[46]⟩ ++ u3).size ≤ 200 := by rw [ByteArray.size_append]; omega
        clear cM ci
        go_wp2
        generalize u1 ++ ⟨#[46]⟩ ++ u2 ++ ⟨#[46]⟩ ++ u3 = V at hVer y4 ⊢
        have hO2 := Lib.hid (show Own (w8.setCell ⟨A, 2, none⟩ (.string V)) A (cells12 4 0 0 0 V T1 T2) 49 from hO.out.set 2 (.string V))
        have hI2 := Lib.hid (hI.out.setOther (p := ⟨A, 2, none⟩) hIA (.string V))
        have hB2 := Lib.hid (hB.out.setCell (p := ⟨A, 2, none⟩) hAw (.string V))
        go_roundw
        case rel => exact ⟨1, V, T1, T2, rfl, by omega, y4, zT1, zT2, ⟨fun _ => hVer.out, fun h => absurd h (by omega), fun h => absurd h (by omega)⟩, hO2.out, hI2.out, hB2.out⟩
        case measure => simp [intOf]
      · have ci := hI.out.cell 1
        have co := hO.out.cell 6
        have fo := hO.out.free 6
        simp only [cells12] at ci co
        have cM := Lib.hid (fun u : World => mod_eq q 1000000 u (by omega) (by omega) hq.out.1 hq.out.2)
        obtain ⟨R, hR⟩ : ∃ R, Hid (R = q % 1000000) := ⟨_, rfl⟩
        have hR0 : 0 ≤ R := by rw [hR.out]; omega
        have hR1 : R ≤ 999999 := by rw [hR.out]; omega
        replace ci : wr.cell? ⟨I, 1, none⟩ = some (.int .i64 q) := ci
        replace co : wr.cell? ⟨A, 6, none⟩ = some (.string T1) := co
        go_wp2_with fail
        refine (cM.out _).mono ?_
        rintro e w8 ⟨rfl, rfl⟩
        rw [← hR.out]
        go_wp2_with fail
        refine (number_ref (R % 12) _ (by omega) (by omega)).mono ?_
        rintro e w9 ⟨rfl, rfl⟩
        obtain ⟨u1, hu1⟩ : ∃ u : ByteArray, Hid (u = ⟨(Lib.itoa (R % 12)).toArray⟩) := ⟨⟨(Lib.itoa (R % 12)).toArray⟩, rfl⟩
        rw [← hu1.out]
        have z1 : u1.size ≤ 6 := by rw [hu1.out]; exact itoa_size (by omega) (by omega)
        go_wp2_with fail
        refine (number_ref (R / 12 % 11) _ (by omega) (by omega)).mono ?_
        rintro e w9 ⟨rfl, rfl⟩
        obtain ⟨u2, hu2⟩ : ∃ u : ByteArray, Hid (u = ⟨(Lib.itoa (R / 12 % 11)).toArray⟩) := ⟨⟨(Lib.itoa (R / 12 % 11)).toArray⟩, rfl⟩
        rw [← hu2.out]
        have z2 : u2.size ≤ 6 := by rw [hu2.out]; exact itoa_size (by omega) (by omega)
        go_wp2_with fail
        refine (number_ref R _ (by omega) (by omega)).mono ?_
        rintro e w9 ⟨rfl, rfl⟩
        obtain ⟨u3, hu3⟩ : ∃ u : ByteArray, Hid (u = ⟨(Lib.itoa R).toArray⟩) := ⟨⟨(Lib.itoa R).toArray⟩, rfl⟩
        rw [← hu3.out]
        have z3 : u3.size ≤ 6 := by rw [hu3.out]; exact itoa_size (by omega) (by omega)
        have hVer := Lib.hid (show IsVer 0 (u1 ++ ⟨#[46]⟩ ++ u2 ++ ⟨#[46]⟩ ++ u3) from ⟨rfl, _, _, _, ver_text hu1.out hu2.out hu3.out, ⟨by omega, by omega⟩, ⟨by omega, by omega⟩, ⟨by omega, by omega⟩⟩)
        have y1 : (u1 ++ ⟨#[46]⟩).size ≤ 7 := by rw [ByteArray.size_append]; show u1.size + 1 ≤ 7; omega
        have y2 : (u1 ++ ⟨#[46]⟩ ++ u2).size ≤ 13 := by rw [ByteArray.size_append]; omega
        have y3 : (u1 ++ ⟨#[46]⟩ ++ u2 ++ ⟨#[46]⟩).size ≤ 14 := by rw [ByteArray.size_append]; show _ + 1 ≤ 14; omega
        have y4 : (u1 ++ ⟨#[46]⟩ ++ u2 ++ ⟨#[46]⟩ ++ u3).size ≤ 200 := by rw [ByteArray.size_append]; omega
        clear cM ci
        go_wp2
        generalize u1 ++ ⟨#[46]⟩ ++ u2 ++ ⟨#[46]⟩ ++ u3 = V at hVer y4 ⊢
        have hO2 := Lib.hid (show Own (w8.setCell ⟨A, 6, none⟩ (.string V)) A (cells12 4 0 0 0 T0 V T2) 49 from hO.out.set 6 (.string V))
        have hI2 := Lib.hid (hI.out.setOther (p := ⟨A, 6, none⟩) hIA (.string V))
        have hB2 := Lib.hid (hB.out.setCell (p := ⟨A, 6, none⟩) hAw (.string V))
        go_roundw
        case rel => exact ⟨2, T0, V, T2, rfl, by omega, zT0, y4, zT2, ⟨fun _ => hIs.out.1 (by omega), fun _ => hVer.out, fun h => absurd h (by omega)⟩, hO2.out, hI2.out, hB2.out⟩
        case measure => simp [intOf]
      · have ci := hI.out.cell 2
        have co := hO.out.cell 10
        have fo := hO.out.free 10
        simp only [cells12] at ci co
        have cM := Lib.hid (fun u : World => mod_eq r 1000000 u (by omega) (by omega) hr.out.1 hr.out.2)
        obtain ⟨R, hR⟩ : ∃ R, Hid (R = r % 1000000) := ⟨_, rfl⟩
        have hR0 : 0 ≤ R := by rw [hR.out]; omega
        have hR1 : R ≤ 999999 := by rw [hR.out]; omega
        replace ci : wr.cell? ⟨I, 2, none⟩ = some (.int .i64 r) := ci
        replace co : wr.cell? ⟨A, 10, none⟩ = some (.string T2) := co
        go_wp2_with fail
        refine (cM.out _).mono ?_
        rintro e w8 ⟨rfl, rfl⟩
        rw [← hR.out]
        go_wp2_with fail
        refine (number_ref (R % 12) _ (by omega) (by omega)).mono ?_
        rintro e w9 ⟨rfl, rfl⟩
        obtain ⟨u1, hu1⟩ : ∃ u : ByteArray, Hid (u = ⟨(Lib.itoa (R % 12)).toArray⟩) := ⟨⟨(Lib.itoa (R % 12)).toArray⟩, rfl⟩
        rw [← hu1.out]
        have z1 : u1.size ≤ 6 := by rw [hu1.out]; exact itoa_size (by omega) (by omega)
        go_wp2_with fail
        refine (number_ref (R / 12 % 11) _ (by omega) (by omega)).mono ?_
        rintro e w9 ⟨rfl, rfl⟩
        obtain ⟨u2, hu2⟩ : ∃ u : ByteArray, Hid (u = ⟨(Lib.itoa (R / 12 % 11)).toArray⟩) := ⟨⟨(Lib.itoa (R / 12 % 11)).toArray⟩, rfl⟩
        rw [← hu2.out]
        have z2 : u2.size ≤ 6 := by rw [hu2.out]; exact itoa_size (by omega) (by omega)
        go_wp2_with fail
        refine (number_ref R _ (by omega) (by omega)).mono ?_
        rintro e w9 ⟨rfl, rfl⟩
        obtain ⟨u3, hu3⟩ : ∃ u : ByteArray, Hid (u = ⟨(Lib.itoa R).toArray⟩) := ⟨⟨(Lib.itoa R).toArray⟩, rfl⟩
        rw [← hu3.out]
        have z3 : u3.size ≤ 6 := by rw [hu3.out]; exact itoa_size (by omega) (by omega)
        have hVer := Lib.hid (show IsVer 0 (u1 ++ ⟨#[46]⟩ ++ u2 ++ ⟨#[46]⟩ ++ u3) from ⟨rfl, _, _, _, ver_text hu1.out hu2.out hu3.out, ⟨by omega, by omega⟩, ⟨by omega, by omega⟩, ⟨by omega, by omega⟩⟩)
        have y1 : (u1 ++ ⟨#[46]⟩).size ≤ 7 := by rw [ByteArray.size_append]; show u1.size + 1 ≤ 7; omega
        have y2 : (u1 ++ ⟨#[46]⟩ ++ u2).size ≤ 13 := by rw [ByteArray.size_append]; omega
        have y3 : (u1 ++ ⟨#[46]⟩ ++ u2 ++ ⟨#[46]⟩).size ≤ 14 := by rw [ByteArray.size_append]; show _ + 1 ≤ 14; omega
        have y4 : (u1 ++ ⟨#[46]⟩ ++ u2 ++ ⟨#[46]⟩ ++ u3).size ≤ 200 := by rw [ByteArray.size_append]; omega
        clear cM ci
        go_wp2
        generalize u1 ++ ⟨#[46]⟩ ++ u2 ++ ⟨#[46]⟩ ++ u3 = V at hVer y4 ⊢
        have hO2 := Lib.hid (show Own (w8.setCell ⟨A, 10, none⟩ (.string V)) A (cells12 4 0 0 0 T0 T1 V) 49 from hO.out.set 10 (.string V))
        have hI2 := Lib.hid (hI.out.setOther (p := ⟨A, 10, none⟩) hIA (.string V))
        have hB2 := Lib.hid (hB.out.setCell (p := ⟨A, 10, none⟩) hAw (.string V))
        go_roundw
        case rel => exact ⟨3, T0, T1, V, rfl, by omega, zT0, zT1, y4, ⟨fun _ => hIs.out.1 (by omega), fun _ => hIs.out.2.1 (by omega), fun _ => hVer.out⟩, hO2.out, hI2.out, hB2.out⟩
        case measure => simp [intOf]
      · obtain ⟨x, y, z, u, hF⟩ := ord_ver (hIs.out.1 (by omega)) (hIs.out.2.1 (by omega)) (hIs.out.2.2 (by omega))
        obtain rfl : u = -x := hF.neg
        replace hF := Lib.hid hF
        have hz0 := zT0
        have hz1 := zT1
        have hz2 := zT2
        obtain ⟨⟨a0, a1, a2, a3⟩, ⟨b0, b1, b2, b3⟩, ⟨d0, d1, d2, d3⟩⟩ := own12 hO.out
        have ka0 := cell_regrown a0
        have ka1 := cell_regrown a1
        have ka2 := cell_regrown a2
        have ka3 := cell_regrown a3
        have kb0 := cell_regrown b0
        have kb1 := cell_regrown b1
        have kb2 := cell_regrown b2
        have kb3 := cell_regrown b3
        have cK := Lib.hid (fun (dq : Nat) (os : Array Obj) => Calls.regrown_of (cmp_flat hF.out.h01 (Sort.grow (redrawn wr dq) os) hz0 hz1 (hT.out.below (hB.out.trans ((below_regrown wr dq os).mono hB.out.size)))))
        clear a0 a1 a2 a3 b0 b1 b2 b3 d0 d1 d2 d3
        go_wp2_with fail
        refine wp_region_quiet_below (by kernel_rfl) (by kernel_rfl) ?_
        repeat (go_big_quiet_step (exact cK.out _ _))
        refine wpQuiet_nil ?_
        intro _ hw'
        obtain ⟨⟨dq, osq⟩, hw''⟩ := hw'
        subst hw''
        replace hO := Lib.hid (hO.out.below (below_regrown wr dq osq) hO.out.lt)
        replace hB := Lib.hid (hB.out.trans ((below_regrown wr dq osq).mono hB.out.size))
        generalize Sort.grow (redrawn wr dq) osq = v1 at hO hB ⊢
        clear cK ka0 ka1 ka2 ka3 kb0 kb1 kb2 kb3
        obtain ⟨⟨a0, a1, a2, a3⟩, ⟨b0, b1, b2, b3⟩, ⟨d0, d1, d2, d3⟩⟩ := own12 hO.out
        have ka0 := cell_regrown b0
        have ka1 := cell_regrown b1
        have ka2 := cell_regrown b2
        have ka3 := cell_regrown b3
        have kb0 := cell_regrown d0
        have kb1 := cell_regrown d1
        have kb2 := cell_regrown d2
        have kb3 := cell_regrown d3
        have cK := Lib.hid (fun (dq : Nat) (os : Array Obj) => Calls.regrown_of (cmp_flat hF.out.h12 (Sort.grow (redrawn v1 dq) os) hz1 hz2 (hT.out.below (hB.out.trans ((below_regrown v1 dq os).mono hB.out.size)))))
        clear a0 a1 a2 a3 b0 b1 b2 b3 d0 d1 d2 d3
        go_wp2_with fail
        refine wp_region_quiet_below (by kernel_rfl) (by kernel_rfl) ?_
        repeat (go_big_quiet_step (exact cK.out _ _))
        refine wpQuiet_nil ?_
        intro _ hw'
        obtain ⟨⟨dq, osq⟩, hw''⟩ := hw'
        subst hw''
        replace hO := Lib.hid (hO.out.below (below_regrown v1 dq osq) hO.out.lt)
        replace hB := Lib.hid (hB.out.trans ((below_regrown v1 dq osq).mono hB.out.size))
        generalize Sort.grow (redrawn v1 dq) osq = v2 at hO hB ⊢
        clear cK ka0 ka1 ka2 ka3 kb0 kb1 kb2 kb3
        obtain ⟨⟨a0, a1, a2, a3⟩, ⟨b0, b1, b2, b3⟩, ⟨d0, d1, d2, d3⟩⟩ := own12 hO.out
        have ka0 := cell_regrown a0
        have ka1 := cell_regrown a1
        have ka2 := cell_regrown a2
        have ka3 := cell_regrown a3
        have kb0 := cell_regrown d0
        have kb1 := cell_regrown d1
        have kb2 := cell_regrown d2
        have kb3 := cell_regrown d3
        have cK := Lib.hid (fun (dq : Nat) (os : Array Obj) => Calls.regrown_of (cmp_flat hF.out.h02 (Sort.grow (redrawn v2 dq) os) hz0 hz2 (hT.out.below (hB.out.trans ((below_regrown v2 dq os).mono hB.out.size)))))
        clear a0 a1 a2 a3 b0 b1 b2 b3 d0 d1 d2 d3
        go_wp2_with fail
        refine wp_region_quiet_below (by kernel_rfl) (by kernel_rfl) ?_
        repeat (go_big_quiet_step (exact cK.out _ _))
        refine wpQuiet_nil ?_
        intro _ hw'
        obtain ⟨⟨dq, osq⟩, hw''⟩ := hw'
        subst hw''
        replace hO := Lib.hid (hO.out.below (below_regrown v2 dq osq) hO.out.lt)
        replace hB := Lib.hid (hB.out.trans ((below_regrown v2 dq osq).mono hB.out.size))
        generalize Sort.grow (redrawn v2 dq) osq = v3 at hO hB ⊢
        clear cK ka0 ka1 ka2 ka3 kb0 kb1 kb2 kb3
        obtain ⟨⟨a0, a1, a2, a3⟩, ⟨b0, b1, b2, b3⟩, ⟨d0, d1, d2, d3⟩⟩ := own12 hO.out
        have ka0 := cell_regrown b0
        have ka1 := cell_regrown b1
        have ka2 := cell_regrown b2
        have ka3 := cell_regrown b3
        have kb0 := cell_regrown a0
        have kb1 := cell_regrown a1
        have kb2 := cell_regrown a2
        have kb3 := cell_regrown a3
        have cK := Lib.hid (fun (dq : Nat) (os : Array Obj) => Calls.regrown_of (cmp_flat hF.out.h10 (Sort.grow (redrawn v3 dq) os) hz1 hz0 (hT.out.below (hB.out.trans ((below_regrown v3 dq os).mono hB.out.size)))))
        clear a0 a1 a2 a3 b0 b1 b2 b3 d0 d1 d2 d3
        go_wp2_with fail
        refine wp_region_quiet_below (by kernel_rfl) (by kernel_rfl) ?_
        repeat (go_big_quiet_step (exact cK.out _ _))
        refine wpQuiet_nil ?_
        intro _ hw'
        obtain ⟨⟨dq, osq⟩, hw''⟩ := hw'
        subst hw''
        replace hO := Lib.hid (hO.out.below (below_regrown v3 dq osq) hO.out.lt)
        replace hB := Lib.hid (hB.out.trans ((below_regrown v3 dq osq).mono hB.out.size))
        generalize Sort.grow (redrawn v3 dq) osq = v4 at hO hB ⊢
        clear cK ka0 ka1 ka2 ka3 kb0 kb1 kb2 kb3
        obtain ⟨⟨a0, a1, a2, a3⟩, ⟨b0, b1, b2, b3⟩, ⟨d0, d1, d2, d3⟩⟩ := own12 hO.out
        have ka0 := cell_regrown a0
        have ka1 := cell_regrown a1
        have ka2 := cell_regrown a2
        have ka3 := cell_regrown a3
        have kb0 := cell_regrown b0
        have kb1 := cell_regrown b1
        have kb2 := cell_regrown b2
        have kb3 := cell_regrown b3
        have cE := Lib.hid (fun (dq : Nat) (os : Array Obj) => Calls.regrown_of (show Calls Tryd.prog 26 #[.agg #[.int .i64 4, .int .i64 0, .string T0, .slice none 0 0], .agg #[.int .i64 4, .int .i64 0, .string T1, .slice none 0 0]] (Sort.grow (redrawn v4 dq) os) (fun e w' => e = .returned (.bool (x == 0)) ∧ Below (Sort.grow (redrawn v4 dq) os).heap.size (Sort.grow (redrawn v4 dq) os) w') by rw [hF.out.eq]; exact equal_flat 4 0 0 T0 T1 _))
        clear a0 a1 a2 a3 b0 b1 b2 b3 d0 d1 d2 d3
        have hbx := Lib.hid hF.out.bd
        obtain ⟨bx0, bx1, by0, by1, bz0, bz1⟩ := hF.out.bd
        have hways := last_ways hF.out.tr
        rcases hways with ⟨w1, w2⟩ | ⟨w1, w2, w3⟩ | ⟨rfl, w3⟩ | ⟨w1, w2, w3, w4⟩ | ⟨rfl, w3, w4⟩ | ⟨rfl, rfl, rfl⟩
        all_goals
          go_wp2_with fail
          refine wp_region_quiet_below (by kernel_rfl) (by kernel_rfl) ?_
          repeat (go_big_quiet_step (exact cE.out _ _))
          refine wpQuiet_nil ?_
          intro _ hw'
          obtain ⟨⟨dq, osq⟩, hw''⟩ := hw'
          subst hw''
          replace hB := Lib.hid (hB.out.trans ((below_regrown v4 dq osq).mono hB.out.size))
          generalize Sort.grow (redrawn v4 dq) osq = v5 at hB ⊢
          go_wp2
          go_ret
          exact ⟨rfl, hB.out⟩

end Go.Proofs.YtpildefkhlejgaaDoor.law
