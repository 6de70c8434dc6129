/- The law ValueCompares: how any two values compare, or the error, and whether they are equal. -/
import Derived.Test.YtnghpjijfdpmkaaGreatDoorValLC
import Derived.Test.YtnghpjijfdpmkaaGreatDoorValRC
import Derived.Test.YtnghpjijfdpmkaaGreatDoorValEV
import Derived.Deep.RegionHeld3
import Derived.Lib.QuietBelow
namespace Go.Proofs.YtnghpjijfdpmkaaGreatDoor.law
open Go.RowKit Go.Proofs.YtnghpjijfdpmkaaGreatDoor Go.Proofs.YtnghpjijfdpmkaaGreatDoor.text Go.Proofs.YtnghpjijfdpmkaaGreatDoor.value Go.Proofs.YtnghpjijfdpmkaaGreatDoor.draw

theorem four_cells {w : World} {n : Nat} {t : TypeId} {x : VX} (h : Own w n #[.int .i64 x.v.k, .int .i64 x.v.n, .string x.t, .slice x.la x.ls.length x.lc] t) :
    w.cell? ⟨n, 0, none⟩ = some (.int .i64 x.v.k) ∧ w.cell? ⟨n, 1, none⟩ = some (.int .i64 x.v.n) ∧ w.cell? ⟨n, 2, none⟩ = some (.string x.t) ∧ w.cell? ⟨n, 3, none⟩ = some (.slice x.la x.ls.length x.lc) := box4 h
/-- What both Compare give, under one name. -/
structure CmpOf (x y : VX) (p q : Int) (E : Bool) : Prop where
  cmp : cmpR x.v y.v = .tuple #[.int .i64 p, .int .i64 q]
  eq : eqVV x.v.k y.v.k x.v.n y.v.n x.t y.t (lsL x.ls == lsL y.ls) = E
theorem cmp_of (x y : VX) : ∃ p q E, CmpOf x y p q E := ⟨_, _, _, rfl, rfl⟩
theorem cmp_prog {x y : VX} {p q : Int} {E : Bool} (h : CmpOf x y p q E) {w : World} (hx : x.Ok w) (hy : y.Ok w) (hT : Tabs w) :
    Calls Tryz.prog 23 #[.agg #[.int .i64 x.v.k, .int .i64 x.v.n, .string x.t, .slice x.la x.ls.length x.lc], .agg #[.int .i64 y.v.k, .int .i64 y.v.n, .string y.t, .slice y.la y.ls.length y.lc]] w fun e w' => e = .returned (.tuple #[.int .i64 p, .int .i64 q]) ∧ Below w.heap.size w w' := by
  rw [← h.cmp]
  have h1 := hx.tz; have h2 := hx.lz; have h3 := hy.tz; have h4 := hy.lz
  exact compare_any x.v y.v x.t y.t x.la y.la x.lc y.lc x.ls y.ls w hx.ok hy.ok (by omega) (by omega) (by omega) (by omega) hT
theorem cmp_doc {x y : VX} {p q : Int} {E : Bool} (h : CmpOf x y p q E) {w : World} (hx : x.Ok w) (hy : y.Ok w) (hT : Tabs w) :
    Calls Tryz.prog 24 #[.agg #[.int .i64 x.v.k, .int .i64 x.v.n, .string x.t, .slice x.la x.ls.length x.lc], .agg #[.int .i64 y.v.k, .int .i64 y.v.n, .string y.t, .slice y.la y.ls.length y.lc]] w fun e w' => e = .returned (.tuple #[.int .i64 p, .int .i64 q]) ∧ Below w.heap.size w w' := by
  rw [← h.cmp]
  have h1 := hx.tz; have h3 := hy.tz
  exact compare_ref x.v y.v x.t y.t x.la y.la x.lc y.lc x.ls y.ls w hx.ok hy.ok (by omega) (by omega) hT
theorem eq_prog {x y : VX} {p q : Int} {E : Bool} (h : CmpOf x y p q E) {w : World} (hx : x.Ok w) (hy : y.Ok w) :
    Calls Tryz.prog 25 #[.agg #[.int .i64 x.v.k, .int .i64 x.v.n, .string x.t, .slice x.la x.ls.length x.lc], .agg #[.int .i64 y.v.k, .int .i64 y.v.n, .string y.t, .slice y.la y.ls.length y.lc]] w fun e w' => e = .returned (.bool E) ∧ Below w.heap.size w w' := by
  rw [← h.eq]
  have h2 := hx.lz
  exact equal_any x.v.k y.v.k x.v.n y.v.n x.t y.t x.la y.la x.lc y.lc x.ls y.ls w hx.ok.rows hy.ok.rows (by omega)
theorem eq_doc {x y : VX} {p q : Int} {E : Bool} (h : CmpOf x y p q E) {w : World} (hx : x.Ok w) (hy : y.Ok w) :
    Calls Tryz.prog 19 #[.agg #[.int .i64 x.v.k, .int .i64 x.v.n, .string x.t, .slice x.la x.ls.length x.lc], .agg #[.int .i64 y.v.k, .int .i64 y.v.n, .string y.t, .slice y.la y.ls.length y.lc]] w fun e w' => e = .returned (.bool E) ∧ Below w.heap.size w w' := by
  rw [← h.eq]
  have h2 := hx.lz
  exact equal_ref x.v.k y.v.k x.v.n y.v.n x.t y.t x.la y.la x.lc y.lc x.ls y.ls w hx.ok.rows hy.ok.rows (by omega)

set_option maxRecDepth 100000 in
set_option maxHeartbeats 8000000 in
theorem compares_walk (X Y : VX) (a : Option Addr) (n c : Nat) (w : World) (hX : VOk w X.v X.t X.la X.ls) (hY : VOk w Y.v Y.t Y.la Y.ls) (hmx : X.ls.length ≤ 9223372036854775807) (hmy : Y.ls.length ≤ 9223372036854775807)
    (hC : BytesAt w.cell? a n c) (hT : Tabs w) (hD : DrawTabs w.cell?) (hL : ListTab w.cell?) :
    Calls Tryz.prog 6 #[.agg #[.int .i64 X.v.k, .int .i64 X.v.n, .string X.t, .slice X.la X.ls.length X.lc], .agg #[.int .i64 Y.v.k, .int .i64 Y.v.n, .string Y.t, .slice Y.la Y.ls.length Y.lc], .slice a n c] w fun e w' => e = .returned (.bool true) ∧ Below w.heap.size w w' := by
  have hO := Lib.hid (show Own ((w.alloc (.cells #[.int .i64 X.v.k, .int .i64 X.v.n, .string X.t, .slice X.la X.ls.length X.lc] 24)).alloc (.cells #[.int .i64 Y.v.k, .int .i64 Y.v.n, .string Y.t, .slice Y.la Y.ls.length Y.lc] 24)) w.heap.size _ 24 from (Own.new w _ _).alloc _)
  have hP := Lib.hid (show Own ((w.alloc (.cells #[.int .i64 X.v.k, .int .i64 X.v.n, .string X.t, .slice X.la X.ls.length X.lc] 24)).alloc (.cells #[.int .i64 Y.v.k, .int .i64 Y.v.n, .string Y.t, .slice Y.la Y.ls.length Y.lc] 24)) (w.heap.size + 1) _ 24 from Own.new' (by simp))
  have hB := Lib.hid (show Below w.heap.size w ((w.alloc (.cells #[.int .i64 X.v.k, .int .i64 X.v.n, .string X.t, .slice X.la X.ls.length X.lc] 24)).alloc (.cells #[.int .i64 Y.v.k, .int .i64 Y.v.n, .string Y.t, .slice Y.la Y.ls.length Y.lc] 24)) from ((Below.refl _ _).alloc (Nat.le_refl _) _).alloc (by simp) _)
  replace hT := Lib.hid hT
  replace hD := Lib.hid hD
  replace hL := Lib.hid hL
  replace hC := Lib.hid hC
  replace hX := Lib.hid hX
  replace hY := Lib.hid hY
  go_enter Tryz.func6, Tryz.ntmps6
  go_wp2_with fail
  refine (awake_any _ (hT.out.below hB.out)).mono ?_
  rintro e w1 ⟨rfl, hb1⟩
  have hO1 := Lib.hid (hO.out.below hb1 hO.out.lt)
  have hP1 := Lib.hid (hP.out.below hb1 hP.out.lt)
  have hB1 := Lib.hid (hB.out.trans (hb1.mono hB.out.size))
  clear hb1 hO hP hB
  obtain ⟨a0, a1, a2, a3⟩ := four_cells hO1.out
  obtain ⟨b0, b1, b2, b3⟩ := four_cells hP1.out
  go_wp2_with fail
  refine (small_any X.v.k X.v.n X.t X.la X.lc X.ls _ (hX.out.below hB1.out).rows hmx).mono ?_
  rintro e w2 ⟨rfl, hb2⟩
  have hO2 := Lib.hid (hO1.out.below hb2 hO1.out.lt)
  have hP2 := Lib.hid (hP1.out.below hb2 hP1.out.lt)
  have hB2 := Lib.hid (hB1.out.trans (hb2.mono hB1.out.size))
  clear hb2 hO1 hP1 hB1 a0 a1 a2 a3 b0 b1 b2 b3
  obtain ⟨a0, a1, a2, a3⟩ := four_cells hO2.out
  obtain ⟨b0, b1, b2, b3⟩ := four_cells hP2.out
  cases hsm : smallB X.t X.ls with
  | false =>
    go_wp2
    go_ret
    exact ⟨rfl, hB2.out⟩
  | true =>
    obtain ⟨hl40, ht400⟩ := small_of hsm
    clear hsm
    go_wp2_with fail
    refine (small_any Y.v.k Y.v.n Y.t Y.la Y.lc Y.ls _ (hY.out.below hB2.out).rows hmy).mono ?_
    rintro e w3 ⟨rfl, hb3⟩
    have hO3 := Lib.hid (hO2.out.below hb3 hO2.out.lt)
    have hP3 := Lib.hid (hP2.out.below hb3 hP2.out.lt)
    have hB3 := Lib.hid (hB2.out.trans (hb3.mono hB2.out.size))
    clear hb3 hO2 hP2 hB2 a0 a1 a2 a3 b0 b1 b2 b3
    cases hsm : smallB Y.t Y.ls with
    | false =>
      go_wp2
      go_ret
      exact ⟨rfl, hB3.out⟩
    | true =>
      obtain ⟨hl40', ht400'⟩ := small_of hsm
      clear hsm
      go_wp2_with fail
      refine (new_any a n c 30 _ (by omega) (by omega) (hC.out.mono (sub_of_below hB3.out))).mono ?_
      rintro e w4 ⟨rfl, ⟨ca, cn, cc, hCo⟩, hb4⟩
      have hO4 := Lib.hid (hO3.out.below hb4 hO3.out.lt)
      have hP4 := Lib.hid (hP3.out.below hb4 hP3.out.lt)
      have hbo := Lib.hid (show w.heap.size + 1 < w3.heap.size from hP3.out.lt)
      have hB4 := Lib.hid (hB3.out.trans (hb4.mono hB3.out.size))
      replace hCo := Lib.hid hCo
      clear hb4 hO3 hP3 hB3
      generalize w3.heap.size = b at hCo hbo ⊢
      go_wp2_with fail
      refine (next_any b ca cn cc _ 5 (by omega) (by omega) hCo.out).mono ?_
      rintro e w5 ⟨⟨m, rfl, hm0, hm1⟩, hH5, hG5⟩
      have hC5 := Lib.hid (hCo.out.still hG5 hH5)
      have hO5 := Lib.hid (hO4.out.kept hG5 (by have := hbo.out; intro e; injection e with e; omega))
      have hP5 := Lib.hid (hP4.out.kept hG5 (by have := hbo.out; intro e; injection e with e; omega))
      have hB5 := Lib.hid (hB4.out.trans (below_of_grown hG5 hB4.out.size (by have := hbo.out; omega)))
      clear hH5 hG5 hCo hO4 hP4 hB4
      obtain ⟨K, hK⟩ : ∃ K, 1 + m = K := ⟨_, rfl⟩
      have hK5 := Lib.hid (show 1 ≤ K ∧ K ≤ 5 by omega)
      obtain ⟨a0, a1, a2, a3⟩ := four_cells hO5.out
      obtain ⟨b0, b1, b2, b3⟩ := four_cells hP5.out
      have hC5d := Lib.hid (show Codes b ca cn cc w5.drew from hC5.out.drew)
      have hO5d := Lib.hid hO5.out.drew
      have hP5d := Lib.hid hP5.out.drew
      have hB5d := Lib.hid hB5.out.drew
      have hbw := Lib.hid (show w.heap.size ≤ b by have := hbo.out; omega)
      go_wp2_with fail
      replace hK := Lib.hid hK
      clear hm0 hm1
      go_region_held3 (fun w' => w'.cell? ⟨w.heap.size, 0, none⟩ = some (.int .i64 X.v.k) ∧ w'.cell? ⟨w.heap.size, 1, none⟩ = some (.int .i64 X.v.n) ∧ w'.cell? ⟨w.heap.size, 2, none⟩ = some (.string X.t) ∧ w'.cell? ⟨w.heap.size, 3, none⟩ = some (.slice X.la X.ls.length X.lc) ∧
          w'.cell? ⟨w.heap.size + 1, 0, none⟩ = some (.int .i64 Y.v.k) ∧ w'.cell? ⟨w.heap.size + 1, 1, none⟩ = some (.int .i64 Y.v.n) ∧ w'.cell? ⟨w.heap.size + 1, 2, none⟩ = some (.string Y.t) ∧ w'.cell? ⟨w.heap.size + 1, 3, none⟩ = some (.slice Y.la Y.ls.length Y.lc))
        (first | go_keep | exact ⟨d0, d1, d2, d3, e0, e1, e2, e3⟩ | exact ⟨f0, f1, f2, f3, g0, g1, g2, g3⟩ | exact ⟨h0, h1, h2, h3, i0, i1, i2, i3⟩)
        ((first
          | (go_at_call 10; refine (dany_any _ ca cn cc _ hC7.out (tabs_draw hD.out hbw.out hB7.out) (list_draw hL.out hbw.out hB7.out)).mono ?_; rintro e u8 ⟨⟨y3, rfl, hy3, -, -, -, -⟩, hH8, hG8⟩; have hO8 := Lib.hid (hO7.out.kept hG8 (by have := hbo.out; intro e; injection e with e; omega)); have hP8 := Lib.hid (hP7.out.kept hG8 (by have := hbo.out; intro e; injection e with e; omega)); have hB8 := Lib.hid (hB7.out.trans (below_of_grown hG8 hB7.out.size hbw.out)); have hz1 := Lib.hid (hy1b.out.grown hG8 hf1.out); have hz2 := Lib.hid (hy2.out.grown hG8 hf2.out); obtain ⟨h0, h1, h2, h3⟩ := four_cells hO8.out; obtain ⟨i0, i1, i2, i3⟩ := four_cells hP8.out; replace hy3 := Lib.hid hy3; clear hH8 hG8; unfold VX.val)
          | (go_at_call 22; refine (dvalue_all K hK5.out _ ca cn cc _ hC6.out (tabs_draw hD.out hbw.out hB6.out) (list_draw hL.out hbw.out hB6.out)).mono ?_; rintro e u7 ⟨⟨y2, rfl, hy2, -, -, -, hf2⟩, hH7, hG7⟩; have hC7 := Lib.hid (hC6.out.still hG7 hH7); have hO7 := Lib.hid (hO6.out.kept hG7 (by have := hbo.out; intro e; injection e with e; omega)); have hP7 := Lib.hid (hP6.out.kept hG7 (by have := hbo.out; intro e; injection e with e; omega)); have hB7 := Lib.hid (hB6.out.trans (below_of_grown hG7 hB6.out.size hbw.out)); have hy1b := Lib.hid (hy1.out.grown hG7 hf1.out); replace hf2 := Lib.hid (show ∀ a, y2.la = some a → a.block ≠ b from fun a e => by have h9 := hf2 a e; have h8 := hC6.out.lt; omega); obtain ⟨f0, f1, f2, f3⟩ := four_cells hO7.out; obtain ⟨g0, g1, g2, g3⟩ := four_cells hP7.out; replace hy2 := Lib.hid hy2; clear hH7 hG7; unfold VX.val)
          | (go_at_call 22; refine (dvalue_all K hK5.out _ ca cn cc _ hC5d.out (tabs_draw hD.out hbw.out hB5d.out) (list_draw hL.out hbw.out hB5d.out)).mono ?_; rintro e u6 ⟨⟨y1, rfl, hy1, -, -, -, hf1⟩, hH6, hG6⟩; have hC6 := Lib.hid (hC5d.out.still hG6 hH6); have hO6 := Lib.hid (hO5d.out.kept hG6 (by have := hbo.out; intro e; injection e with e; omega)); have hP6 := Lib.hid (hP5d.out.kept hG6 (by have := hbo.out; intro e; injection e with e; omega)); have hB6 := Lib.hid (hB5d.out.trans (below_of_grown hG6 hB5d.out.size hbw.out)); replace hf1 := Lib.hid (show ∀ a, y1.la = some a → a.block ≠ b from fun a e => by have h9 := hf1 a e; have h8 := hC5d.out.lt; omega); obtain ⟨d0, d1, d2, d3⟩ := four_cells hO6.out; obtain ⟨e0, e1, e2, e3⟩ := four_cells hP6.out; replace hy1 := Lib.hid hy1; clear hH6 hG6; unfold VX.val)))
      clear a0 a1 a2 a3 b0 b1 b2 b3 d0 d1 d2 d3 e0 e1 e2 e3 f0 f1 f2 f3 g0 g1 g2 g3 h0 h1 h2 h3 i0 i1 i2 i3
      clear hO5 hP5 hB5 hC5 hC5d hO5d hP5d hB5d hO6 hP6 hB6 hC6 hO7 hP7 hB7 hC7 hO8 hP8 hy1 hy1b hy2 hf1 hf2 hK hK5
      have hF := Lib.hid (show VList w (u8.alloc (.cells #[.int .i64 X.v.k, .int .i64 X.v.n, .string X.t, .slice X.la X.ls.length X.lc, .int .i64 Y.v.k, .int .i64 Y.v.n, .string Y.t, .slice Y.la Y.ls.length Y.lc,
          .int .i64 y1.v.k, .int .i64 y1.v.n, .string y1.t, .slice y1.la y1.ls.length y1.lc, .int .i64 y2.v.k, .int .i64 y2.v.n, .string y2.t, .slice y2.la y2.ls.length y2.lc, .int .i64 y3.v.k, .int .i64 y3.v.n, .string y3.t, .slice y3.la y3.ls.length y3.lc] 24)) u8.heap.size [X, Y, y1, y2, y3] from
        vlist_own (Own.new u8 _ _) rfl (hB8.out.alloc hB8.out.size _) (hT.out.below (hB8.out.alloc hB8.out.size _)) (by
          intro x hx
          simp only [List.mem_cons, List.not_mem_nil, or_false] at hx
          rcases hx with rfl | rfl | rfl | rfl | rfl
          · exact vx_self (hX.out.below (hB8.out.alloc hB8.out.size _)) ht400 hl40
          · exact vx_self (hY.out.below (hB8.out.alloc hB8.out.size _)) ht400' hl40'
          · exact hz1.out.below ((Below.refl _ _).alloc (Nat.le_refl _) _)
          · exact hz2.out.below ((Below.refl _ _).alloc (Nat.le_refl _) _)
          · exact hy3.out.below ((Below.refl _ _).alloc (Nat.le_refl _) _)))
      obtain ⟨xs, hxs⟩ : ∃ xs : List VX, Hid (xs = [X, Y, y1, y2, y3]) := ⟨[X, Y, y1, y2, y3], rfl⟩
      have hxl : xs.length = 5 := by rw [hxs.out]; rfl
      rw [← hxs.out] at hF
      replace hxl := Lib.hid hxl
      clear hxs hz1 hz2 hy3 hB8 hT hX hY hbo hbw hD hL hC hmx hmy hl40 hl40' ht400 ht400'
      go_wp2
      generalize u8.alloc (.cells _ 24) = w9 at hF ⊢
      generalize u8.heap.size = A at hF ⊢
      go_loopw [10] (fun i wr => ∃ k : Nat, k ≤ 5 ∧ i = .int .i64 k ∧ Hid (VList w wr A xs)) (fun i _ => 5 - (intOf i).toNat)
      case atStart => exact ⟨0, by omega, rfl, hF.out⟩
      case round =>
        clear hF
        obtain ⟨k, hk, rfl, hF⟩ := hrel
        by_cases hlt : k < 5
        · obtain ⟨wo, rfl⟩ : ∃ wo : World, wo = wr := ⟨_, rfl⟩
          go_wp2
          go_loopw [11] (fun i wq => ∃ j : Nat, j ≤ 5 ∧ i = .int .i64 j ∧ Hid (VList w wq A xs)) (fun i _ => 5 - (intOf i).toNat)
          case atStart => exact ⟨0, by omega, rfl, hF.out⟩
          case round =>
            clear hF
            obtain ⟨j, hj, rfl, hF⟩ := hrel
            by_cases hlj : j < 5
            · have hkl : k < xs.length := by have := hxl.out; omega
              have hjl : j < xs.length := by have := hxl.out; omega
              obtain ⟨x, hxe⟩ : ∃ x : VX, Hid (x = xs[k]) := ⟨xs[k], rfl⟩
              obtain ⟨y, hye⟩ : ∃ y : VX, Hid (y = xs[j]) := ⟨xs[j], rfl⟩
              have hGet := Lib.hid (show ∀ u, VList w u A xs → (VAt u A k x ∧ x.Ok u) ∧ (VAt u A j y ∧ y.Ok u) ∧ Tabs u from fun u h => by
                rw [hxe.out, hye.out]
                exact ⟨h.2.2 k hkl, h.2.2 j hjl, h.2.1⟩)
              clear hxe hye hkl hjl
              obtain ⟨p, q, E, hPQ⟩ := cmp_of x y
              replace hPQ := Lib.hid hPQ
              have n0 : (0 : Int) ≤ (k : Int) := Int.natCast_nonneg _
              have n1 : (k : Int) < 5 := by omega
              have m0 : (0 : Int) ≤ (j : Int) := Int.natCast_nonneg _
              have m1 : (j : Int) < 5 := by omega
              obtain ⟨⟨⟨c0, c1, c2, c3⟩, -⟩, ⟨⟨d0, d1, d2, d3⟩, -⟩, -⟩ := hGet.out _ hF.out
              have ka0 := cell_regrown c0
              have ka1 := cell_regrown c1
              have ka2 := cell_regrown c2
              have ka3 := cell_regrown c3
              have kb0 := cell_regrown d0
              have kb1 := cell_regrown d1
              have kb2 := cell_regrown d2
              have kb3 := cell_regrown d3
              have cK := Lib.hid (fun (dq : Nat) (os : Array Obj) => Calls.regrown_of (cmp_prog hPQ.out (w := Sort.grow (redrawn wr dq) os) (hGet.out _ (hF.out.below (below_regrown wr dq os))).1.2 (hGet.out _ (hF.out.below (below_regrown wr dq os))).2.1.2 (hGet.out _ (hF.out.below (below_regrown wr dq os))).2.2))
              clear c0 c1 c2 c3 d0 d1 d2 d3
              go_wp2_with fail
              refine wp_region_quiet_below (by kernel_rfl) (by kernel_rfl) ?_
              repeat (go_big_quiet_step (first | exact cK.out _ _))
              refine wpQuiet_nil ?_
              intro _ hw'
              obtain ⟨⟨dq, osq⟩, hw''⟩ := hw'
              subst hw''
              replace hF := Lib.hid (hF.out.below (below_regrown wr dq osq))
              generalize Sort.grow (redrawn wr dq) osq = v1 at hF ⊢
              clear cK ka0 ka1 ka2 ka3 kb0 kb1 kb2 kb3
              obtain ⟨⟨⟨c0, c1, c2, c3⟩, -⟩, ⟨⟨d0, d1, d2, d3⟩, -⟩, -⟩ := hGet.out _ hF.out
              have ka0 := cell_regrown c0
              have ka1 := cell_regrown c1
              have ka2 := cell_regrown c2
              have ka3 := cell_regrown c3
              have kb0 := cell_regrown d0
              have kb1 := cell_regrown d1
              have kb2 := cell_regrown d2
              have kb3 := cell_regrown d3
              have cK := Lib.hid (fun (dq : Nat) (os : Array Obj) => Calls.regrown_of (cmp_doc hPQ.out (w := Sort.grow (redrawn v1 dq) os) (hGet.out _ (hF.out.below (below_regrown v1 dq os))).1.2 (hGet.out _ (hF.out.below (below_regrown v1 dq os))).2.1.2 (hGet.out _ (hF.out.below (below_regrown v1 dq os))).2.2))
              clear c0 c1 c2 c3 d0 d1 d2 d3
              go_wp2_with fail
              refine wp_region_quiet_below (by kernel_rfl) (by kernel_rfl) ?_
              repeat (go_big_quiet_step (first | exact cK.out _ _))
              refine wpQuiet_nil ?_
              intro _ hw'
              obtain ⟨⟨dq, osq⟩, hw''⟩ := hw'
              subst hw''
              replace hF := Lib.hid (hF.out.below (below_regrown v1 dq osq))
              generalize Sort.grow (redrawn v1 dq) osq = v2 at hF ⊢
              clear cK ka0 ka1 ka2 ka3 kb0 kb1 kb2 kb3
              obtain ⟨⟨⟨c0, c1, c2, c3⟩, -⟩, ⟨⟨d0, d1, d2, d3⟩, -⟩, -⟩ := hGet.out _ hF.out
              have ka0 := cell_regrown c0
              have ka1 := cell_regrown c1
              have ka2 := cell_regrown c2
              have ka3 := cell_regrown c3
              have kb0 := cell_regrown d0
              have kb1 := cell_regrown d1
              have kb2 := cell_regrown d2
              have kb3 := cell_regrown d3
              have cK := Lib.hid (fun (dq : Nat) (os : Array Obj) => Calls.regrown_of (eq_prog hPQ.out (w := Sort.grow (redrawn v2 dq) os) (hGet.out _ (hF.out.below (below_regrown v2 dq os))).1.2 (hGet.out _ (hF.out.below (below_regrown v2 dq os))).2.1.2))
              have cR := Lib.hid (fun (dq : Nat) (os : Array Obj) => Calls.regrown_of (eq_doc hPQ.out (w := Sort.grow (redrawn v2 dq) os) (hGet.out _ (hF.out.below (below_regrown v2 dq os))).1.2 (hGet.out _ (hF.out.below (below_regrown v2 dq os))).2.1.2))
              clear c0 c1 c2 c3 d0 d1 d2 d3
              go_wp2_with fail
              refine wp_region_quiet_below (by kernel_rfl) (by kernel_rfl) ?_
              repeat (go_big_quiet_step (first | exact cK.out _ _ | exact cR.out _ _))
              refine wpQuiet_nil ?_
              intro _ hw'
              obtain ⟨⟨dq, osq⟩, hw''⟩ := hw'
              subst hw''
              replace hF := Lib.hid (hF.out.below (below_regrown v2 dq osq))
              generalize Sort.grow (redrawn v2 dq) osq = v3 at hF ⊢
              clear cK cR ka0 ka1 ka2 ka3 kb0 kb1 kb2 kb3
              clear n0 n1 m0 m1
              go_wp2
              go_roundw
              case rel => exact ⟨j + 1, by omega, by go_num, hF.out⟩
              case measure => simp [intOf]; omega
            · go_wp2
              go_roundw
              case rel => exact ⟨k + 1, by omega, by go_num, hF.out⟩
              case measure => simp [intOf]; omega
        · go_wp2
          go_ret
          exact ⟨rfl, hF.out.1⟩

end Go.Proofs.YtnghpjijfdpmkaaGreatDoor.law
