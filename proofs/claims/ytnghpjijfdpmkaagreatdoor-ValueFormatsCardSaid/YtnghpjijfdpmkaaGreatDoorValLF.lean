/- The law ValueFormats: the source form of any value, or the error, and that it is read as it was. -/
import Derived.Test.YtnghpjijfdpmkaaGreatDoorValLC
import Derived.Test.YtnghpjijfdpmkaaGreatDoorValRF
import Derived.Test.YtnghpjijfdpmkaaGreatDoorValET
import Derived.Test.YtnghpjijfdpmkaaGreatDoorValI
import Derived.Deep.RegionHeld3
import Derived.Lib.QuietBelow
namespace Go.Proofs.YtnghpjijfdpmkaaGreatDoor.law
open Go.RowKit Go.Proofs.YtnghpjijfdpmkaaGreatDoor Go.Proofs.YtnghpjijfdpmkaaGreatDoor.text Go.Proofs.YtnghpjijfdpmkaaGreatDoor.value Go.Proofs.YtnghpjijfdpmkaaGreatDoor.draw

set_option maxRecDepth 100000 in
set_option maxHeartbeats 4000000 in
theorem formats_walk (v : VV) (t : ByteArray) (la : Option Addr) (lc : Nat) (ls : List ByteArray) (a : Option Addr) (n c : Nat) (w : World) (hV : VOk w v t la ls) (hm : ls.length ≤ 9223372036854775807)
    (hC : BytesAt w.cell? a n c) (hT : Tabs w) (hD : DrawTabs w.cell?) (hL : ListTab w.cell?) :
    Calls Tryz.prog 4 #[.agg #[.int .i64 v.k, .int .i64 v.n, .string t, .slice la ls.length lc], .slice a n c] w fun e w' => e = .returned (.bool true) ∧ Below w.heap.size w w' := by
  have hO := Lib.hid (Own.new w #[.int .i64 v.k, .int .i64 v.n, .string t, .slice la ls.length lc] 24)
  have hB := Lib.hid (show Below w.heap.size w (w.alloc (.cells #[.int .i64 v.k, .int .i64 v.n, .string t, .slice la ls.length lc] 24)) from (Below.refl _ _).alloc (Nat.le_refl _) _)
  replace hT := Lib.hid hT
  replace hD := Lib.hid hD
  replace hL := Lib.hid hL
  replace hC := Lib.hid hC
  replace hV := Lib.hid hV
  go_enter Tryz.func4, Tryz.ntmps4
  go_wp2_with fail
  refine (awake_any _ (hT.out.below hB.out)).mono ?_
  rintro e w1 ⟨rfl, hb1⟩
  have hO1 := Lib.hid (hO.out.below hb1 hO.out.lt)
  have hB1 := Lib.hid (hB.out.trans (hb1.mono hB.out.size))
  have hV1 := Lib.hid (hV.out.below hB1.out)
  clear hb1 hO hB
  obtain ⟨a0, a1, a2, a3⟩ := box4 hO1.out
  go_wp2_with fail
  refine (small_any v.k v.n t la lc ls _ hV1.out.rows hm).mono ?_
  rintro e w2 ⟨rfl, hb2⟩
  have hO2 := Lib.hid (hO1.out.below hb2 hO1.out.lt)
  have hB2 := Lib.hid (hB1.out.trans (hb2.mono hB1.out.size))
  clear hb2 hO1 hB1 hV1 a0 a1 a2 a3
  obtain ⟨a0, a1, a2, a3⟩ := box4 hO2.out
  cases hsm : smallB t ls with
  | false =>
    go_wp2
    go_ret
    exact ⟨rfl, hB2.out⟩
  | true =>
    obtain ⟨hl40, ht400⟩ := small_of hsm
    have hC2 := Lib.hid (hC.out.mono (sub_of_below hB2.out.drew))
    have hO2d := Lib.hid hO2.out.drew
    have hB2d := Lib.hid hB2.out.drew
    have hwb := Lib.hid hB2.out.size
    clear hsm
    go_wp2_with fail
    go_region_held3 (fun w' => w'.cell? ⟨w.heap.size, 0, none⟩ = some (.int .i64 v.k) ∧ w'.cell? ⟨w.heap.size, 1, none⟩ = some (.int .i64 v.n) ∧ w'.cell? ⟨w.heap.size, 2, none⟩ = some (.string t) ∧ w'.cell? ⟨w.heap.size, 3, none⟩ = some (.slice la ls.length lc))
      (first | go_keep | exact ⟨d0, d1, d2, d3⟩ | exact ⟨e0, e1, e2, e3⟩)
      ((first
        | (go_at_call 9; refine (new_any a n c 10 _ (by omega) (by omega) hC2.out).mono ?_; rintro e u1 ⟨rfl, ⟨ca, cn, cc, hCo⟩, hb3⟩; have hO3 := Lib.hid (hO2d.out.below hb3 hO2d.out.lt); have hB3 := Lib.hid (hB2d.out.trans (hb3.mono hB2d.out.size)); obtain ⟨d0, d1, d2, d3⟩ := box4 hO3.out; replace hCo := Lib.hid hCo; clear hb3)
        | (go_at_call 10; refine (dany_any _ ca cn cc _ hCo.out (tabs_draw hD.out hwb.out hB3.out) (list_draw hL.out hwb.out hB3.out)).mono ?_; rintro e u2 ⟨⟨y, rfl, hy, hyc, hyt, hyl, hyf⟩, hH4, hG4⟩; have hO4 := Lib.hid (hO3.out.kept hG4 (by have hq := hO2d.out.lt; intro e; injection e with e; exact absurd hq (by rw [e]; exact Nat.lt_irrefl _))); have hB4 := Lib.hid (hB3.out.trans (below_of_grown hG4 hB3.out.size hwb.out)); obtain ⟨e0, e1, e2, e3⟩ := box4 hO4.out; replace hy := Lib.hid hy; clear hH4 hG4 hyc; unfold VX.val)))
    clear hO2 hB2 hC2 hO2d hB2d a0 a1 a2 a3 hO3 hB3 d0 d1 d2 d3 hCo hO4 e0 e1 e2 e3
    have hF := Lib.hid (show VList w (u2.alloc (.cells #[.int .i64 v.k, .int .i64 v.n, .string t, .slice la ls.length lc, .int .i64 y.v.k, .int .i64 y.v.n, .string y.t, .slice y.la y.ls.length y.lc] 24)) u2.heap.size [⟨v, t, la, lc, ls⟩, y] from
      vlist_own (Own.new u2 _ _) rfl (hB4.out.alloc hB4.out.size _) (hT.out.below (hB4.out.alloc hB4.out.size _)) (by
        intro x hx
        simp only [List.mem_cons, List.not_mem_nil, or_false] at hx
        rcases hx with rfl | rfl
        · exact vx_self (hV.out.below (hB4.out.alloc hB4.out.size _)) ht400 hl40
        · exact hy.out.below ((Below.refl _ _).alloc (Nat.le_refl _) _)))
    obtain ⟨xs, hxs⟩ : ∃ xs : List VX, Hid (xs = [⟨v, t, la, lc, ls⟩, y]) := ⟨_, rfl⟩
    have hxl : xs.length = 2 := by rw [hxs.out]; rfl
    rw [← hxs.out] at hF
    replace hxl := Lib.hid hxl
    clear hxs hy hB4 hT hV
    go_wp2
    generalize u2.alloc (.cells _ 24) = w4 at hF ⊢
    generalize u2.heap.size = A at hF ⊢
    go_loopw [6] (fun i wr => ∃ k : Nat, k ≤ 2 ∧ i = .int .i64 k ∧ Hid (VList w wr A xs)) (fun i _ => 2 - (intOf i).toNat)
    case atStart => exact ⟨0, by omega, rfl, hF.out⟩
    case round =>
      clear hF
      obtain ⟨k, hk, rfl, hF⟩ := hrel
      by_cases hlt : k < 2
      · have hkl : k < xs.length := by have := hxl.out; omega
        obtain ⟨⟨c0, c1, c2, c3⟩, hx⟩ := hF.out.2.2 k hkl
        obtain ⟨x, hxe⟩ : ∃ x : VX, Hid (x = xs[k]) := ⟨xs[k], rfl⟩
        rw [← hxe.out] at c0 c1 c2 c3 hx
        have hx1 := Lib.hid hx.ok
        have htz := hx.tz
        have hlz := hx.lz
        clear hx
        go_wp2_with fail
        refine (format_any x.v x.t x.la x.lc x.ls _ hx1.out (by omega) (by omega) hF.out.2.1).mono ?_
        rintro e w5 ⟨rfl, hb5⟩
        replace hF := Lib.hid (hF.out.below hb5)
        replace hx1 := Lib.hid (hx1.out.below hb5)
        clear hb5 c0 c1 c2 c3
        obtain ⟨⟨c0, c1, c2, c3⟩, -⟩ := hF.out.2.2 k hkl
        rw [← hxe.out] at c0 c1 c2 c3
        by_cases ec : checkS x.v = 0
        · have hfz := form_len ec (by rw [← hx1.out.text]; simpa using htz)
          have hP := parse_form ec
          unfold formR
          rw [if_pos ec]
          obtain ⟨f, hf⟩ : ∃ f : ByteArray, Hid (f = ⟨(formS x.v).toArray⟩) := ⟨⟨(formS x.v).toArray⟩, rfl⟩
          have hPf : parseP f.data.toList = some x.v := by rw [hf.out]; exact hP
          have hfs : f.size ≤ 200000 := by rw [hf.out]; show (formS x.v).toArray.size ≤ _; simpa using hfz
          rw [← hf.out]
          replace ec := Lib.hid ec
          replace hPf := Lib.hid hPf
          clear hfz hP
          go_wp2_with fail
          refine (format_ref x.v x.t x.la x.lc x.ls _ hx1.out (by omega) hF.out.2.1).mono ?_
          rintro e w6 ⟨rfl, hb6⟩
          replace hF := Lib.hid (hF.out.below hb6)
          replace hx1 := Lib.hid (hx1.out.below hb6)
          clear hb6 c0 c1 c2 c3
          obtain ⟨⟨c0, c1, c2, c3⟩, -⟩ := hF.out.2.2 k hkl
          rw [← hxe.out] at c0 c1 c2 c3
          unfold formR
          rw [if_pos ec.out, ← hf.out]
          go_wp2_with fail
          refine (parseV_any f _ (by omega) hF.out.2.1).mono ?_
          intro e w7 hPP
          rw [hPf.out] at hPP
          obtain ⟨t', la', lc', ls', rfl, hok', hls', ht', hlf', hb7⟩ := hPP
          replace hF := Lib.hid ((hF.out.below hb7).below ((Below.refl _ _).alloc (Nat.le_refl _) (.cells #[.int .i64 x.v.k, .int .i64 x.v.n, .string t', .slice la' ls'.length lc'] 24)))
          have hO8 := Lib.hid (Own.new w7 #[.int .i64 x.v.k, .int .i64 x.v.n, .string t', .slice la' ls'.length lc'] 24)
          have hok8 := Lib.hid (hok'.below ((Below.refl _ _).alloc (Nat.le_refl _) (.cells #[.int .i64 x.v.k, .int .i64 x.v.n, .string t', .slice la' ls'.length lc'] 24)))
          have hx8 := Lib.hid ((hx1.out.below hb7).below ((Below.refl _ _).alloc (Nat.le_refl _) (.cells #[.int .i64 x.v.k, .int .i64 x.v.n, .string t', .slice la' ls'.length lc'] 24)))
          clear hx1 hok' hlf' hb7 c0 c1 c2 c3 hPf ec hf ht' hfs
          go_wp2_with fail
          generalize w7.alloc (.cells #[.int .i64 x.v.k, .int .i64 x.v.n, .string t', .slice la' ls'.length lc'] 24) = w8 at hF hO8 hok8 hx8 ⊢
          generalize w7.heap.size = B8 at hO8 ⊢
          obtain ⟨⟨c0, c1, c2, c3⟩, -⟩ := hF.out.2.2 k hkl
          rw [← hxe.out] at c0 c1 c2 c3
          obtain ⟨d0, d1, d2, d3⟩ := box4 hO8.out
          have n0 : (0 : Int) ≤ (k : Int) := Int.natCast_nonneg _
          have n1 : (k : Int) < 2 := by omega
          have ka0 := cell_regrown c0
          have ka1 := cell_regrown c1
          have ka2 := cell_regrown c2
          have ka3 := cell_regrown c3
          have kb0 := cell_regrown d0
          have kb1 := cell_regrown d1
          have kb2 := cell_regrown d2
          have kb3 := cell_regrown d3
          have cK := Lib.hid (fun (dq : Nat) (os : Array Obj) => Calls.regrown_of (equal_same (w := Sort.grow (redrawn w8 dq) os) lc' x.lc (hok8.out.below (below_regrown w8 dq os)) (hx8.out.below (below_regrown w8 dq os)) (by omega)))
          clear c0 c1 c2 c3 d0 d1 d2 d3
          go_wp2_with fail
          refine wp_region_quiet_below (by kernel_rfl) (by kernel_rfl) ?_
          repeat (go_big_quiet_step (exact cK.out _ _))
          refine wpQuiet_nil ?_
          intro _ hw'
          obtain ⟨⟨dq, osq⟩, hw''⟩ := hw'
          subst hw''
          replace hF := Lib.hid (hF.out.below (below_regrown w8 dq osq))
          generalize Sort.grow (redrawn w8 dq) osq = w9 at hF ⊢
          clear cK ka0 ka1 ka2 ka3 kb0 kb1 kb2 kb3 n0 n1
          go_wp2
          go_roundw
          case rel => exact ⟨k + 1, by omega, by go_num, hF.out⟩
          case measure => simp [intOf]; omega
        · unfold formR
          rw [if_neg ec]
          obtain ⟨q, hq⟩ : ∃ q, Hid (q = checkS x.v) := ⟨checkS x.v, rfl⟩
          have hq0 : (q == 0) = false := by rw [hq.out]; simpa using ec
          rw [← hq.out]
          replace ec := Lib.hid ec
          go_wp2_with fail
          refine (format_ref x.v x.t x.la x.lc x.ls _ hx1.out (by omega) hF.out.2.1).mono ?_
          rintro e w6 ⟨rfl, hb6⟩
          replace hF := Lib.hid (hF.out.below hb6)
          clear hb6 c0 c1 c2 c3 hx1
          unfold formR
          rw [if_neg ec.out, ← hq.out]
          go_wp2
          go_roundw
          case rel => exact ⟨k + 1, by omega, by go_num, hF.out⟩
          case measure => simp [intOf]; omega
      · go_wp2
        go_ret
        exact ⟨rfl, hF.out.1⟩

end Go.Proofs.YtnghpjijfdpmkaaGreatDoor.law
