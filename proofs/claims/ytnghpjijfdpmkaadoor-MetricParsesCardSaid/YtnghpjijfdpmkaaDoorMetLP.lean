/- The law MetricParses: Parse returns the specified metric or error, for every text, for texts of words and for metrics' texts that were changed. -/
import Derived.Test.YtnghpjijfdpmkaaDoorMetCv
import Derived.Test.YtnghpjijfdpmkaaDoorMetV
import Derived.Test.YtnghpjijfdpmkaaDoorMetAw
import Derived.Test.YtnghpjijfdpmkaaDoorMetEq
import Derived.Deep.DeepCutAuto
namespace Go.Proofs.YtnghpjijfdpmkaaDoor.metric
open Go.RowKit Go.Proofs.YtnghpjijfdpmkaaDoor Go.Proofs.YtnghpjijfdpmkaaDoor.text

theorem made_szP {k win cap least before : Int} {s t : ByteArray} (h : MadeM k win cap least before s t) : s.size ≤ maxLen ∧ t.size ≤ maxLen := by
  have hn : ∀ {x : ByteArray}, NameV x → x.size ≤ maxLen := by
    intro x hx
    rcases hx with rfl | rfl
    · show 3 ≤ maxLen; unfold maxLen; omega
    · show 5 ≤ maxLen; unfold maxLen; omega
  obtain ⟨h1, h2, h3, h4, h5, h6, h7, h8, h9, h10, h11, h12, h13⟩ := h
  refine ⟨hn h11, ?_⟩
  by_cases hk : k = 4
  · exact hn (h12 hk)
  · rw [h13 hk]; exact Nat.zero_le _
theorem three_cell {w : World} {x y z : ByteArray} {i : Nat} (hi : i < 3) : ∃ r : ByteArray, (w.alloc (.cells #[.string x, .string y, .string z] 9)).cell? ⟨w.heap.size, i, none⟩ = some (.string r) ∧ (r = x ∨ r = y ∨ r = z) := by
  have h := (Own.new w #[.string x, .string y, .string z] 9).cell i
  rcases (show i = 0 ∨ i = 1 ∨ i = 2 by omega) with rfl | rfl | rfl
  · exact ⟨x, h, Or.inl rfl⟩
  · exact ⟨y, h, Or.inr (Or.inl rfl)⟩
  · exact ⟨z, h, Or.inr (Or.inr rfl)⟩

set_option maxRecDepth 100000 in
set_option maxHeartbeats 16000000 in
theorem parses_walk (x : ByteArray) (a : Option Addr) (n c : Nat) (a2 : Option Addr) (n2 c2 : Nat) (at' how cc : Int) (w : World) (hxz : x.size ≤ maxLen) (h : BytesIn w.cell? a n) (h2 : BytesIn w.cell? a2 n2)
    (ha0 : 0 ≤ at') (ha1 : at' ≤ 65535) (hh0 : 0 ≤ how) (hh1 : how ≤ 65535) (hc0 : 0 ≤ cc) (hc1 : cc ≤ 255) (hT : NTabs w) :
    Calls Tryd.prog 3 #[.string x, .slice a n c, .slice a2 n2 c2, .int .u16 at', .int .u16 how, .int .u8 cc] w fun e w' => e = .returned (.bool true) ∧ Below w.heap.size w w' := by
  replace hT := Lib.hid hT
  replace h := Lib.hid h
  replace h2 := Lib.hid h2
  go_enter Tryd.func3, Tryd.ntmps3
  go_wp2_with fail
  refine (awake_m _ hT.out).mono ?_
  rintro e w1 ⟨rfl, hb1⟩
  replace hb1 := Lib.hid hb1
  by_cases hx : 300 < x.size
  · go_wp2
    go_ret
    exact ⟨rfl, hb1.out⟩
  have hx2 : ¬ (300 : Int) < (x.size : Int) := by omega
  go_wp2_with fail
  refine (made_any a2 n2 c2 w1 (bytesIn_blw h2.out hb1.out)).mono ?_
  rintro e w2 ⟨k, win, cap, least, before, s, t, rfl, hM, hb2⟩
  have hB2 := Lib.hid (hb1.out.trans (hb2.mono hb1.out.size))
  clear hb1 hb2
  have hmv := Lib.hid (made_ok hM)
  have hlen := Lib.hid (made_len hM)
  have hst := Lib.hid (made_szP hM)
  clear hM
  go_wp2_with fail
  refine (print_mr (mvMade k win cap least before s t) s t _ rfl rfl hst.out.1 hst.out.2).mono ?_
  rintro e w3 ⟨rfl, hb3⟩
  rw [printV_ok hmv.out]
  have hB3 := Lib.hid (hB2.out.trans (hb3.mono hB2.out.size))
  have hpos := Lib.hid (print_pos (mvMade k win cap least before s t))
  clear hB2 hb3 hmv hst
  obtain ⟨P, hP⟩ : ∃ P : ByteArray, Hid (P = ⟨(printM (mvMade k win cap least before s t)).toArray⟩) := ⟨_, Lib.hid rfl⟩
  have hPl : P.size ≤ 150 := by rw [hP.out]; exact hlen.out
  have hP0 : 0 < P.size := by rw [hP.out]; exact hpos.out
  rw [← hP.out]
  clear hlen hP hpos
  go_wp2_with fail
  go_loopw [15] (fun s15 wr => ∃ i : Nat, i ≤ 3 ∧ s15 = .int .i64 i ∧ Hid (Below w.heap.size w wr)) (fun s15 _ => 3 - (intOf s15).toNat)
  case atStart => exact ⟨0, by omega, rfl, hB3⟩
  case round =>
    clear hB3
    obtain ⟨i, hi, rfl, hB⟩ := hrel
    by_cases hlt : i < 3
    · have hI : (i : Int) < 3 := by omega
      have hI0 : (0 : Int) ≤ (i : Int) := Int.natCast_nonneg _
      go_upto_region 9 with fail
      go_cut [16] (fun s16 wy => ∃ y : ByteArray, s16 = .string y ∧ Hid (y.size ≤ maxLen) ∧ Hid (Below w.heap.size w wy))
      · go_wp2_with fail
        refine (text_any a n c _ (bytesIn_blw h.out hB.out)).mono ?_
        rintro e w4 ⟨⟨x1, rfl, hx1⟩, hb4⟩
        have hB4 := Lib.hid (hB.out.trans (hb4.mono hB.out.size))
        clear hb4
        obtain ⟨cp, w5, hcv, hcp, hb5, hcl⟩ := conv_bytes P w4
        have hB5 := Lib.hid (hB4.out.trans (hb5.mono hB4.out.size))
        replace hcl := Lib.hid hcl
        clear hb5
        go_wp2_with fail
        refine (spoil_any w4.heap.size 0 P.size cp P.data.toList at' how cc w5 (by simp) (by omega) hP0 hcp hcl.out ha0 ha1 hh0 hh1 hc0 hc1).mono ?_
        rintro e w6 ⟨⟨v, l', rfl, hBS, hl'⟩, hb6⟩
        have hB6 := Lib.hid (hB5.out.trans (hb6.mono hB5.out.size))
        have hcv2 := convert_bytes hBS
        clear hb6 hBS hcv hcl
        obtain ⟨r, hr, hr3⟩ := three_cell (w := w6) (x := x) (y := x1) (z := ⟨l'.toArray⟩) hlt
        have hrs := Lib.hid (show r.size ≤ maxLen by
          rcases hr3 with rfl | rfl | rfl
          · exact hxz
          · unfold maxLen; omega
          · show l'.length ≤ maxLen
            unfold maxLen; omega)
        have hB7 := Lib.hid (hB6.out.alloc hB6.out.size (.cells #[.string x, .string x1, .string ⟨l'.toArray⟩] 9))
        clear hr3
        go_wp2
        go_meet
        exact ⟨r, rfl, hrs, hB7⟩
      · clear hB
        obtain ⟨y, rfl, hy, hB⟩ := hcut
        obtain ⟨k', win', cap', least', before', e', s', t', hE⟩ := parsePV_shape y
        replace hE := Lib.hid hE
        go_wp2_with fail
        refine (parse_p y _ hy.out (hT.out.below hB.out)).mono ?_
        rintro e w4 ⟨rfl, hb4⟩
        rw [hE.out]
        have hB4 := Lib.hid (hB.out.trans (hb4.mono hB.out.size))
        clear hb4 hB
        have hX := Lib.hid (Own.new w4 #[.int .i64 k', .string s', .string t', .int .i64 win', .int .i64 cap', .int .i64 least', .int .i64 before'] 29)
        have hB5 := Lib.hid (hB4.out.alloc hB4.out.size (.cells #[.int .i64 k', .string s', .string t', .int .i64 win', .int .i64 cap', .int .i64 least', .int .i64 before'] 29))
        clear hB4
        go_wp2_with fail
        generalize w4.alloc (.cells _ 29) = w5 at hX hB5 ⊢
        generalize w4.heap.size = bx at hX ⊢
        refine (parse_r y _ hy.out).mono ?_
        rintro e w6 ⟨rfl, hb6⟩
        rw [hE.out]
        have hX6 := Lib.hid (hX.out.below hb6 hX.out.lt)
        have hB6 := Lib.hid (hB5.out.trans (hb6.mono hB5.out.size))
        have hbx : bx < w6.heap.size := hX6.out.lt
        have hX7 := Lib.hid (hX6.out.alloc (.cells #[.int .i64 k', .string s', .string t', .int .i64 win', .int .i64 cap', .int .i64 least', .int .i64 before'] 29))
        have hY7 := Lib.hid (Own.new w6 #[.int .i64 k', .string s', .string t', .int .i64 win', .int .i64 cap', .int .i64 least', .int .i64 before'] 29)
        have hB7 := Lib.hid (hB6.out.alloc hB6.out.size (.cells #[.int .i64 k', .string s', .string t', .int .i64 win', .int .i64 cap', .int .i64 least', .int .i64 before'] 29))
        clear hb6 hX hB5 hX6 hB6
        obtain ⟨p0, p1, p2, p3, p4, p5, p6⟩ := box7 hX7.out
        obtain ⟨q0, q1, q2, q3, q4, q5, q6⟩ := box7 hY7.out
        have hne := neq_metric k' win' cap' least' before' s' t'
        go_wp2
        go_roundw
        case rel => exact ⟨i + 1, by omega, by go_num, hB7⟩
        case measure => (first | (simp [intOf]; omega) | simp [intOf])
    · obtain rfl : i = 3 := by omega
      go_wp2
      go_ret
      exact ⟨rfl, hB.out⟩

end Go.Proofs.YtnghpjijfdpmkaaDoor.metric

