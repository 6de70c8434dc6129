/- The law ValueParses: which value any text is, or that it is none, also a source form that was changed in one place. -/
import Derived.Test.YtnghpjijfdpmkaaGreatDoorValLC
import Derived.Test.YtnghpjijfdpmkaaGreatDoorValRF
import Derived.Test.YtnghpjijfdpmkaaGreatDoorValRP
import Derived.Lib.QuietBelow
import Derived.Laws.IdiomStrings
import Derived.Laws.BytesArg
import Derived.BigRegion
import Derived.IntWalk
namespace Go.Proofs.YtnghpjijfdpmkaaGreatDoor.law
open Go.RowKit Go.Proofs.YtnghpjijfdpmkaaGreatDoor Go.Proofs.YtnghpjijfdpmkaaGreatDoor.text Go.Proofs.YtnghpjijfdpmkaaGreatDoor.value Go.Proofs.YtnghpjijfdpmkaaGreatDoor.draw

def rv (r : Option VV) : VV := match r with | some v => v | none => ⟨0, 0, [], []⟩
def rq (r : Option VV) : Int := match r with | some _ => 0 | none => 1
/-- What both Parse give, in one form. -/
theorem ppost_one {r : Option VV} {m : Nat} {w w' : World} {e : Ending} (h : PPost r m w e w') : ∃ (t : ByteArray) (la : Option Addr) (lc : Nat) (ls : List ByteArray),
    e = .returned (.tuple #[.agg #[.int .i64 (rv r).k, .int .i64 (rv r).n, .string t, .slice la ls.length lc], .int .i64 (rq r)]) ∧ VOk w' (rv r) t la ls ∧ ls.length ≤ 21 ∧ Below w.heap.size w w' := by
  cases r with
  | none => exact ⟨⟨#[]⟩, none, 0, [], h.1, ⟨rfl, Or.inl rfl, rfl⟩, by simp, h.2⟩
  | some v =>
    obtain ⟨t, la, lc, ls, h1, h2, h3, -, -, h4⟩ := h
    exact ⟨t, la, lc, ls, h1, h2, h3, h4⟩
/-- The bytes of a text in a block. -/
theorem bytes_free (w : World) (C : Array Value) (t : TypeId) (lo hi j : Nat) (h : j < lo) : (w.alloc (.cells C t (lo, hi))).frozen? ⟨w.heap.size, j, none⟩ = false := by
  rw [World.frozen?_alloc_mark]
  have : decide (lo ≤ j) = false := by simp; omega
  rw [this]; rfl

set_option maxRecDepth 100000 in
set_option maxHeartbeats 8000000 in
theorem parses_walk (s : ByteArray) (a : Option Addr) (n c : Nat) (at_ b : Int) (w : World) (hs : s.size ≤ 1048576) (ha0 : -9223372036854775808 ≤ at_) (ha1 : at_ ≤ 9223372036854775807)
    (hC : BytesAt w.cell? a n c) (hT : Tabs w) (hD : DrawTabs w.cell?) (hL : ListTab w.cell?) :
    Calls Tryz.prog 5 #[.string s, .slice a n c, .int .i64 at_, .int .u8 b] w fun e w' => e = .returned (.bool true) ∧ Below w.heap.size w w' := by
  replace hT := Lib.hid hT
  replace hD := Lib.hid hD
  replace hL := Lib.hid hL
  replace hC := Lib.hid hC
  go_enter Tryz.func5, Tryz.ntmps5
  go_wp2_with fail
  refine (awake_any _ hT.out).mono ?_
  rintro e w1 ⟨rfl, hb1'⟩
  have hB1 := Lib.hid hb1'
  clear hb1'
  go_wp2_with fail
  refine (new_any a n c 10 _ (by omega) (by omega) (hC.out.mono (sub_of_below hB1.out))).mono ?_
  rintro e w2 ⟨rfl, ⟨ca, cn, cc, hCo⟩, hb2⟩
  have hbw := Lib.hid hB1.out.size
  have hB2 := Lib.hid (hB1.out.trans (hb2.mono hB1.out.size))
  replace hCo := Lib.hid hCo
  clear hb2 hB1 hC
  generalize w1.heap.size = B at hCo hbw ⊢
  go_wp2_with fail
  refine (dany_any B ca cn cc _ hCo.out (tabs_draw hD.out hbw.out hB2.out) (list_draw hL.out hbw.out hB2.out)).mono ?_
  rintro e w3 ⟨⟨y, rfl, hy, hyc, hyt, hyl, -⟩, hH3, hG3⟩
  have hB3 := Lib.hid (hB2.out.trans (below_of_grown hG3 hB2.out.size hbw.out))
  have hy3 := Lib.hid hy
  clear hH3 hG3 hCo hB2 hy hbw hD hL
  unfold VX.val
  have hfz := form_len hyc (by rw [← hy3.out.ok.text]; simp; omega)
  have hfn := form_ne hyc
  obtain ⟨T, hTd⟩ : ∃ T : ByteArray, Hid (T = ⟨(formS y.v).toArray⟩) := ⟨⟨(formS y.v).toArray⟩, rfl⟩
  have hTz : T.size ≤ 200000 := by rw [hTd.out]; show (formS y.v).toArray.size ≤ _; simpa using hfz
  have hTn : 0 < T.size := by
    rw [hTd.out]
    show 0 < (formS y.v).toArray.size
    have : 0 < (formS y.v).length := List.length_pos_iff.2 hfn
    simpa using this
  replace hyc := Lib.hid hyc
  clear hfz hfn
  go_wp2_with fail
  refine (format_ref y.v y.t y.la y.lc y.ls _ hy3.out.ok (by omega) (hT.out.below hB3.out)).mono ?_
  rintro e w4 ⟨rfl, hb4⟩
  have hB4 := Lib.hid (hB3.out.trans (hb4.mono hB3.out.size))
  unfold formR
  rw [if_pos hyc.out, ← hTd.out]
  clear hb4 hB3 hy3 hyc hTd
  have hcv := run_bytes_of_string (P := Tryz.prog) w4 9 25 5 T Tryz.underlying9 Tryz.underlying25 Tryz.underlying5
  obtain ⟨cap, hcap⟩ : ∃ cap, Hid (cap = grownCap w4 T.size 0 5) := ⟨grownCap w4 T.size 0 5, rfl⟩
  rw [← hcap.out] at hcv
  have hB5 := Lib.hid (show Below w.heap.size w (w4.alloc (.cells (bytesRow T cap) 5 ((bytesRow T cap).size, (bytesRow T cap).size + 1))).drew from hB4.out.drew.alloc hB4.out.drew.size (.cells (bytesRow T cap) 5 ((bytesRow T cap).size, (bytesRow T cap).size + 1)))
  have hc5 := Lib.hid (show ∀ j (h : j < T.size), (w4.alloc (.cells (bytesRow T cap) 5 ((bytesRow T cap).size, (bytesRow T cap).size + 1))).drew.cell? ⟨w4.heap.size, j, none⟩ = some (.int .u8 (T.data[j].toNat : Int)) from fun j h => by
    have e := World.cell?_alloc_mark w4.drew (bytesRow T cap) 5 ((bytesRow T cap).size, (bytesRow T cap).size + 1) j
    rw [bytesRow_at T cap j h] at e
    exact e)
  have hf5 := Lib.hid (show ∀ j, j < T.size → (w4.alloc (.cells (bytesRow T cap) 5 ((bytesRow T cap).size, (bytesRow T cap).size + 1))).drew.frozen? ⟨w4.heap.size, j, none⟩ = false from fun j h =>
    bytes_free w4.drew _ _ _ _ j (by simp [bytesRow]; have : T.data.size = T.size := rfl; omega))
  have hsz5 := Lib.hid (show w4.heap.size < (w4.alloc (.cells (bytesRow T cap) 5 ((bytesRow T cap).size, (bytesRow T cap).size + 1))).drew.heap.size by simp)
  go_wp2_with fail
  generalize (w4.alloc (.cells (bytesRow T cap) 5 _)).drew = w5 at hB5 hc5 hf5 hsz5 hcv ⊢
  clear hcv hcap
  have hBx := Lib.hid (show w.heap.size ≤ w4.heap.size from hB4.out.size)
  generalize w4.heap.size = Bx at hc5 hf5 hsz5 hBx ⊢
  refine (mod_eq at_ (T.size : Int) _ (by omega) (by omega) ha0 ha1).mono ?_
  rintro e w6 ⟨rfl, rfl⟩
  obtain ⟨k, hk⟩ : ∃ k : Nat, at_ % (T.size : Int) = (k : Int) := ⟨(at_ % (T.size : Int)).toNat, by have := Int.emod_nonneg at_ (show (T.size : Int) ≠ 0 by omega); omega⟩
  have hkT : k < T.size := by have := Int.emod_lt_of_pos at_ (show (0 : Int) < T.size by omega); omega
  rw [hk]
  clear hk
  have ck := hc5.out k hkT
  have fk := hf5.out k hkT
  have n0 : (0 : Int) ≤ (k : Int) := Int.natCast_nonneg _
  have n1 : (k : Int) < (T.size : Int) := by omega
  obtain ⟨NS, hNS⟩ : ∃ NS : List Int, Hid (NS = (T.data.toList.map fun u : UInt8 => (u.toNat : Int)).set k b) := ⟨(T.data.toList.map fun u : UInt8 => (u.toNat : Int)).set k b, rfl⟩
  have hNl : NS.length = T.size := by rw [hNS.out]; simp
  obtain ⟨R, hR⟩ : ∃ R : ByteArray, Hid (R = strOfNums NS) := ⟨strOfNums NS, rfl⟩
  have hRz : R.size = T.size := by rw [hR.out, strOfNums_size, hNl]
  have hc7 := Lib.hid (show ∀ i, i < T.size → (w6.setCell ⟨Bx, k, none⟩ (.int .u8 b)).cell? ⟨Bx, 0 + i, none⟩ = some (.int .u8 (NS.getD i 0)) from fun i hi => by
    rw [hNS.out]
    rw [Nat.zero_add]
    by_cases h : k = i
    · subst h
      rw [World.cell?_setCell_same _ _ _ ck, List.getD_eq_getElem?_getD, List.getElem?_set_self (by simpa using hi)]
      rfl
    · rw [World.cell?_setCell_other _ _ _ _ (by intro e; injection e with _ e; exact h e), hc5.out i hi, List.getD_eq_getElem?_getD, List.getElem?_set_ne h, List.getElem?_map, List.getElem?_eq_getElem (by simpa using hi)]
      rfl)
  have hcv := run_convert_bytes_arg (P := Tryz.prog) (w6.setCell ⟨Bx, k, none⟩ (.int .u8 b)) 25 5 Tryz.underlying25 Tryz.underlying5 Bx 0 T.size cap NS hNl hc7.out 9 Tryz.underlying9
  have hcw := run_convert_bytes_arg (P := Tryz.prog) (w6.setCell ⟨Bx, k, none⟩ (.int .u8 b)).drew 25 5 Tryz.underlying25 Tryz.underlying5 Bx 0 T.size cap NS hNl hc7.out 9 Tryz.underlying9
  rw [← hR.out] at hcv hcw
  have hB7 := Lib.hid (show Below w.heap.size w (w6.setCell ⟨Bx, k, none⟩ (.int .u8 b)) from hB5.out.setCell hBx.out _)
  clear hR hNS hNl
  go_wp2_with fail
  generalize w6.setCell ⟨Bx, k, none⟩ (.int .u8 b) = w7 at hcv hcw hB7 ⊢
  clear ck fk hc7 hB5 hc5 hf5
  go_region
  clear hcv hcw
  have hF := Lib.hid (show ListAt w (w7.alloc (.cells #[.string s, .string T, .string R, .string (T.extract 0 k), .string (T ++ s), .string (⟨#[91]⟩ ++ s ++ ⟨#[93]⟩), .string (⟨#[91, 34, 97, 34, 44]⟩ ++ s ++ ⟨#[93]⟩), .string (s ++ ⟨#[46, 48, 46, 49]⟩)] 9)).drew w7.heap.size 8 2000000 from
    ⟨(hB7.out.alloc hB7.out.size _).drew, texts_new (ts := [s, T, R, T.extract 0 k, T ++ s, ⟨#[91]⟩ ++ s ++ ⟨#[93]⟩, ⟨#[91, 34, 97, 34, 44]⟩ ++ s ++ ⟨#[93]⟩, s ++ ⟨#[46, 48, 46, 49]⟩]) rfl rfl rfl (by
      intro u hu
      simp only [List.mem_cons, List.not_mem_nil, or_false] at hu
      have e1 : (⟨#[91]⟩ : ByteArray).size = 1 := rfl
      have e2 : (⟨#[93]⟩ : ByteArray).size = 1 := rfl
      have e3 : (⟨#[91, 34, 97, 34, 44]⟩ : ByteArray).size = 5 := rfl
      have e4 : (⟨#[46, 48, 46, 49]⟩ : ByteArray).size = 4 := rfl
      rcases hu with rfl | rfl | rfl | rfl | rfl | rfl | rfl | rfl
      · omega
      · omega
      · omega
      · rw [ByteArray.size_extract]; omega
      · rw [ByteArray.size_append]; omega
      · rw [ByteArray.size_append, ByteArray.size_append]; omega
      · rw [ByteArray.size_append, ByteArray.size_append]; omega
      · rw [ByteArray.size_append]; omega), hT.out.below (hB7.out.alloc hB7.out.size _).drew⟩)
  generalize (w7.alloc (.cells #[.string s, .string T, .string R, .string (T.extract 0 k), .string (T ++ s), .string (⟨#[91]⟩ ++ s ++ ⟨#[93]⟩), .string (⟨#[91, 34, 97, 34, 44]⟩ ++ s ++ ⟨#[93]⟩), .string (s ++ ⟨#[46, 48, 46, 49]⟩)] 9)).drew = w8 at hF ⊢
  generalize w7.heap.size = A at hF ⊢
  clear hB7 hT hsz5 hBx hRz
  go_wp2
  go_loopw [58] (fun i wr => ∃ j : Nat, j ≤ 8 ∧ i = .int .i64 j ∧ Hid (ListAt w wr A 8 2000000)) (fun i _ => 8 - (intOf i).toNat)
  case atStart => exact ⟨0, by omega, rfl, hF.out⟩
  case round =>
    clear hF
    obtain ⟨j, hj, rfl, hF⟩ := hrel
    by_cases hlt : j < 8
    · obtain ⟨u, hcell, hus⟩ := hF.out.2.1 j hlt
      go_wp2_with fail
      refine (parseV_any u _ (by omega) hF.out.2.2).mono ?_
      intro e w9 hP
      obtain ⟨t1, la1, lc1, ls1, rfl, hok1, hl1, hb9⟩ := ppost_one hP
      obtain ⟨V, hV⟩ : ∃ V : VV, Hid (V = rv (parseP u.data.toList)) := ⟨rv (parseP u.data.toList), rfl⟩
      obtain ⟨q, hq⟩ : ∃ q : Int, Hid (q = rq (parseP u.data.toList)) := ⟨rq (parseP u.data.toList), rfl⟩
      rw [← hV.out] at hok1 ⊢
      rw [← hq.out]
      replace hF := Lib.hid ((hF.out.below hb9).below ((Below.refl _ _).alloc (Nat.le_refl _) (.cells #[.int .i64 V.k, .int .i64 V.n, .string t1, .slice la1 ls1.length lc1] 24)))
      have hO := Lib.hid (Own.new w9 #[.int .i64 V.k, .int .i64 V.n, .string t1, .slice la1 ls1.length lc1] 24)
      have hk1 := Lib.hid (hok1.below ((Below.refl _ _).alloc (Nat.le_refl _) (.cells #[.int .i64 V.k, .int .i64 V.n, .string t1, .slice la1 ls1.length lc1] 24)))
      clear hP hb9 hcell hok1
      go_wp2_with fail
      generalize w9.alloc (.cells #[.int .i64 V.k, .int .i64 V.n, .string t1, .slice la1 ls1.length lc1] 24) = w10 at hF hO hk1 ⊢
      generalize w9.heap.size = P1 at hO ⊢
      refine (parse3_ref u _ (by omega) hF.out.2.2).mono ?_
      intro e w11 hP
      rw [parse_same] at hP
      obtain ⟨t2, la2, lc2, ls2, rfl, hok2, hl2, hb11⟩ := ppost_one hP
      rw [← hV.out] at hok2 ⊢
      rw [← hq.out]
      have hO2 := Lib.hid ((hO.out.below hb11 hO.out.lt).alloc (.cells #[.int .i64 V.k, .int .i64 V.n, .string t2, .slice la2 ls2.length lc2] 24))
      have hk2 := Lib.hid ((hk1.out.below hb11).below ((Below.refl _ _).alloc (Nat.le_refl _) (.cells #[.int .i64 V.k, .int .i64 V.n, .string t2, .slice la2 ls2.length lc2] 24)))
      have hk3 := Lib.hid (hok2.below ((Below.refl _ _).alloc (Nat.le_refl _) (.cells #[.int .i64 V.k, .int .i64 V.n, .string t2, .slice la2 ls2.length lc2] 24)))
      have hO3 := Lib.hid (Own.new w11 #[.int .i64 V.k, .int .i64 V.n, .string t2, .slice la2 ls2.length lc2] 24)
      replace hF := Lib.hid ((hF.out.below hb11).below ((Below.refl _ _).alloc (Nat.le_refl _) (.cells #[.int .i64 V.k, .int .i64 V.n, .string t2, .slice la2 ls2.length lc2] 24)))
      clear hP hb11 hok2 hO hk1 hV hq
      obtain ⟨c0, c1, c2, c3⟩ := box4 hO2.out
      obtain ⟨d0, d1, d2, d3⟩ := box4 hO3.out
      go_wp2_with fail
      refine (equal_same lc1 lc2 hk2.out hk3.out (by omega)).mono ?_
      rintro e w12 ⟨rfl, hb12⟩
      replace hF := Lib.hid (hF.out.below hb12)
      clear hb12 c0 c1 c2 c3 d0 d1 d2 d3 hO2 hO3 hk2 hk3
      go_wp2
      go_roundw
      case rel => exact ⟨j + 1, by omega, by go_num, hF.out⟩
      case measure => simp [intOf]; omega
    · go_wp2
      go_ret
      exact ⟨rfl, hF.out.1⟩

end Go.Proofs.YtnghpjijfdpmkaaGreatDoor.law
