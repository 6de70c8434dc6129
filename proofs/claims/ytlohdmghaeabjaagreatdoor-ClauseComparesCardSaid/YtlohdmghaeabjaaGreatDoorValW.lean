/- Drawn numbers, texts and versions, as valid values. -/
import Derived.Test.YtlohdmghaeabjaaGreatDoorDraw
import Derived.Test.YtlohdmghaeabjaaGreatDoorValL
import Derived.Test.YtlohdmghaeabjaaGreatDoorTab
namespace Go.Proofs.YtlohdmghaeabjaaGreatDoor.value
open Go.RowKit Go.Proofs.YtlohdmghaeabjaaGreatDoor Go.Proofs.YtlohdmghaeabjaaGreatDoor.text Go.Proofs.YtlohdmghaeabjaaGreatDoor.draw

/-- The two tables of the drawing package. -/
def DrawTabs (m : Mem) : Prop :=
  (∀ j : Nat, j < 11 → ∃ s : ByteArray, m ⟨2, j, none⟩ = some (.string s) ∧ validS s.data.toList = true ∧ s.size ≤ 200) ∧
  (∀ j : Nat, j < 6 → ∃ s : ByteArray, m ⟨0, j, none⟩ = some (.string s) ∧ (verS s.data.toList).isSome = true ∧ s.size ≤ 200)
theorem DrawTabs.mono {m m' : Mem} (hs : Sub m m') (h : DrawTabs m) : DrawTabs m' :=
  ⟨fun j hj => let ⟨s, h1, h2⟩ := h.1 j hj; ⟨s, hs _ _ h1, h2⟩, fun j hj => let ⟨s, h1, h2⟩ := h.2 j hj; ⟨s, hs _ _ h1, h2⟩⟩
/-- A valid value without a list. -/
def ValV (K : Int) (e : Ending) : Prop := ∃ (x : Int) (s : ByteArray), e = .returned (.agg #[.int .i64 K, .int .i64 x, .string s, .slice none 0 0]) ∧ checkS ⟨K, x, s.data.toList, []⟩ = 0 ∧ s.size ≤ 200
theorem grown_drawn {b : Nat} {a : Option Addr} {n c : Nat} {w w' : World} {P : Ending → World → Prop} {e : Ending} (h : Drawn b a n c w P e w') : w.grownBy w' (some b) := h.2.2

set_option maxHeartbeats 400000 in
theorem dtext_any (b : Nat) (a : Option Addr) (n c : Nat) (w : World) (h : Codes b a n c w) (hg : DrawTabs (but b w)) :
    Calls Tryz.prog 53 #[.pointer (some ⟨b, 0, none⟩)] w (Drawn b a n c w fun e _ => ∃ s : ByteArray, e = .returned (.string s) ∧ validS s.data.toList = true ∧ s.size ≤ 200) := by
  have hg0 := Lib.hid hg
  have hC := Lib.hid h
  clear hg h
  go_enter Tryz.func53, Tryz.ntmps53
  go_wp2_with fail
  refine (next_any b a n c _ 11 (by omega) (by omega) hC.out).mono ?_
  rintro e w' ⟨⟨m, rfl, hm0, hm1⟩, hH, hG⟩
  obtain ⟨j, rfl⟩ := Int.eq_ofNat_of_zero_le hm0
  obtain ⟨s, hs, hv⟩ := (hg0.out.mono (sub_of_grown hG)).1 j (by omega)
  have hs := but_sub _ _ _ _ hs
  have hH1 := Lib.hid hH
  replace hv := Lib.hid hv
  clear hH
  go_wp2
  go_ret
  exact ⟨⟨_, rfl, hv.out⟩, hH1.out, hG⟩

def numbers9 : Array Value := #[.int .i64 0, .int .i64 1, .int .i64 17, .int .i64 18, .int .i64 19, .int .i64 (-5), .int .i64 64, .int .i64 1099511627776, .int .i64 (-1099511627776)]
theorem numbers9_at (j : Nat) (h : j < 9) : ∃ x : Int, numbers9[j]? = some (.int .i64 x) ∧ -1099511627776 ≤ x ∧ x ≤ 1099511627776 := by
  rcases (show j = 0 ∨ j = 1 ∨ j = 2 ∨ j = 3 ∨ j = 4 ∨ j = 5 ∨ j = 6 ∨ j = 7 ∨ j = 8 by omega) with rfl | rfl | rfl | rfl | rfl | rfl | rfl | rfl | rfl
  all_goals exact ⟨_, rfl, by omega, by omega⟩
theorem check_num {x : Int} (h0 : -1099511627776 ≤ x) (h1 : x ≤ 1099511627776) : checkS ⟨2, x, [], []⟩ = 0 := by
  rw [c_2 (v := ⟨2, x, [], []⟩) rfl rfl, if_neg (by show ¬ (x < _ ∨ _ < x); omega)]
theorem check_txt {s : List UInt8} (h : validS s = true) : checkS ⟨3, 0, s, []⟩ = 0 := by
  rw [c_3 (v := ⟨3, 0, s, []⟩) rfl rfl]; simp [h]
theorem check_vsn {s : List UInt8} (h : (verS s).isSome = true) : checkS ⟨4, 0, s, []⟩ = 0 := by
  rw [c_4 (v := ⟨4, 0, s, []⟩) rfl rfl]; simp [h]

set_option maxHeartbeats 400000 in
theorem dvalue_number (b : Nat) (a : Option Addr) (n c : Nat) (w : World) (h : Codes b a n c w) :
    Calls Tryz.prog 21 #[.pointer (some ⟨b, 0, none⟩), .int .i64 2] w (Drawn b a n c w fun e _ => ValV 2 e) := by
  have hC := Lib.hid h
  have hlt := h.lt
  clear h
  go_enter Tryz.func21, Tryz.ntmps21
  go_wp2_with fail
  refine (next_any b a n c _ 9 (by omega) (by omega) ((hC.out.alloc (.cells zero4 43)).alloc (.cells numbers9 3))).mono ?_
  rintro e w' ⟨⟨m, rfl, hm0, hm1⟩, hH, hG⟩
  obtain ⟨j, rfl⟩ := Int.eq_ofNat_of_zero_le hm0
  obtain ⟨x, hx, hx0, hx1⟩ := numbers9_at j (by omega)
  have hs := (((Own.new (w.alloc (.cells zero4 43)) numbers9 3).kept hG (by simp; omega)).cell j).trans hx
  simp only [World.size_alloc] at hs
  obtain ⟨c0, c1, c2, c3, f0, f1, f2, f3⟩ := own4 (((Own.new w zero4 43).alloc _).kept hG (by simp; omega))
  have hH1 := Lib.hid hH
  have hG1 := Lib.hid (g_call (g_alloc (g_alloc (grown_refl w _) _) _) hG)
  clear hH hG hx
  go_wp2
  refine bodyPost_ret (v := .agg #[.int .i64 2, .int .i64 x, .string ⟨#[]⟩, .slice none 0 0]) (by simp [results, Tryz.results21, go_sem, c0, c1, c2, c3]) rfl ?_
  refine ⟨⟨x, ⟨#[]⟩, rfl, check_num hx0 hx1, by decide⟩, ?_, ?_⟩
  · exact (((hH1.out.set (by simp; omega) _).set (by simp; omega) _).set (by simp; omega) _).set (by simp; omega) _
  · exact g_setCell (g_setCell (g_setCell (g_setCell hG1.out (by simp) _) (by simp) _) (by simp) _) (by simp) _

set_option maxHeartbeats 400000 in
theorem dvalue_text (b : Nat) (a : Option Addr) (n c : Nat) (w : World) (h : Codes b a n c w) (hg : DrawTabs (but b w)) :
    Calls Tryz.prog 21 #[.pointer (some ⟨b, 0, none⟩), .int .i64 3] w (Drawn b a n c w fun e _ => ValV 3 e) := by
  have hC := Lib.hid h
  have hg0 := Lib.hid (hg.mono (sub_of_grown (World.grownBy_alloc w (.cells zero4 43) (some b))))
  have hlt := h.lt
  clear h hg
  go_enter Tryz.func21, Tryz.ntmps21
  go_wp2_with fail
  refine (dtext_any b a n c _ (hC.out.alloc (.cells zero4 43)) hg0.out).mono ?_
  rintro e w' ⟨⟨s, rfl, hv, hz⟩, hH, hG⟩
  obtain ⟨c0, c1, c2, c3, f0, f1, f2, f3⟩ := own4 ((Own.new w zero4 43).kept hG (by simp; omega))
  have hH1 := Lib.hid hH
  have hG1 := Lib.hid (g_call (g_alloc (grown_refl w _) _) hG)
  replace hv := Lib.hid hv
  clear hH hG
  go_wp2
  refine bodyPost_ret (v := .agg #[.int .i64 3, .int .i64 0, .string s, .slice none 0 0]) (by simp [results, Tryz.results21, go_sem, c0, c1, c2, c3]) rfl ?_
  refine ⟨⟨0, s, rfl, check_txt hv.out, hz⟩, ?_, ?_⟩
  · exact (((hH1.out.set (by simp; omega) _).set (by simp; omega) _).set (by simp; omega) _).set (by simp; omega) _
  · exact g_setCell (g_setCell (g_setCell (g_setCell hG1.out (by simp) _) (by simp) _) (by simp) _) (by simp) _

set_option maxHeartbeats 400000 in
theorem dvalue_version (b : Nat) (a : Option Addr) (n c : Nat) (w : World) (h : Codes b a n c w) (hg : DrawTabs (but b w)) :
    Calls Tryz.prog 21 #[.pointer (some ⟨b, 0, none⟩), .int .i64 4] w (Drawn b a n c w fun e _ => ValV 4 e) := by
  have hC := Lib.hid h
  have hg0 := Lib.hid (hg.mono (sub_of_grown (World.grownBy_alloc w (.cells zero4 43) (some b))))
  have hlt := h.lt
  clear h hg
  go_enter Tryz.func21, Tryz.ntmps21
  go_wp2_with fail
  refine (next_any b a n c _ 6 (by omega) (by omega) (hC.out.alloc (.cells zero4 43))).mono ?_
  rintro e w' ⟨⟨m, rfl, hm0, hm1⟩, hH, hG⟩
  obtain ⟨j, rfl⟩ := Int.eq_ofNat_of_zero_le hm0
  obtain ⟨s, hs, hv, hz⟩ := (hg0.out.mono (sub_of_grown hG)).2 j (by omega)
  have hs := but_sub _ _ _ _ hs
  obtain ⟨c0, c1, c2, c3, f0, f1, f2, f3⟩ := own4 ((Own.new w zero4 43).kept hG (by simp; omega))
  have hH1 := Lib.hid hH
  have hG1 := Lib.hid (g_call (g_alloc (grown_refl w _) _) hG)
  replace hv := Lib.hid hv
  clear hH hG
  go_wp2
  refine bodyPost_ret (v := .agg #[.int .i64 4, .int .i64 0, .string s, .slice none 0 0]) (by simp [results, Tryz.results21, go_sem, c0, c1, c2, c3]) rfl ?_
  refine ⟨⟨0, s, rfl, check_vsn hv.out, hz⟩, ?_, ?_⟩
  · exact (((hH1.out.set (by simp; omega) _).set (by simp; omega) _).set (by simp; omega) _).set (by simp; omega) _
  · exact g_setCell (g_setCell (g_setCell (g_setCell hG1.out (by simp) _) (by simp) _) (by simp) _) (by simp) _

theorem dvalue_any (K : Int) (hK : K = 2 ∨ K = 3 ∨ K = 4) (b : Nat) (a : Option Addr) (n c : Nat) (w : World) (h : Codes b a n c w) (hg : DrawTabs (but b w)) :
    Calls Tryz.prog 21 #[.pointer (some ⟨b, 0, none⟩), .int .i64 K] w (Drawn b a n c w fun e _ => ValV K e) := by
  rcases hK with rfl | rfl | rfl
  · exact dvalue_number b a n c w h
  · exact dvalue_text b a n c w h hg
  · exact dvalue_version b a n c w h hg

end Go.Proofs.YtlohdmghaeabjaaGreatDoor.value

