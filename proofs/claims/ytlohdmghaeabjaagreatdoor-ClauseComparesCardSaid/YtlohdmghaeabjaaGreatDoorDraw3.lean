/- Walks of the drawing functions that give one value of a kind. -/
import Derived.Test.YtlohdmghaeabjaaGreatDoorDraw2
import Derived.Test.YtlohdmghaeabjaaGreatDoorDrawN
namespace Go.Proofs.YtlohdmghaeabjaaGreatDoor.draw
open Go.RowKit Go.Proofs.YtlohdmghaeabjaaGreatDoor.schema

/-- A value of a kind, as it is handed back. -/
def ValIs (B b : Nat) (k : Int) (e : Ending) (w : World) : Prop := ∃ d : VD, e = .returned (.agg d.row.toArray) ∧ d.kind = k ∧ LAt (newM B b w) d
def zeroV : Array Value := #[.int .i64 0, .int .i64 0, .string ⟨#[]⟩, .slice none 0 0]

theorem own4 {w : World} {n : Nat} {x0 x1 x2 x3 : Value} {t : TypeId} (h : Own w n #[x0, x1, x2, x3] t) :
    w.cell? ⟨n, 0, none⟩ = some x0 ∧ w.cell? ⟨n, 1, none⟩ = some x1 ∧ w.cell? ⟨n, 2, none⟩ = some x2 ∧ w.cell? ⟨n, 3, none⟩ = some x3 ∧
    w.frozen? ⟨n, 0, none⟩ = false ∧ w.frozen? ⟨n, 1, none⟩ = false ∧ w.frozen? ⟨n, 2, none⟩ = false ∧ w.frozen? ⟨n, 3, none⟩ = false :=
  ⟨h.cell 0, h.cell 1, h.cell 2, h.cell 3, h.free 0, h.free 1, h.free 2, h.free 3⟩

set_option maxHeartbeats 400000 in
theorem value_bool (b : Nat) (a : Option Addr) (n c : Nat) (w : World) (h : Codes b a n c w) :
    Calls Tryz.prog 21 #[.pointer (some ⟨b, 0, none⟩), .int .i64 1] w (Drawn b a n c w fun e w' => ValIs w.heap.size b 1 e w') := by
  have hC := Lib.hid h
  have hlt := h.lt
  clear h
  go_enter Tryz.func21, Tryz.ntmps21
  go_wp2_with fail
  refine (next_any b a n c _ 2 (by omega) (by omega) (hC.out.alloc (.cells zeroV 43))).mono ?_
  rintro e w' ⟨⟨m, rfl, hm0, hm1⟩, hH, hG⟩
  obtain ⟨c0, c1, c2, c3, f0, f1, f2, f3⟩ := own4 ((Own.new w zeroV 43).kept hG (by simp; omega))
  have hH1 := Lib.hid hH
  have hG1 := Lib.hid (g_call (g_alloc (grown_refl w _) _) hG)
  clear hH hG
  go_wp2
  refine bodyPost_ret (v := .agg #[.int .i64 1, .int .i64 m, .string ⟨#[]⟩, .slice none 0 0]) (by simp [results, Tryz.results21, go_sem, c0, c1, c2, c3]) rfl ?_
  refine ⟨⟨⟨1, m, ⟨#[]⟩, none, 0, 0, []⟩, rfl, rfl, LAt.flat _ _ _ _ (by decide)⟩, ?_, ?_⟩
  · exact (((hH1.out.set (by simp; omega) _).set (by simp; omega) _).set (by simp; omega) _).set (by simp; omega) _
  · exact g_setCell (g_setCell (g_setCell (g_setCell hG1.out (by simp) _) (by simp) _) (by simp) _) (by simp) _

def numbers9 : Array Value := #[.int .i64 0, .int .i64 1, .int .i64 17, .int .i64 18, .int .i64 19, .int .i64 (-5), .int .i64 64, .int .i64 1099511627776, .int .i64 (-1099511627776)]

set_option maxHeartbeats 400000 in
theorem value_number (b : Nat) (a : Option Addr) (n c : Nat) (w : World) (h : Codes b a n c w) :
    Calls Tryz.prog 21 #[.pointer (some ⟨b, 0, none⟩), .int .i64 2] w (Drawn b a n c w fun e w' => ValIs w.heap.size b 2 e w') := by
  have hC := Lib.hid h
  have hlt := h.lt
  clear h
  go_enter Tryz.func21, Tryz.ntmps21
  go_wp2_with fail
  refine (next_any b a n c _ 9 (by omega) (by omega) ((hC.out.alloc (.cells zeroV 43)).alloc (.cells numbers9 3))).mono ?_
  rintro e w' ⟨⟨m, rfl, hm0, hm1⟩, hH, hG⟩
  obtain ⟨j, rfl⟩ := Int.eq_ofNat_of_zero_le hm0
  obtain ⟨s, hs⟩ := all_int (A := numbers9.toList) (by decide) (j := j) (show _ < 9 by omega)
  have hs := (((Own.new (w.alloc (.cells zeroV 43)) numbers9 3).kept hG (by simp; omega)).cell j).trans (show numbers9[j]? = _ by simpa using hs)
  simp only [World.size_alloc] at hs
  obtain ⟨c0, c1, c2, c3, f0, f1, f2, f3⟩ := own4 (((Own.new w zeroV 43).alloc _).kept hG (by simp; omega))
  have hH1 := Lib.hid hH
  have hG1 := Lib.hid (g_call (g_alloc (g_alloc (grown_refl w _) _) _) hG)
  clear hH hG
  go_wp2
  refine bodyPost_ret (v := .agg #[.int .i64 2, .int .i64 s, .string ⟨#[]⟩, .slice none 0 0]) (by simp [results, Tryz.results21, go_sem, c0, c1, c2, c3]) rfl ?_
  refine ⟨⟨⟨2, s, ⟨#[]⟩, none, 0, 0, []⟩, rfl, rfl, LAt.flat _ _ _ _ (by decide)⟩, ?_, ?_⟩
  · exact (((hH1.out.set (by simp; omega) _).set (by simp; omega) _).set (by simp; omega) _).set (by simp; omega) _
  · exact g_setCell (g_setCell (g_setCell (g_setCell hG1.out (by simp) _) (by simp) _) (by simp) _) (by simp) _

set_option maxHeartbeats 400000 in
theorem value_text (b : Nat) (a : Option Addr) (n c : Nat) (w : World) (h : Codes b a n c w) (hg : Glob (but b w)) :
    Calls Tryz.prog 21 #[.pointer (some ⟨b, 0, none⟩), .int .i64 3] w (Drawn b a n c w fun e w' => ValIs w.heap.size b 3 e w') := by
  have hC := Lib.hid h
  have hg0 := Lib.hid (hg.mono (sub_of_grown (World.grownBy_alloc w (.cells zeroV 43) (some b))))
  have hlt := h.lt
  clear h hg
  go_enter Tryz.func21, Tryz.ntmps21
  go_wp2_with fail
  refine (text_any b a n c _ (hC.out.alloc (.cells zeroV 43)) hg0.out).mono ?_
  rintro e w' ⟨⟨s, rfl, hz⟩, hH, hG⟩
  have hz1 := Lib.hid hz
  clear hz
  obtain ⟨c0, c1, c2, c3, f0, f1, f2, f3⟩ := own4 ((Own.new w zeroV 43).kept hG (by simp; omega))
  have hH1 := Lib.hid hH
  have hG1 := Lib.hid (g_call (g_alloc (grown_refl w _) _) hG)
  clear hH hG
  go_wp2
  refine bodyPost_ret (v := .agg #[.int .i64 3, .int .i64 0, .string s, .slice none 0 0]) (by simp [results, Tryz.results21, go_sem, c0, c1, c2, c3]) rfl ?_
  refine ⟨⟨⟨3, 0, s, none, 0, 0, []⟩, rfl, rfl, LAt.flat _ _ _ _ (by have := hz1.out; omega)⟩, ?_, ?_⟩
  · exact (((hH1.out.set (by simp; omega) _).set (by simp; omega) _).set (by simp; omega) _).set (by simp; omega) _
  · exact g_setCell (g_setCell (g_setCell (g_setCell hG1.out (by simp) _) (by simp) _) (by simp) _) (by simp) _

set_option maxHeartbeats 400000 in
theorem value_version (b : Nat) (a : Option Addr) (n c : Nat) (w : World) (h : Codes b a n c w) (hg : Glob (but b w)) :
    Calls Tryz.prog 21 #[.pointer (some ⟨b, 0, none⟩), .int .i64 4] w (Drawn b a n c w fun e w' => ValIs w.heap.size b 4 e w') := by
  have hC := Lib.hid h
  have hg0 := Lib.hid (hg.mono (sub_of_grown (World.grownBy_alloc w (.cells zeroV 43) (some b))))
  have hlt := h.lt
  clear h hg
  go_enter Tryz.func21, Tryz.ntmps21
  go_wp2_with fail
  refine (next_any b a n c _ 6 (by omega) (by omega) (hC.out.alloc (.cells zeroV 43))).mono ?_
  rintro e w' ⟨⟨m, rfl, hm0, hm1⟩, hH, hG⟩
  obtain ⟨j, rfl⟩ := Int.eq_ofNat_of_zero_le hm0
  obtain ⟨s, hs, hz⟩ := (hg0.out.mono (sub_of_grown hG)).versions j (by omega)
  have hz1 := Lib.hid hz
  clear hz
  have hs := but_sub _ _ _ _ hs
  obtain ⟨c0, c1, c2, c3, f0, f1, f2, f3⟩ := own4 ((Own.new w zeroV 43).kept hG (by simp; omega))
  have hH1 := Lib.hid hH
  have hG1 := Lib.hid (g_call (g_alloc (grown_refl w _) _) hG)
  clear hH hG
  go_wp2
  refine bodyPost_ret (v := .agg #[.int .i64 4, .int .i64 0, .string s, .slice none 0 0]) (by simp [results, Tryz.results21, go_sem, c0, c1, c2, c3]) rfl ?_
  refine ⟨⟨⟨4, 0, s, none, 0, 0, []⟩, rfl, rfl, LAt.flat _ _ _ _ (by have := hz1.out; omega)⟩, ?_, ?_⟩
  · exact (((hH1.out.set (by simp; omega) _).set (by simp; omega) _).set (by simp; omega) _).set (by simp; omega) _
  · exact g_setCell (g_setCell (g_setCell (g_setCell hG1.out (by simp) _) (by simp) _) (by simp) _) (by simp) _

theorem info9 : (Tryz.prog.info? 9).map (fun i => (i.zero, i.size, i.bytes)) = some (some (.string ⟨#[]⟩), 1, 16) := by kernel_rfl

set_option maxHeartbeats 400000 in
theorem value_list (b : Nat) (a : Option Addr) (n c : Nat) (w : World) (h : Codes b a n c w) (hg : Glob (but b w)) (k : Int) (hk : (k == 1) = false ∧ (k == 2) = false ∧ (k == 3) = false ∧ (k == 4) = false) :
    Calls Tryz.prog 21 #[.pointer (some ⟨b, 0, none⟩), .int .i64 k] w (Drawn b a n c w fun e w' => ValIs w.heap.size b 5 e w') := by
  obtain ⟨k1, k2, k3, k4⟩ := hk
  have hC := Lib.hid h
  have hg0 := Lib.hid (hg.mono (sub_of_grown (World.grownBy_alloc w (.cells zeroV 43) (some b))))
  have hlt := h.lt
  clear h hg
  obtain ⟨i0, hi, hz0, hz1, hz2⟩ := info_parts info9
  go_enter Tryz.func21, Tryz.ntmps21
  go_wp2_with fail
  refine (next_any b a n c _ 5 (by omega) (by omega) (hC.out.alloc (.cells zeroV 43))).mono ?_
  rintro e w' ⟨⟨m, rfl, hm0, hm1⟩, hH, hG⟩
  obtain ⟨j, rfl⟩ := Int.eq_ofNat_of_zero_le hm0
  obtain ⟨ad, cc, l, hs, hl, hls⟩ := (hg0.out.mono (sub_of_grown hG)).lists j (by omega)
  have hs := but_sub _ _ _ _ hs
  have hls1 : ∀ i u, (l.map Value.string)[i]? = some u → w'.cell? (ad.add i) = some u := by
    intro i u hu
    rw [List.getElem?_map] at hu
    cases hq : l[i]? with
    | none => rw [hq] at hu; cases hu
    | some s => rw [hq] at hu; cases hu; exact but_sub _ _ _ _ (hls i s hq)
  have hls2 := Lib.hid hls1
  obtain ⟨c0, c1, c2, c3, f0, f1, f2, f3⟩ := own4 ((Own.new w zeroV 43).kept hG (by simp; omega))
  have hO := Lib.hid ((Own.new w zeroV 43).kept hG (by simp; omega))
  have hH1 := Lib.hid hH
  have hG1 := Lib.hid (g_call (g_alloc (grown_refl w _) _) hG)
  have hone : ∀ u ∈ l.map Value.string, u.oneCell' = true := by
    intro u hu
    obtain ⟨s, -, rfl⟩ := List.mem_map.1 hu
    rfl
  have hone1 := Lib.hid hone
  clear hH hG hls hls1 hone c0 c1 c2 c3 f0 f1 f2 f3
  go_wp2_with (at_builtin; refine wpList_append_own _ rfl _ _ 41 rfl w'.heap.size 9 i0 (.string ⟨#[]⟩) 1 16 Tryz.underlying41 hi hz0 hz1 hz2 rfl (by decide) _ _ _ rfl (World.ownsRow_nil _ _ _ _) ad l.length cc (l.map Value.string) rfl (by simp) hls2.out hone1.out (by unfold maxLen; omega) (by omega) (Nat.le_refl _) ?_)
  intro v' w1 hown hgrow hiff
  clear hiff
  have hwB : w.heap.size < w'.heap.size := hO.out.lt
  have hown1 := Lib.hid hown
  obtain ⟨va, vc, hv⟩ := owns_slice hown
  have hgrow1 : w'.grownBy w1 none := hgrow
  have hO1 := hO.out.kept hgrow1 (by simp)
  obtain ⟨c0, c1, c2, c3, f0, f1, f2, f3⟩ := own4 hO1
  have hH2 := Lib.hid (hH1.out.kept hgrow1 (by simp))
  have hG2 := Lib.hid (g_call hG1.out (grown_none hgrow1 _))
  clear hgrow hgrow1 hown
  rw [hv]
  rw [hv] at hown1
  clear hv
  go_wp2
  refine bodyPost_ret (v := .agg #[.int .i64 5, .int .i64 0, .string ⟨#[]⟩, .slice va l.length vc]) (by simp [results, Tryz.results21, go_sem, c0, c1, c2, c3]) rfl ?_
  have hbB : b < w'.heap.size := by omega
  refine ⟨⟨⟨5, 0, ⟨#[]⟩, va, l.length, vc, l⟩, rfl, rfl, ?_⟩, ?_, ?_⟩
  · have h1 := rows_of_owns_new (B := w'.heap.size) (b := b) hown1.out (Nat.le_refl _) hbB (l.map strRow) (by simp) (by simp [strRow]) (by rw [strRow_flat])
    have h2 : LAt (newM w'.heap.size b w1) ⟨5, 0, ⟨#[]⟩, va, l.length, vc, l⟩ := ⟨by simpa using h1, (show (⟨#[]⟩ : ByteArray).size < 4294967281 by decide), by simp only; omega⟩
    exact LAtLow (LAtSet (LAtSet (LAtSet (LAtSet h2 (by simp <;> omega) _) (by simp <;> omega) _) (by simp <;> omega) _) (by simp <;> omega) _) (by omega)
  · exact (((hH2.out.set (by simp; omega) _).set (by simp; omega) _).set (by simp; omega) _).set (by simp; omega) _
  · exact g_setCell (g_setCell (g_setCell (g_setCell hG2.out (by simp) _) (by simp) _) (by simp) _) (by simp) _

/-- The kind of the value that is drawn for a kind. -/
def kindOf (k : Int) : Int := if 1 ≤ k ∧ k ≤ 4 then k else 5

theorem value_any (b : Nat) (a : Option Addr) (n c : Nat) (w : World) (h : Codes b a n c w) (hg : Glob (but b w)) (k : Int) :
    Calls Tryz.prog 21 #[.pointer (some ⟨b, 0, none⟩), .int .i64 k] w (Drawn b a n c w fun e w' => ValIs w.heap.size b (kindOf k) e w') := by
  by_cases h1 : k = 1
  · subst h1; exact value_bool b a n c w h
  by_cases h2 : k = 2
  · subst h2; exact value_number b a n c w h
  by_cases h3 : k = 3
  · subst h3; exact value_text b a n c w h hg
  by_cases h4 : k = 4
  · subst h4; exact value_version b a n c w h hg
  have e : kindOf k = 5 := by unfold kindOf; rw [if_neg (by omega)]
  rw [e]
  exact value_list b a n c w h hg k (by simp [h1, h2, h3, h4])

set_option maxHeartbeats 400000 in
theorem any_any (b : Nat) (a : Option Addr) (n c : Nat) (w : World) (h : Codes b a n c w) (hg : Glob (but b w)) :
    Calls Tryz.prog 20 #[.pointer (some ⟨b, 0, none⟩)] w (Drawn b a n c w fun e w' => ∃ k, ValIs w.heap.size b k e w') := by
  have hC := Lib.hid h
  have hg0 := Lib.hid (hg.mono (sub_of_grown (World.grownBy_alloc w (.cells zeroV 43) (some b))))
  have hlt := h.lt
  clear h hg
  go_enter Tryz.func20, Tryz.ntmps20
  go_wp2_with fail
  refine (next_any b a n c _ 5 (by omega) (by omega) (hC.out.alloc (.cells zeroV 43))).mono ?_
  rintro e w' ⟨⟨m, rfl, hm0, hm1⟩, hH, hG⟩
  have hC2 := Lib.hid ((hC.out.alloc (.cells zeroV 43)).still hG hH)
  have hg2 := Lib.hid (hg0.out.mono (sub_of_grown hG))
  have hO := Lib.hid ((Own.new w zeroV 43).kept hG (by simp; omega))
  have hG1 := Lib.hid (g_call (g_alloc (grown_refl w _) _) hG)
  clear hH hG
  go_wp2_with fail
  refine (value_any b a n c _ hC2.out hg2.out _).mono ?_
  rintro e w2 ⟨⟨d, rfl, hd, hLd⟩, hH, hG⟩
  have hwB : w.heap.size < w'.heap.size := hO.out.lt
  have hL1 := Lib.hid hLd
  obtain ⟨c0, c1, c2, c3, f0, f1, f2, f3⟩ := own4 (hO.out.kept hG (by simp; omega))
  have hH1 := Lib.hid hH
  have hG2 := Lib.hid (g_call hG1.out hG)
  clear hH hG hd hLd
  unfold VD.row
  go_wp2
  refine bodyPost_ret (v := .agg d.row.toArray) (by simp [results, Tryz.results20, go_sem, c0, c1, c2, c3, VD.row]) rfl ?_
  refine ⟨⟨_, d, rfl, rfl, LAtLow (LAtSet (LAtSet (LAtSet (LAtSet hL1.out (by simp <;> omega) _) (by simp <;> omega) _) (by simp <;> omega) _) (by simp <;> omega) _) (by omega)⟩, ?_, ?_⟩
  · exact (((hH1.out.set (by simp; omega) _).set (by simp; omega) _).set (by simp; omega) _).set (by simp; omega) _
  · exact g_setCell (g_setCell (g_setCell (g_setCell hG2.out (by simp) _) (by simp) _) (by simp) _) (by simp) _

end Go.Proofs.YtlohdmghaeabjaaGreatDoor.draw

