/- Drawn values of any kind, with their texts in memory. -/
import Derived.Test.YtnghpjijfdpmkaaGreatDoorValW
import Derived.Test.YtnghpjijfdpmkaaGreatDoorValZ
namespace Go.Proofs.YtnghpjijfdpmkaaGreatDoor.value
open Go.RowKit Go.Proofs.YtnghpjijfdpmkaaGreatDoor Go.Proofs.YtnghpjijfdpmkaaGreatDoor.text Go.Proofs.YtnghpjijfdpmkaaGreatDoor.draw

/-- A value as it lies in slots and memory. -/
structure VX where
  v : VV
  t : ByteArray
  la : Option Addr
  lc : Nat
  ls : List ByteArray
def VX.row (x : VX) : List Value := [.int .i64 x.v.k, .int .i64 x.v.n, .string x.t, .slice x.la x.ls.length x.lc]
def VX.val (x : VX) : Value := .agg #[.int .i64 x.v.k, .int .i64 x.v.n, .string x.t, .slice x.la x.ls.length x.lc]
/-- Its texts lie in memory, and it is small. -/
structure VX.Ok (x : VX) (w : World) : Prop where
  ok : VOk w x.v x.t x.la x.ls
  tz : x.t.size ≤ 400
  lz : x.ls.length ≤ 41
theorem VX.Ok.below {x : VX} {w w' : World} (h : x.Ok w) (hb : Below w.heap.size w w') : x.Ok w' := ⟨h.ok.below hb, h.tz, h.lz⟩
theorem VOk.grown {w w' : World} {v : VV} {t : ByteArray} {la : Option Addr} {ls : List ByteArray} {b : Nat} (h : VOk w v t la ls) (g : w.grownBy w' (some b)) (hb : ∀ a, la = some a → a.block ≠ b) : VOk w' v t la ls := by
  refine ⟨h.text, ?_, h.list⟩
  rcases h.rows with h | ⟨blk, off, h1, h2⟩
  · exact Or.inl h
  · exact Or.inr ⟨blk, off, h1, fun k hk => g.cell (h2 k hk) (by intro e; injection e with e; exact hb _ h1 e)⟩
theorem VX.Ok.grown {x : VX} {w w' : World} {b : Nat} (h : x.Ok w) (g : w.grownBy w' (some b)) (hb : ∀ a, x.la = some a → a.block ≠ b) : x.Ok w' := ⟨h.ok.grown g hb, h.tz, h.lz⟩
/-- A drawn value: valid, its texts from block base on. -/
def DV (base : Nat) (e : Ending) (w' : World) : Prop := ∃ x : VX, e = .returned x.val ∧ x.Ok w' ∧ checkS x.v = 0 ∧ x.t.size ≤ 200 ∧ x.ls.length ≤ 20 ∧ LFrom base x.la

/-- The table of lists. -/
def ListTab (m : Mem) : Prop := ∀ j, j < 5 → ∃ (ad : Addr) (c : Nat) (l : List ByteArray), m ⟨2, j, none⟩ = some (.slice (some ad) l.length c) ∧ l.length ≤ 20 ∧ listS (lsL l) = 0 ∧ ∀ (i : Nat) (s : ByteArray), l[i]? = some s → m (ad.add i) = some (.string s)
theorem ListTab.mono {m m' : Mem} (hs : Sub m m') (h : ListTab m) : ListTab m' := by
  intro j hj
  obtain ⟨ad, c, l, h1, h2, h3, h4⟩ := h j hj
  exact ⟨ad, c, l, hs _ _ h1, h2, h3, fun i s hi => hs _ _ (h4 i s hi)⟩
theorem dv_flat {K : Int} {e : Ending} {base : Nat} {w' : World} (h : ValV K e) : DV base e w' := by
  obtain ⟨x, s, rfl, hc, hz⟩ := h
  exact ⟨⟨⟨K, x, s.data.toList, []⟩, s, none, 0, []⟩, rfl, ⟨⟨rfl, Or.inl rfl, rfl⟩, by show s.size ≤ 400; omega, by show 0 ≤ 41; omega⟩, hc, hz, by show 0 ≤ 20; omega, fun a e => by cases e⟩
theorem check_bool {m : Int} (h0 : 0 ≤ m) (h1 : m < 2) : checkS ⟨1, m, [], []⟩ = 0 := by
  rw [c_1 (v := ⟨1, m, [], []⟩) rfl rfl, if_neg (by show ¬ (m ≠ 0 ∧ m ≠ 1); omega)]

set_option maxHeartbeats 400000 in
theorem dvalue_bool (b : Nat) (a : Option Addr) (n c : Nat) (w : World) (h : Codes b a n c w) :
    Calls Tryz.prog 22 #[.pointer (some ⟨b, 0, none⟩), .int .i64 1] w (Drawn b a n c w fun e _ => ValV 1 e) := by
  have hC := Lib.hid h
  have hlt := h.lt
  clear h
  go_enter Tryz.func22, Tryz.ntmps22
  go_wp2_with fail
  refine (next_any b a n c _ 2 (by omega) (by omega) (hC.out.alloc (.cells zero4 24))).mono ?_
  rintro e w' ⟨⟨m, rfl, hm0, hm1⟩, hH, hG⟩
  obtain ⟨c0, c1, c2, c3, f0, f1, f2, f3⟩ := own4 ((Own.new w zero4 24).kept hG (by simp; omega))
  have hH1 := Lib.hid hH
  have hG1 := Lib.hid (g_call (g_alloc (grown_refl w _) _) hG)
  clear hH hG
  go_wp2
  refine bodyPost_ret (v := .agg #[.int .i64 1, .int .i64 m, .string ⟨#[]⟩, .slice none 0 0]) (by simp [results, Tryz.results22, go_sem, c0, c1, c2, c3]) rfl ?_
  refine ⟨⟨m, ⟨#[]⟩, rfl, check_bool hm0 hm1, by decide⟩, ?_, ?_⟩
  · exact (((hH1.out.set (by simp; omega) _).set (by simp; omega) _).set (by simp; omega) _).set (by simp; omega) _
  · exact g_setCell (g_setCell (g_setCell (g_setCell hG1.out (by simp) _) (by simp) _) (by simp) _) (by simp) _

set_option maxHeartbeats 1000000 in
theorem dvalue_list (b : Nat) (a : Option Addr) (n c : Nat) (w : World) (h : Codes b a n c w) (hg : ListTab (but b w)) :
    Calls Tryz.prog 22 #[.pointer (some ⟨b, 0, none⟩), .int .i64 5] w (Drawn b a n c w (DV w.heap.size)) := by
  have hC := Lib.hid h
  have hg0 := Lib.hid (hg.mono (sub_of_grown (World.grownBy_alloc w (.cells zero4 24) (some b))))
  have hlt := h.lt
  clear h hg
  obtain ⟨i0, hi, hz0, hz1, hz2⟩ := info_parts infoStr
  go_enter Tryz.func22, Tryz.ntmps22
  go_wp2_with fail
  refine (next_any b a n c _ 5 (by omega) (by omega) (hC.out.alloc (.cells zero4 24))).mono ?_
  rintro e w' ⟨⟨m, rfl, hm0, hm1⟩, hH, hG⟩
  obtain ⟨j, rfl⟩ := Int.eq_ofNat_of_zero_le hm0
  obtain ⟨ad, cc, l, hs, hl, hval, hls⟩ := (hg0.out.mono (sub_of_grown hG)) j (by omega)
  have hs := but_sub _ _ _ _ hs
  have hls1 : ∀ i u, (l.map Value.string)[i]? = some u → w'.cell? (ad.add i) = some u := by
    intro i u hu
    rw [List.getElem?_map] at hu
    cases hq : l[i]? with
    | none => rw [hq] at hu; cases hu
    | some s => rw [hq] at hu; cases hu; exact but_sub _ _ _ _ (hls i s hq)
  have hls2 := Lib.hid hls1
  replace hval := Lib.hid hval
  have hO := Lib.hid ((Own.new w zero4 24).kept hG (by simp; omega))
  have hH1 := Lib.hid hH
  have hG1 := Lib.hid (g_call (g_alloc (grown_refl w _) _) hG)
  have hone : ∀ u ∈ l.map Value.string, u.oneCell' = true := by
    intro u hu
    obtain ⟨s, -, rfl⟩ := List.mem_map.1 hu
    rfl
  have hone1 := Lib.hid hone
  have hsz' : w.heap.size ≤ w'.heap.size := by have := hG.size; simp at this; omega
  clear hH hG hls hls1 hone
  go_wp2_with (at_builtin; refine wpList_append_own _ rfl _ _ 22 rfl w'.heap.size 9 i0 (.string ⟨#[]⟩) 1 16 Tryz.underlying22 hi hz0 hz1 hz2 rfl (by decide) _ _ _ rfl (World.ownsRow_nil _ _ _ _) ad l.length cc (l.map Value.string) rfl (by simp) hls2.out hone1.out (by unfold maxLen; omega) (by omega) (Nat.le_refl _) ?_)
  intro v' w1 hown hgrow hiff
  clear hiff
  obtain ⟨va, vc, hv⟩ := owns_slice hown
  have hgrow1 : w'.grownBy w1 none := hgrow
  have hO1 := hO.out.kept hgrow1 (by simp)
  obtain ⟨c0, c1, c2, c3, f0, f1, f2, f3⟩ := own4 hO1
  have hlt1 := hO1.lt
  have hH2 := Lib.hid (hH1.out.kept hgrow1 (by simp))
  have hG2 := Lib.hid (g_call hG1.out (grown_none hgrow1 _))
  rw [hv] at hown
  have hown1 := Lib.hid (show w1.ownsRow w'.heap.size 9 1 (.slice va l.length vc) l.length (l.map Value.string) by simpa using hown)
  clear hgrow hgrow1 hown
  rw [hv]
  clear hv
  go_wp2
  refine bodyPost_ret (v := .agg #[.int .i64 5, .int .i64 0, .string ⟨#[]⟩, .slice va l.length vc]) (by simp [results, Tryz.results22, go_sem, c0, c1, c2, c3]) rfl ?_
  have hlf := lfrom_owns hown1.out
  have hwlt : w.heap.size < w'.heap.size := hO.out.lt
  refine ⟨⟨⟨⟨5, 0, [], lsL l⟩, ⟨#[]⟩, va, vc, l⟩, rfl, ⟨⟨rfl, ?_, rfl⟩, Nat.zero_le _, by show l.length ≤ 41; omega⟩, ?_, Nat.zero_le _, hl, hlf.le hsz'⟩, ?_, ?_⟩
  · exact lin_owns (own_set4 hown1.out hwlt _ _ _ _)
  · exact hval.out
  · exact (((hH2.out.set (by simp; omega) _).set (by simp; omega) _).set (by simp; omega) _).set (by simp; omega) _
  · exact g_setCell (g_setCell (g_setCell (g_setCell hG2.out (by simp) _) (by simp) _) (by simp) _) (by simp) _

theorem dvalue_all (K : Int) (hK : 1 ≤ K ∧ K ≤ 5) (b : Nat) (a : Option Addr) (n c : Nat) (w : World) (h : Codes b a n c w) (hg : DrawTabs (but b w)) (hl : ListTab (but b w)) :
    Calls Tryz.prog 22 #[.pointer (some ⟨b, 0, none⟩), .int .i64 K] w (Drawn b a n c w (DV w.heap.size)) := by
  rcases (show K = 1 ∨ K = 2 ∨ K = 3 ∨ K = 4 ∨ K = 5 by omega) with rfl | rfl | rfl | rfl | rfl
  · exact (dvalue_bool b a n c w h).mono fun e w' h => ⟨dv_flat h.1, h.2⟩
  · exact (dvalue_number b a n c w h).mono fun e w' h => ⟨dv_flat h.1, h.2⟩
  · exact (dvalue_text b a n c w h hg).mono fun e w' h => ⟨dv_flat h.1, h.2⟩
  · exact (dvalue_version b a n c w h hg).mono fun e w' h => ⟨dv_flat h.1, h.2⟩
  · exact dvalue_list b a n c w h hl

theorem DV.set4 {x : VX} {b : Nat} {w : World} (h : x.Ok w) (hb : LFrom (b + 1) x.la) (x0 x1 x2 x3 : Value) : x.Ok ((((w.setCell ⟨b, 0, none⟩ x0).setCell ⟨b, 1, none⟩ x1).setCell ⟨b, 2, none⟩ x2).setCell ⟨b, 3, none⟩ x3) := by
  have hs : ∀ {u : World}, VOk u x.v x.t x.la x.ls → ∀ o y, VOk (u.setCell ⟨b, o, none⟩ y) x.v x.t x.la x.ls := fun {u} h o y =>
    h.grown (gset u b o y) (fun a e => by have := hb _ e; omega)
  exact ⟨hs (hs (hs (hs h.ok 0 x0) 1 x1) 2 x2) 3 x3, h.tz, h.lz⟩

set_option maxHeartbeats 1000000 in
theorem dany_any (b : Nat) (a : Option Addr) (n c : Nat) (w : World) (h : Codes b a n c w) (hg : DrawTabs (but b w)) (hl : ListTab (but b w)) :
    Calls Tryz.prog 10 #[.pointer (some ⟨b, 0, none⟩)] w (Drawn b a n c w (DV w.heap.size)) := by
  have hC := Lib.hid h
  have hg0 := Lib.hid (hg.mono (sub_of_grown (World.grownBy_alloc w (.cells zero4 24) (some b))))
  have hl0 := Lib.hid (hl.mono (sub_of_grown (World.grownBy_alloc w (.cells zero4 24) (some b))))
  have hlt := h.lt
  clear h hg hl
  go_enter Tryz.func10, Tryz.ntmps10
  go_wp2_with fail
  refine (next_any b a n c _ 5 (by omega) (by omega) (hC.out.alloc (.cells zero4 24))).mono ?_
  rintro e w' ⟨⟨m, rfl, hm0, hm1⟩, hH, hG⟩
  have hC2 := Lib.hid ((hC.out.alloc (.cells zero4 24)).still hG hH)
  have hg2 := Lib.hid (hg0.out.mono (sub_of_grown hG))
  have hl2 := Lib.hid (hl0.out.mono (sub_of_grown hG))
  have hO := Lib.hid ((Own.new w zero4 24).kept hG (by simp; omega))
  have hG1 := Lib.hid (g_call (g_alloc (grown_refl w _) _) hG)
  clear hH hG
  obtain ⟨K, hK⟩ : ∃ K, 1 + m = K := ⟨_, rfl⟩
  have hK1 : 1 ≤ K ∧ K ≤ 5 := by omega
  replace hK1 := Lib.hid hK1
  go_wp2_with fail
  replace hK := Lib.hid hK
  refine (dvalue_all K hK1.out b a n c _ hC2.out hg2.out hl2.out).mono ?_
  rintro e w2 ⟨⟨x, rfl, hx, hc, htz, hlz, hlf⟩, hH, hG⟩
  have hw' := hO.out.lt
  obtain ⟨c0, c1, c2, c3, f0, f1, f2, f3⟩ := own4 (hO.out.kept hG (by simp; omega))
  have hH1 := Lib.hid hH
  have hG2 := Lib.hid (g_call hG1.out hG)
  have hx1 := Lib.hid hx
  have hc1 := Lib.hid hc
  have hlf1 := Lib.hid (hlf.le (show w.heap.size + 1 ≤ w'.heap.size from hw'))
  clear hH hG hx hc hlf
  unfold VX.val
  go_wp2
  refine bodyPost_ret (v := x.val) (by simp [results, Tryz.results10, go_sem, c0, c1, c2, c3, VX.val]) rfl ?_
  refine ⟨⟨x, rfl, DV.set4 hx1.out hlf1.out _ _ _ _, hc1.out, htz, hlz, hlf1.out.le (Nat.le_succ _)⟩, ?_, ?_⟩
  · exact (((hH1.out.set (by simp; omega) _).set (by simp; omega) _).set (by simp; omega) _).set (by simp; omega) _
  · exact g_setCell (g_setCell (g_setCell (g_setCell hG2.out (by simp) _) (by simp) _) (by simp) _) (by simp) _

end Go.Proofs.YtnghpjijfdpmkaaGreatDoor.value
