/- How two values compare: the reference's Compare. Whether a test holds: the program's Test. Walks of the drawing functions that give one text, number or value. Walks of the drawing functions that give one value of a kind. Walks of the drawing functions Declared and Test: a test that fits the declared attributes. -/
import Derived.Test.YtfffpflflggonaaGreatDoorKS17
import Derived.Laws.AppendOwn
import Derived.Deep.RegionLaw
import Derived.Deep.RegionLawGrows
import Derived.Deep.RegionHeld3
import Derived.Deep.AppendLies
import Derived.Deep.DrawnRows
namespace Go.Proofs.YtfffpflflggonaaGreatDoor.value
open Go.RowKit Go.Proofs.YtfffpflflggonaaGreatDoor.text

end Go.Proofs.YtfffpflflggonaaGreatDoor.value

namespace Go.Proofs.YtfffpflflggonaaGreatDoor.clause
open Go.RowKit Go.Proofs.YtfffpflflggonaaGreatDoor Go.Proofs.YtfffpflflggonaaGreatDoor.schema Go.Proofs.YtfffpflflggonaaGreatDoor.value Go.Proofs.YtfffpflflggonaaGreatDoor.text Go.Proofs.YtfffpflflggonaaGreatDoor.draw

theorem lin_of_rows {w : World} {a : Option Addr} {n c : Nat} {ls : List ByteArray} (h : RowsAt w.cell? 1 (.slice a n c) (ls.map strRow)) : LIn w a ls := by
  obtain ⟨a0, c0, h1, h2, h3, h4⟩ := h
  injection h1 with e1 e2 e3
  subst e1
  rcases h4 with h4 | ⟨blk, off, rfl, hc⟩
  · exact Or.inl (by simpa using h4)
  · refine Or.inr ⟨blk, off, rfl, fun k hk => ?_⟩
    have := hc k (strRow ls[k]) (by simp [hk]) 0 (.string ls[k]) rfl
    rw [Nat.mul_one, Nat.add_zero] at this
    exact this
theorem vd_len {m : Mem} {d : VD} (h : LAt m d) : d.len = d.ls.length := by have := (len_of h.rows).1; simpa using this
theorem lenI {d : VD} {m : Mem} (h : LAt m d) : d.ls.length ≤ 9223372036854775807 := by have := h.few; omega

/-- The box of the found value. -/
structure VBox (w : World) (B : Nat) (a : VD) : Prop where
  own : Own w B #[.int .i64 a.kind, .int .i64 a.num, .string a.text, .slice a.ptr a.len a.cap] 76
  lat : LAt w.cell? a
theorem VBox.below {w w' : World} {B : Nat} {a : VD} (h : VBox w B a) (hb : Below w.heap.size w w') : VBox w' B a := ⟨h.own.below hb h.own.lt, h.lat.mono (sub_of_below hb)⟩

def AnyR (v : VD) (l : List VD) (k : Nat) : Prop := (l.drop k).any (eqV v) = l.any (eqV v)
theorem any_hit {v : VD} {l : List VD} {k : Nat} (h : k < l.length) (h1 : eqV v l[k] = true) (T : AnyR v l k) : l.any (eqV v) = true := by
  unfold AnyR at T
  rw [← T, List.drop_eq_getElem_cons h, List.any_cons, h1]; rfl
theorem ret_to {a b : Bool} (h : a = b) : Ending.returned (.bool b) = .returned (.bool a) := by rw [h]

/-- What the walk of a test holds behind the look-up: the box of the test, the box of the found value, the values. -/
structure TX (w : World) (E V : Nat) (op : Int) (kind name : ByteArray) (va : Option Addr) (vn vc : Nat) (ks : Value) (d : VD) (vals : List VD) (W : World) : Prop where
  low : Below W.heap.size W w
  box : Own w E #[.int .i64 op, .string kind, .string name, .slice va vn vc, ks] 31
  val : VBox w V d
  rows : RowsAt w.cell? 4 (.slice va vn vc) (vals.map VD.row)
  each : ∀ v ∈ vals, LAt w.cell? v
  tabs : Tabs w
theorem TX.below {w w' : World} {E V : Nat} {op : Int} {kind name : ByteArray} {va : Option Addr} {vn vc : Nat} {ks : Value} {d : VD} {vals : List VD} {W : World} (h : TX w E V op kind name va vn vc ks d vals W) (hb : Below w.heap.size w w') : TX w' E V op kind name va vn vc ks d vals W :=
  ⟨h.low.trans (hb.mono h.low.size), h.box.below hb h.box.lt, h.val.below hb, h.rows.mono (sub_of_below hb), fun v hv => (h.each v hv).mono (sub_of_below hb), h.tabs.below hb⟩

end Go.Proofs.YtfffpflflggonaaGreatDoor.clause

namespace Go.Proofs.YtfffpflflggonaaGreatDoor.draw
open Go.RowKit Go.Proofs.YtfffpflflggonaaGreatDoor.schema

/-- The three tables of the drawing package. -/
structure Glob (m : Mem) : Prop where
  versions : ∀ j, j < 6 → ∃ s, m ⟨1, j, none⟩ = some (.string s) ∧ s.size ≤ 200
  texts : ∀ j, j < 11 → ∃ s, m ⟨3, j, none⟩ = some (.string s) ∧ s.size ≤ 200
  lists : ∀ j, j < 5 → ∃ (ad : Addr) (c : Nat) (l : List ByteArray), m ⟨2, j, none⟩ = some (.slice (some ad) l.length c) ∧ l.length ≤ 20 ∧ ∀ (i : Nat) (s : ByteArray), l[i]? = some s → m (ad.add i) = some (.string s)
theorem Glob.mono {m m' : Mem} (hs : Sub m m') (h : Glob m) : Glob m' := by
  refine ⟨fun j hj => ?_, fun j hj => ?_, fun j hj => ?_⟩
  · obtain ⟨s, h, hz⟩ := h.versions j hj
    exact ⟨s, hs _ _ h, hz⟩
  · obtain ⟨s, h, hz⟩ := h.texts j hj
    exact ⟨s, hs _ _ h, hz⟩
  · obtain ⟨ad, c, l, h1, h2, h3⟩ := h.lists j hj
    exact ⟨ad, c, l, hs _ _ h1, h2, fun i s hi => hs _ _ (h3 i s hi)⟩

/-- A text that is not long. -/
def IsTxt (e : Ending) : Prop := ∃ s : ByteArray, e = .returned (.string s) ∧ s.size ≤ 200
def IsInt (e : Ending) : Prop := ∃ n : Int, e = .returned (.int .i64 n)

def intB : Value → Bool | .int .i64 _ => true | _ => false
theorem all_int {A : List Value} (h : A.all intB = true) {j : Nat} (hj : j < A.length) : ∃ s, A[j]? = some (.int .i64 s) := by
  have h1 : intB A[j] = true := List.all_eq_true.1 h _ (List.getElem_mem hj)
  rw [List.getElem?_eq_getElem hj]
  cases hA : A[j] <;> rw [hA] at h1 <;> try cases h1
  rename_i k n
  cases k <;> first | exact ⟨_, rfl⟩ | cases h1

set_option maxHeartbeats 400000 in
theorem text_any (b : Nat) (a : Option Addr) (n c : Nat) (w : World) (h : Codes b a n c w) (hg : Glob (but b w)) :
    Calls Tryz.prog 121 #[.pointer (some ⟨b, 0, none⟩)] w (Drawn b a n c w fun e _ => IsTxt e) := by
  have hg0 := Lib.hid hg
  have hC := Lib.hid h
  clear hg h
  go_enter Tryz.func121, Tryz.ntmps121
  go_wp2_with fail
  refine (next_any b a n c _ 11 (by omega) (by omega) hC.out).mono ?_
  rintro e w' ⟨⟨m, rfl, hm0, hm1⟩, hH, hG⟩
  obtain ⟨j, rfl⟩ := Int.eq_ofNat_of_zero_le hm0
  obtain ⟨s, hs, hz⟩ := (hg0.out.mono (sub_of_grown hG)).texts j (by omega)
  have hs := but_sub _ _ _ _ hs
  have hH1 := Lib.hid hH
  clear hH
  go_wp2
  go_ret
  exact ⟨⟨_, rfl, hz⟩, hH1.out, hG⟩

set_option maxHeartbeats 400000 in
theorem key_any (b : Nat) (a : Option Addr) (n c : Nat) (w : World) (h : Codes b a n c w) :
    Calls Tryz.prog 56 #[.pointer (some ⟨b, 0, none⟩)] w (Drawn b a n c w fun e _ => IsTxt e) := by
  have hC := Lib.hid h
  clear h
  go_enter Tryz.func56, Tryz.ntmps56
  go_wp2_with fail
  refine (next_any b a n c _ 10 (by omega) (by omega) hC.out).mono ?_
  rintro e w' ⟨⟨m, rfl, hm0, hm1⟩, hH, hG⟩
  have hH1 := Lib.hid hH
  clear hH
  have hz := encode_size_le (48 + m)
  go_wp2
  go_ret
  exact ⟨⟨_, rfl, by have e1 : (⟨#[107]⟩ : ByteArray).size = 1 := rfl; rw [ByteArray.size_append]; omega⟩, hH1.out, hG⟩

def numbers : Array Value := #[.int .i64 0, .int .i64 (-1), .int .i64 1, .int .i64 2, .int .i64 8, .int .i64 9, .int .i64 10000, .int .i64 10001, .int .i64 1099511627776, .int .i64 1099511627777, .int .i64 (-1099511627777), .int .i64 1099511627777, .int .i64 4, .int .i64 5, .int .i64 6]

set_option maxHeartbeats 400000 in
theorem number_any (b : Nat) (a : Option Addr) (n c : Nat) (w : World) (h : Codes b a n c w) :
    Calls Tryz.prog 32 #[.pointer (some ⟨b, 0, none⟩)] w (Drawn b a n c w fun e _ => IsInt e) := by
  have hC := Lib.hid h
  clear h
  go_enter Tryz.func32, Tryz.ntmps32
  go_wp2_with fail
  refine (next_any b a n c _ 15 (by omega) (by omega) (hC.out.alloc (.cells numbers 3))).mono ?_
  rintro e w' ⟨⟨m, rfl, hm0, hm1⟩, hH, hG⟩
  obtain ⟨j, rfl⟩ := Int.eq_ofNat_of_zero_le hm0
  obtain ⟨s, hs⟩ := all_int (A := numbers.toList) (by decide) (j := j) (show _ < 15 by omega)
  have hs := (((Own.new w numbers 3).kept hG (by have := hC.out.lt; simp; omega)).cell j).trans (show numbers[j]? = _ by simpa using hs)
  have hH1 := Lib.hid hH
  have hG1 := Lib.hid (g_call (g_alloc (grown_refl w _) _) hG)
  clear hH hG
  go_wp2
  go_ret
  exact ⟨⟨_, rfl⟩, hH1.out, hG1.out⟩

end Go.Proofs.YtfffpflflggonaaGreatDoor.draw

namespace Go.Proofs.YtfffpflflggonaaGreatDoor.draw
open Go.RowKit Go.Proofs.YtfffpflflggonaaGreatDoor.schema

/-- A value of a kind, as it is handed back. -/
def ValIs (B b : Nat) (k : Int) (e : Ending) (w : World) : Prop := ∃ d : VD, e = .returned (.agg d.row.toArray) ∧ d.kind = k ∧ LAt (newM B b w) d
def zeroV : Array Value := #[.int .i64 0, .int .i64 0, .string ⟨#[]⟩, .slice none 0 0]

theorem own4 {w : World} {n : Nat} {x0 x1 x2 x3 : Value} {t : TypeId} (h : Own w n #[x0, x1, x2, x3] t) :
    w.cell? ⟨n, 0, none⟩ = some x0 ∧ w.cell? ⟨n, 1, none⟩ = some x1 ∧ w.cell? ⟨n, 2, none⟩ = some x2 ∧ w.cell? ⟨n, 3, none⟩ = some x3 ∧
    w.frozen? ⟨n, 0, none⟩ = false ∧ w.frozen? ⟨n, 1, none⟩ = false ∧ w.frozen? ⟨n, 2, none⟩ = false ∧ w.frozen? ⟨n, 3, none⟩ = false :=
  ⟨h.cell 0, h.cell 1, h.cell 2, h.cell 3, h.free 0, h.free 1, h.free 2, h.free 3⟩

set_option maxHeartbeats 400000 in
theorem value_bool (b : Nat) (a : Option Addr) (n c : Nat) (w : World) (h : Codes b a n c w) :
    Calls Tryz.prog 57 #[.pointer (some ⟨b, 0, none⟩), .int .i64 1] w (Drawn b a n c w fun e w' => ValIs w.heap.size b 1 e w') := by
  have hC := Lib.hid h
  have hlt := h.lt
  clear h
  go_enter Tryz.func57, Tryz.ntmps57
  go_wp2_with fail
  refine (next_any b a n c _ 2 (by omega) (by omega) (hC.out.alloc (.cells zeroV 76))).mono ?_
  rintro e w' ⟨⟨m, rfl, hm0, hm1⟩, hH, hG⟩
  obtain ⟨c0, c1, c2, c3, f0, f1, f2, f3⟩ := own4 ((Own.new w zeroV 76).kept hG (by simp; omega))
  have hH1 := Lib.hid hH
  have hG1 := Lib.hid (g_call (g_alloc (grown_refl w _) _) hG)
  clear hH hG
  go_wp2
  refine bodyPost_ret (v := .agg #[.int .i64 1, .int .i64 m, .string ⟨#[]⟩, .slice none 0 0]) (by simp [results, Tryz.results57, go_sem, c0, c1, c2, c3]) rfl ?_
  refine ⟨⟨⟨1, m, ⟨#[]⟩, none, 0, 0, []⟩, rfl, rfl, LAt.flat _ _ _ _ (by decide)⟩, ?_, ?_⟩
  · exact (((hH1.out.set (by simp; omega) _).set (by simp; omega) _).set (by simp; omega) _).set (by simp; omega) _
  · exact g_setCell (g_setCell (g_setCell (g_setCell hG1.out (by simp) _) (by simp) _) (by simp) _) (by simp) _

def numbers9 : Array Value := #[.int .i64 0, .int .i64 1, .int .i64 17, .int .i64 18, .int .i64 19, .int .i64 (-5), .int .i64 64, .int .i64 1099511627776, .int .i64 (-1099511627776)]

set_option maxHeartbeats 400000 in
theorem value_number (b : Nat) (a : Option Addr) (n c : Nat) (w : World) (h : Codes b a n c w) :
    Calls Tryz.prog 57 #[.pointer (some ⟨b, 0, none⟩), .int .i64 2] w (Drawn b a n c w fun e w' => ValIs w.heap.size b 2 e w') := by
  have hC := Lib.hid h
  have hlt := h.lt
  clear h
  go_enter Tryz.func57, Tryz.ntmps57
  go_wp2_with fail
  refine (next_any b a n c _ 9 (by omega) (by omega) ((hC.out.alloc (.cells zeroV 76)).alloc (.cells numbers9 3))).mono ?_
  rintro e w' ⟨⟨m, rfl, hm0, hm1⟩, hH, hG⟩
  obtain ⟨j, rfl⟩ := Int.eq_ofNat_of_zero_le hm0
  obtain ⟨s, hs⟩ := all_int (A := numbers9.toList) (by decide) (j := j) (show _ < 9 by omega)
  have hs := (((Own.new (w.alloc (.cells zeroV 76)) numbers9 3).kept hG (by simp; omega)).cell j).trans (show numbers9[j]? = _ by simpa using hs)
  simp only [World.size_alloc] at hs
  obtain ⟨c0, c1, c2, c3, f0, f1, f2, f3⟩ := own4 (((Own.new w zeroV 76).alloc _).kept hG (by simp; omega))
  have hH1 := Lib.hid hH
  have hG1 := Lib.hid (g_call (g_alloc (g_alloc (grown_refl w _) _) _) hG)
  clear hH hG
  go_wp2
  refine bodyPost_ret (v := .agg #[.int .i64 2, .int .i64 s, .string ⟨#[]⟩, .slice none 0 0]) (by simp [results, Tryz.results57, go_sem, c0, c1, c2, c3]) rfl ?_
  refine ⟨⟨⟨2, s, ⟨#[]⟩, none, 0, 0, []⟩, rfl, rfl, LAt.flat _ _ _ _ (by decide)⟩, ?_, ?_⟩
  · exact (((hH1.out.set (by simp; omega) _).set (by simp; omega) _).set (by simp; omega) _).set (by simp; omega) _
  · exact g_setCell (g_setCell (g_setCell (g_setCell hG1.out (by simp) _) (by simp) _) (by simp) _) (by simp) _

set_option maxHeartbeats 400000 in
theorem value_text (b : Nat) (a : Option Addr) (n c : Nat) (w : World) (h : Codes b a n c w) (hg : Glob (but b w)) :
    Calls Tryz.prog 57 #[.pointer (some ⟨b, 0, none⟩), .int .i64 3] w (Drawn b a n c w fun e w' => ValIs w.heap.size b 3 e w') := by
  have hC := Lib.hid h
  have hg0 := Lib.hid (hg.mono (sub_of_grown (World.grownBy_alloc w (.cells zeroV 76) (some b))))
  have hlt := h.lt
  clear h hg
  go_enter Tryz.func57, Tryz.ntmps57
  go_wp2_with fail
  refine (text_any b a n c _ (hC.out.alloc (.cells zeroV 76)) hg0.out).mono ?_
  rintro e w' ⟨⟨s, rfl, hz⟩, hH, hG⟩
  have hz1 := Lib.hid hz
  clear hz
  obtain ⟨c0, c1, c2, c3, f0, f1, f2, f3⟩ := own4 ((Own.new w zeroV 76).kept hG (by simp; omega))
  have hH1 := Lib.hid hH
  have hG1 := Lib.hid (g_call (g_alloc (grown_refl w _) _) hG)
  clear hH hG
  go_wp2
  refine bodyPost_ret (v := .agg #[.int .i64 3, .int .i64 0, .string s, .slice none 0 0]) (by simp [results, Tryz.results57, go_sem, c0, c1, c2, c3]) rfl ?_
  refine ⟨⟨⟨3, 0, s, none, 0, 0, []⟩, rfl, rfl, LAt.flat _ _ _ _ (by have := hz1.out; omega)⟩, ?_, ?_⟩
  · exact (((hH1.out.set (by simp; omega) _).set (by simp; omega) _).set (by simp; omega) _).set (by simp; omega) _
  · exact g_setCell (g_setCell (g_setCell (g_setCell hG1.out (by simp) _) (by simp) _) (by simp) _) (by simp) _

set_option maxHeartbeats 400000 in
theorem value_version (b : Nat) (a : Option Addr) (n c : Nat) (w : World) (h : Codes b a n c w) (hg : Glob (but b w)) :
    Calls Tryz.prog 57 #[.pointer (some ⟨b, 0, none⟩), .int .i64 4] w (Drawn b a n c w fun e w' => ValIs w.heap.size b 4 e w') := by
  have hC := Lib.hid h
  have hg0 := Lib.hid (hg.mono (sub_of_grown (World.grownBy_alloc w (.cells zeroV 76) (some b))))
  have hlt := h.lt
  clear h hg
  go_enter Tryz.func57, Tryz.ntmps57
  go_wp2_with fail
  refine (next_any b a n c _ 6 (by omega) (by omega) (hC.out.alloc (.cells zeroV 76))).mono ?_
  rintro e w' ⟨⟨m, rfl, hm0, hm1⟩, hH, hG⟩
  obtain ⟨j, rfl⟩ := Int.eq_ofNat_of_zero_le hm0
  obtain ⟨s, hs, hz⟩ := (hg0.out.mono (sub_of_grown hG)).versions j (by omega)
  have hz1 := Lib.hid hz
  clear hz
  have hs := but_sub _ _ _ _ hs
  obtain ⟨c0, c1, c2, c3, f0, f1, f2, f3⟩ := own4 ((Own.new w zeroV 76).kept hG (by simp; omega))
  have hH1 := Lib.hid hH
  have hG1 := Lib.hid (g_call (g_alloc (grown_refl w _) _) hG)
  clear hH hG
  go_wp2
  refine bodyPost_ret (v := .agg #[.int .i64 4, .int .i64 0, .string s, .slice none 0 0]) (by simp [results, Tryz.results57, go_sem, c0, c1, c2, c3]) rfl ?_
  refine ⟨⟨⟨4, 0, s, none, 0, 0, []⟩, rfl, rfl, LAt.flat _ _ _ _ (by have := hz1.out; omega)⟩, ?_, ?_⟩
  · exact (((hH1.out.set (by simp; omega) _).set (by simp; omega) _).set (by simp; omega) _).set (by simp; omega) _
  · exact g_setCell (g_setCell (g_setCell (g_setCell hG1.out (by simp) _) (by simp) _) (by simp) _) (by simp) _

theorem info9 : (Tryz.prog.info? 9).map (fun i => (i.zero, i.size, i.bytes)) = some (some (.string ⟨#[]⟩), 1, 16) := by kernel_rfl

set_option maxHeartbeats 400000 in
theorem value_list (b : Nat) (a : Option Addr) (n c : Nat) (w : World) (h : Codes b a n c w) (hg : Glob (but b w)) (k : Int) (hk : (k == 1) = false ∧ (k == 2) = false ∧ (k == 3) = false ∧ (k == 4) = false) :
    Calls Tryz.prog 57 #[.pointer (some ⟨b, 0, none⟩), .int .i64 k] w (Drawn b a n c w fun e w' => ValIs w.heap.size b 5 e w') := by
  obtain ⟨k1, k2, k3, k4⟩ := hk
  have hC := Lib.hid h
  have hg0 := Lib.hid (hg.mono (sub_of_grown (World.grownBy_alloc w (.cells zeroV 76) (some b))))
  have hlt := h.lt
  clear h hg
  obtain ⟨i0, hi, hz0, hz1, hz2⟩ := info_parts info9
  go_enter Tryz.func57, Tryz.ntmps57
  go_wp2_with fail
  refine (next_any b a n c _ 5 (by omega) (by omega) (hC.out.alloc (.cells zeroV 76))).mono ?_
  rintro e w' ⟨⟨m, rfl, hm0, hm1⟩, hH, hG⟩
  obtain ⟨j, rfl⟩ := Int.eq_ofNat_of_zero_le hm0
  obtain ⟨ad, cc, l, hs, hl, hls⟩ := (hg0.out.mono (sub_of_grown hG)).lists j (by omega)
  have hs := but_sub _ _ _ _ hs
  have hls1 : ∀ i u, (l.map Value.string)[i]? = some u → w'.cell? (ad.add i) = some u := by
    intro i u hu
    rw [List.getElem?_map] at hu
    cases hq : l[i]? with
    | none => rw [hq] at hu; cases hu
    | some s => rw [hq] at hu; cases hu; exact but_sub _ _ _ _ (hls i s hq)
  have hls2 := Lib.hid hls1
  obtain ⟨c0, c1, c2, c3, f0, f1, f2, f3⟩ := own4 ((Own.new w zeroV 76).kept hG (by simp; omega))
  have hO := Lib.hid ((Own.new w zeroV 76).kept hG (by simp; omega))
  have hH1 := Lib.hid hH
  have hG1 := Lib.hid (g_call (g_alloc (grown_refl w _) _) hG)
  have hone : ∀ u ∈ l.map Value.string, u.oneCell' = true := by
    intro u hu
    obtain ⟨s, -, rfl⟩ := List.mem_map.1 hu
    rfl
  have hone1 := Lib.hid hone
  clear hH hG hls hls1 hone c0 c1 c2 c3 f0 f1 f2 f3
  go_wp2_with (at_builtin; refine wpList_append_own _ rfl _ _ 38 rfl w'.heap.size 9 i0 (.string ⟨#[]⟩) 1 16 Tryz.underlying38 hi hz0 hz1 hz2 rfl (by decide) _ _ _ rfl (World.ownsRow_nil _ _ _ _) ad l.length cc (l.map Value.string) rfl (by simp) hls2.out hone1.out (by unfold maxLen; omega) (by omega) (Nat.le_refl _) ?_)
  intro v' w1 hown hgrow hiff
  clear hiff
  have hwB : w.heap.size < w'.heap.size := hO.out.lt
  have hown1 := Lib.hid hown
  obtain ⟨va, vc, hv⟩ := owns_slice hown
  have hgrow1 : w'.grownBy w1 none := hgrow
  have hO1 := hO.out.kept hgrow1 (by simp)
  obtain ⟨c0, c1, c2, c3, f0, f1, f2, f3⟩ := own4 hO1
  have hH2 := Lib.hid (hH1.out.kept hgrow1 (by simp))
  have hG2 := Lib.hid (g_call hG1.out (grown_none hgrow1 _))
  clear hgrow hgrow1 hown
  rw [hv]
  rw [hv] at hown1
  clear hv
  go_wp2
  refine bodyPost_ret (v := .agg #[.int .i64 5, .int .i64 0, .string ⟨#[]⟩, .slice va l.length vc]) (by simp [results, Tryz.results57, go_sem, c0, c1, c2, c3]) rfl ?_
  have hbB : b < w'.heap.size := by omega
  refine ⟨⟨⟨5, 0, ⟨#[]⟩, va, l.length, vc, l⟩, rfl, rfl, ?_⟩, ?_, ?_⟩
  · have h1 := rows_of_owns_new (B := w'.heap.size) (b := b) hown1.out (Nat.le_refl _) hbB (l.map strRow) (by simp) (by simp [strRow]) (by rw [strRow_flat])
    have h2 : LAt (newM w'.heap.size b w1) ⟨5, 0, ⟨#[]⟩, va, l.length, vc, l⟩ := ⟨by simpa using h1, (show (⟨#[]⟩ : ByteArray).size < 4294967281 by decide), by simp only; omega⟩
    exact LAtLow (LAtSet (LAtSet (LAtSet (LAtSet h2 (by simp <;> omega) _) (by simp <;> omega) _) (by simp <;> omega) _) (by simp <;> omega) _) (by omega)
  · exact (((hH2.out.set (by simp; omega) _).set (by simp; omega) _).set (by simp; omega) _).set (by simp; omega) _
  · exact g_setCell (g_setCell (g_setCell (g_setCell hG2.out (by simp) _) (by simp) _) (by simp) _) (by simp) _

/-- The kind of the value that is drawn for a kind. -/
def kindOf (k : Int) : Int := if 1 ≤ k ∧ k ≤ 4 then k else 5

theorem value_any (b : Nat) (a : Option Addr) (n c : Nat) (w : World) (h : Codes b a n c w) (hg : Glob (but b w)) (k : Int) :
    Calls Tryz.prog 57 #[.pointer (some ⟨b, 0, none⟩), .int .i64 k] w (Drawn b a n c w fun e w' => ValIs w.heap.size b (kindOf k) e w') := by
  by_cases h1 : k = 1
  · subst h1; exact value_bool b a n c w h
  by_cases h2 : k = 2
  · subst h2; exact value_number b a n c w h
  by_cases h3 : k = 3
  · subst h3; exact value_text b a n c w h hg
  by_cases h4 : k = 4
  · subst h4; exact value_version b a n c w h hg
  have e : kindOf k = 5 := by unfold kindOf; rw [if_neg (by omega)]
  rw [e]
  exact value_list b a n c w h hg k (by simp [h1, h2, h3, h4])

end Go.Proofs.YtfffpflflggonaaGreatDoor.draw

namespace Go.Proofs.YtfffpflflggonaaGreatDoor.draw
open Go.RowKit Go.Proofs.YtfffpflflggonaaGreatDoor.schema

attribute [local go_sem ↓] Go.wp_at_zero Go.wp_at_succ

def sDevice : ByteArray := ⟨#[100, 101, 118, 105, 99, 101]⟩
def sUser : ByteArray := ⟨#[117, 115, 101, 114]⟩
def sKey : ByteArray := ⟨#[107, 101, 121]⟩
/-- The attributes that all drawn environments declare. -/
def declD : List DD := [⟨sDevice, ⟨#[99, 111, 114, 101, 115]⟩, 2⟩, ⟨sDevice, ⟨#[111, 115]⟩, 3⟩, ⟨sUser, ⟨#[97, 103, 101]⟩, 2⟩, ⟨sUser, ⟨#[97, 112, 112]⟩, 4⟩,
  ⟨sUser, ⟨#[98, 101, 116, 97]⟩, 1⟩, ⟨sUser, ⟨#[99, 111, 117, 110, 116, 114, 121]⟩, 3⟩, ⟨sUser, ⟨#[112, 108, 97, 110]⟩, 3⟩, ⟨sUser, ⟨#[116, 97, 103, 115]⟩, 5⟩]
def declArr : Array Value := (declD.map DD.row).flatten.toArray

set_option maxHeartbeats 400000 in
theorem declared_any (w : World) :
    Calls Tryz.prog 55 #[] w fun e w' => e = .returned (.slice (some ⟨w.heap.size, 0, none⟩) 8 8) ∧ w' = w.alloc (.cells declArr 100) := by
  go_enter Tryz.func55, Tryz.ntmps55
  go_wp2
  go_ret
  exact ⟨rfl, rfl⟩

theorem decl_types : ∀ j, (h : j < 8) → typeOf (declD[j]'h).kind.toList (declD[j]'h).name.toList declD = (declD[j]'h).type ∧ 1 ≤ (declD[j]'h).type ∧ (declD[j]'h).type ≤ 5 := by
  intro j h
  have : ∀ j : Fin 8, typeOf (declD[j.val]'j.isLt).kind.toList (declD[j.val]'j.isLt).name.toList declD = (declD[j.val]'j.isLt).type ∧ 1 ≤ (declD[j.val]'j.isLt).type ∧ (declD[j.val]'j.isLt).type ≤ 5 := by decide +kernel
  exact this ⟨j, h⟩
theorem key_type : typeOf sUser.toList sKey.toList declD = 3 := by kernel_rfl

end Go.Proofs.YtfffpflflggonaaGreatDoor.draw
