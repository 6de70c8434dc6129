/- Walks of the drawing functions that give one text, number or value. -/
import Derived.Test.YtlohdmghaeabjaaGreatDoorDraw
import Derived.Test.YtlohdmghaeabjaaGreatDoorSchema
import Derived.Laws.AppendOwn
namespace Go.Proofs.YtlohdmghaeabjaaGreatDoor.draw
open Go.RowKit Go.Proofs.YtlohdmghaeabjaaGreatDoor.schema

/-- The three tables of the drawing package. -/
structure Glob (m : Mem) : Prop where
  versions : ∀ j, j < 6 → ∃ s, m ⟨0, j, none⟩ = some (.string s) ∧ s.size ≤ 200
  texts : ∀ j, j < 11 → ∃ s, m ⟨2, j, none⟩ = some (.string s) ∧ s.size ≤ 200
  lists : ∀ j, j < 5 → ∃ (ad : Addr) (c : Nat) (l : List ByteArray), m ⟨1, j, none⟩ = some (.slice (some ad) l.length c) ∧ l.length ≤ 20 ∧ ∀ (i : Nat) (s : ByteArray), l[i]? = some s → m (ad.add i) = some (.string s)
theorem Glob.mono {m m' : Mem} (hs : Sub m m') (h : Glob m) : Glob m' := by
  refine ⟨fun j hj => ?_, fun j hj => ?_, fun j hj => ?_⟩
  · obtain ⟨s, h, hz⟩ := h.versions j hj
    exact ⟨s, hs _ _ h, hz⟩
  · obtain ⟨s, h, hz⟩ := h.texts j hj
    exact ⟨s, hs _ _ h, hz⟩
  · obtain ⟨ad, c, l, h1, h2, h3⟩ := h.lists j hj
    exact ⟨ad, c, l, hs _ _ h1, h2, fun i s hi => hs _ _ (h3 i s hi)⟩

def IsStr (e : Ending) : Prop := ∃ s : ByteArray, e = .returned (.string s)
/-- A text that is not long. -/
def IsTxt (e : Ending) : Prop := ∃ s : ByteArray, e = .returned (.string s) ∧ s.size ≤ 200
def IsInt (e : Ending) : Prop := ∃ n : Int, e = .returned (.int .i64 n)

def strB : Value → Bool | .string _ => true | _ => false
def intB : Value → Bool | .int .i64 _ => true | _ => false
theorem all_str {A : List Value} (h : A.all strB = true) {j : Nat} (hj : j < A.length) : ∃ s, A[j]? = some (.string s) := by
  have h1 : strB A[j] = true := List.all_eq_true.1 h _ (List.getElem_mem hj)
  rw [List.getElem?_eq_getElem hj]
  cases hA : A[j] <;> rw [hA] at h1 <;> first | exact ⟨_, rfl⟩ | cases h1
theorem all_int {A : List Value} (h : A.all intB = true) {j : Nat} (hj : j < A.length) : ∃ s, A[j]? = some (.int .i64 s) := by
  have h1 : intB A[j] = true := List.all_eq_true.1 h _ (List.getElem_mem hj)
  rw [List.getElem?_eq_getElem hj]
  cases hA : A[j] <;> rw [hA] at h1 <;> try cases h1
  rename_i k n
  cases k <;> first | exact ⟨_, rfl⟩ | cases h1

set_option maxHeartbeats 400000 in
theorem text_any (b : Nat) (a : Option Addr) (n c : Nat) (w : World) (h : Codes b a n c w) (hg : Glob (but b w)) :
    Calls Tryz.prog 53 #[.pointer (some ⟨b, 0, none⟩)] w (Drawn b a n c w fun e _ => IsTxt e) := by
  have hg0 := Lib.hid hg
  have hC := Lib.hid h
  clear hg h
  go_enter Tryz.func53, Tryz.ntmps53
  go_wp2_with fail
  refine (next_any b a n c _ 11 (by omega) (by omega) hC.out).mono ?_
  rintro e w' ⟨⟨m, rfl, hm0, hm1⟩, hH, hG⟩
  obtain ⟨j, rfl⟩ := Int.eq_ofNat_of_zero_le hm0
  obtain ⟨s, hs, hz⟩ := (hg0.out.mono (sub_of_grown hG)).texts j (by omega)
  have hs := but_sub _ _ _ _ hs
  have hH1 := Lib.hid hH
  clear hH
  go_wp2
  go_ret
  exact ⟨⟨_, rfl, hz⟩, hH1.out, hG⟩

set_option maxHeartbeats 400000 in
theorem key_any (b : Nat) (a : Option Addr) (n c : Nat) (w : World) (h : Codes b a n c w) :
    Calls Tryz.prog 33 #[.pointer (some ⟨b, 0, none⟩)] w (Drawn b a n c w fun e _ => IsTxt e) := by
  have hC := Lib.hid h
  clear h
  go_enter Tryz.func33, Tryz.ntmps33
  go_wp2_with fail
  refine (next_any b a n c _ 10 (by omega) (by omega) hC.out).mono ?_
  rintro e w' ⟨⟨m, rfl, hm0, hm1⟩, hH, hG⟩
  have hH1 := Lib.hid hH
  clear hH
  have hz := encode_size_le (48 + m)
  go_wp2
  go_ret
  exact ⟨⟨_, rfl, by have e1 : (⟨#[107]⟩ : ByteArray).size = 1 := rfl; rw [ByteArray.size_append]; omega⟩, hH1.out, hG⟩

def names : Array Value := #[.string ⟨#[]⟩, .string ⟨#[66, 97, 100]⟩, .string ⟨#[57, 97]⟩, .string ⟨#[111, 110]⟩, .string ⟨#[107, 101, 121]⟩, .string ⟨#[122, 122]⟩, .string ⟨#[97]⟩,
  .string ⟨#[97, 108, 112, 104, 97]⟩, .string ⟨#[102, 97]⟩, .string ⟨#[102, 98]⟩, .string ⟨#[108, 97]⟩, .string ⟨#[120, 97]⟩,
  .string ⟨#[97, 98, 99, 100, 101, 102, 103, 104, 105, 106, 107, 108, 109, 110, 111, 112, 113, 114, 115, 116, 117, 118, 119, 120, 121, 122, 48, 49, 50, 51, 52, 53, 54]⟩,
  .string ⟨#[117, 115, 101, 114]⟩, .string ⟨#[97, 46, 98]⟩]

set_option maxHeartbeats 400000 in
theorem name_any (b : Nat) (a : Option Addr) (n c : Nat) (w : World) (h : Codes b a n c w) :
    Calls Tryz.prog 34 #[.pointer (some ⟨b, 0, none⟩)] w (Drawn b a n c w fun e _ => IsStr e) := by
  have hC := Lib.hid h
  clear h
  go_enter Tryz.func34, Tryz.ntmps34
  go_wp2_with fail
  refine (next_any b a n c _ 15 (by omega) (by omega) (hC.out.alloc (.cells names 9))).mono ?_
  rintro e w' ⟨⟨m, rfl, hm0, hm1⟩, hH, hG⟩
  obtain ⟨j, rfl⟩ := Int.eq_ofNat_of_zero_le hm0
  obtain ⟨s, hs⟩ := all_str (A := names.toList) (by decide) (j := j) (show _ < 15 by omega)
  have hs := (((Own.new w names 9).kept hG (by have := hC.out.lt; simp; omega)).cell j).trans (show names[j]? = _ by simpa using hs)
  have hH1 := Lib.hid hH
  have hG1 := Lib.hid (g_call (g_alloc (grown_refl w _) _) hG)
  clear hH hG
  go_wp2
  go_ret
  exact ⟨⟨_, rfl⟩, hH1.out, hG1.out⟩

def numbers : Array Value := #[.int .i64 0, .int .i64 (-1), .int .i64 1, .int .i64 2, .int .i64 8, .int .i64 9, .int .i64 10000, .int .i64 10001, .int .i64 1099511627776, .int .i64 1099511627777, .int .i64 (-1099511627777), .int .i64 1099511627777, .int .i64 4, .int .i64 5, .int .i64 6]

set_option maxHeartbeats 400000 in
theorem number_any (b : Nat) (a : Option Addr) (n c : Nat) (w : World) (h : Codes b a n c w) :
    Calls Tryz.prog 35 #[.pointer (some ⟨b, 0, none⟩)] w (Drawn b a n c w fun e _ => IsInt e) := by
  have hC := Lib.hid h
  clear h
  go_enter Tryz.func35, Tryz.ntmps35
  go_wp2_with fail
  refine (next_any b a n c _ 15 (by omega) (by omega) (hC.out.alloc (.cells numbers 3))).mono ?_
  rintro e w' ⟨⟨m, rfl, hm0, hm1⟩, hH, hG⟩
  obtain ⟨j, rfl⟩ := Int.eq_ofNat_of_zero_le hm0
  obtain ⟨s, hs⟩ := all_int (A := numbers.toList) (by decide) (j := j) (show _ < 15 by omega)
  have hs := (((Own.new w numbers 3).kept hG (by have := hC.out.lt; simp; omega)).cell j).trans (show numbers[j]? = _ by simpa using hs)
  have hH1 := Lib.hid hH
  have hG1 := Lib.hid (g_call (g_alloc (grown_refl w _) _) hG)
  clear hH hG
  go_wp2
  go_ret
  exact ⟨⟨_, rfl⟩, hH1.out, hG1.out⟩

end Go.Proofs.YtlohdmghaeabjaaGreatDoor.draw

