/- Walks of the drawing functions of flagstonedraw: Mod, New, Left, Next. Walks of the drawing functions that give one text, number or value. Walks of the drawing functions that give one value of a kind. Walks of the drawing functions Declared and Test: a test that fits the declared attributes. -/
import Derived.Test.YthnjgbjckggjhaaGreatDoorChecked
import Derived.Test.YthnjgbjckggjhaaGreatDoorKJ1
import Derived.WalkKit
import Derived.WalkSpells
import Derived.WalkLawsBesides
import Derived.Deep.QuietTactic
import Derived.BigQuiet
import Derived.Lib.Hide
import Derived.Laws.AppendOwn
import Derived.Test.YthnjgbjckggjhaaGreatDoorKValE
import Derived.Test.YthnjgbjckggjhaaGreatDoorKJ4
import Derived.Deep.RegionLaw
import Derived.Deep.RegionLawGrows
import Derived.Deep.RegionHeld3
import Derived.Deep.AppendLies
import Derived.Deep.DrawnRows
namespace Go.Proofs.YthnjgbjckggjhaaGreatDoor.draw
open Go.RowKit

/-- The codes' own block b: a list, and a place in it. -/
def HeadK (b : Nat) (a : Option Addr) (n c : Nat) (w : World) (k : Nat) : Prop := w.heap[b]? = some (.cells #[.slice a n c, .int .i64 k] 52 (0, 0)) ∧ k ≤ n
def Head (b : Nat) (a : Option Addr) (n c : Nat) (w : World) : Prop := ∃ k, HeadK b a n c w k
/-- The codes: their own block, and the bytes of the list. -/
def Codes (b : Nat) (a : Option Addr) (n c : Nat) (w : World) : Prop :=
  Head b a n c w ∧ n ≤ 1000 ∧ (n = 0 ∨ ∃ blk off, a = some ⟨blk, off, none⟩ ∧ ∀ i, i < n → ∃ u : Int, 0 ≤ u ∧ u ≤ 255 ∧ but b w ⟨blk, off + i, none⟩ = some (.int .u8 u))

theorem HeadK.own {b : Nat} {a : Option Addr} {n c : Nat} {w : World} {k : Nat} (h : HeadK b a n c w k) : Own w b #[.slice a n c, .int .i64 k] 52 := h.1
theorem Head.lt {b : Nat} {a : Option Addr} {n c : Nat} {w : World} (h : Head b a n c w) : b < w.heap.size := by
  obtain ⟨k, h⟩ := h
  exact h.own.lt
theorem Head.kept {b : Nat} {a : Option Addr} {n c : Nat} {w u : World} {r : Option Nat} (h : Head b a n c w) (g : w.grownBy u r) (hr : r ≠ some b) : Head b a n c u := by
  obtain ⟨k, h⟩ := h
  exact ⟨k, h.own.kept g hr, h.2⟩
theorem Head.below {b : Nat} {a : Option Addr} {n c : Nat} {w u : World} {B : Nat} (h : Head b a n c w) (g : Below B w u) (hB : b < B) : Head b a n c u := by
  obtain ⟨k, h⟩ := h
  exact ⟨k, h.own.below g hB, h.2⟩
theorem Head.alloc {b : Nat} {a : Option Addr} {n c : Nat} {w : World} (h : Head b a n c w) (o : Obj) : Head b a n c (w.alloc o) := h.kept (World.grownBy_alloc w o none) (by simp)
theorem Head.drewN {b : Nat} {a : Option Addr} {n c : Nat} {w : World} (h : Head b a n c w) (q : Nat) : Head b a n c (w.drewN q) := h
theorem Head.drew {b : Nat} {a : Option Addr} {n c : Nat} {w : World} (h : Head b a n c w) : Head b a n c w.drew := h
theorem Head.set {b : Nat} {a : Option Addr} {n c : Nat} {w : World} (h : Head b a n c w) {p : Addr} (hp : b ≠ p.block) (v : Value) : Head b a n c (w.setCell p v) := by
  obtain ⟨k, h⟩ := h
  exact ⟨k, h.own.setOther hp v, h.2⟩
theorem Codes.lt {b : Nat} {a : Option Addr} {n c : Nat} {w : World} (h : Codes b a n c w) : b < w.heap.size := h.1.lt
/-- The codes are codes still. -/
theorem Codes.still {b : Nat} {a : Option Addr} {n c : Nat} {w u : World} (h : Codes b a n c w) (g : w.grownBy u (some b)) (hh : Head b a n c u) : Codes b a n c u := by
  refine ⟨hh, h.2.1, ?_⟩
  rcases h.2.2 with h4 | ⟨blk, off, ha, h4⟩
  · exact Or.inl h4
  · refine Or.inr ⟨blk, off, ha, fun i hi => ?_⟩
    obtain ⟨x, h0, h1, h2⟩ := h4 i hi
    exact ⟨x, h0, h1, sub_of_grown g _ _ h2⟩
theorem Codes.below {b : Nat} {a : Option Addr} {n c : Nat} {w u : World} (h : Codes b a n c w) (g : Below w.heap.size w u) : Codes b a n c u := h.still (grown_of_below g _) (h.1.below g h.lt)
theorem Codes.alloc {b : Nat} {a : Option Addr} {n c : Nat} {w : World} (h : Codes b a n c w) (o : Obj) : Codes b a n c (w.alloc o) := h.still (World.grownBy_alloc w o _) (h.1.alloc o)

theorem Codes.drew {b : Nat} {a : Option Addr} {n c : Nat} {w : World} (h : Codes b a n c w) : Codes b a n c w.drew := h

set_option maxHeartbeats 400000 in
theorem left_any (b : Nat) (w : World) (a : Option Addr) (n c k : Nat) (h : HeadK b a n c w k) (_hn : n ≤ 1000) :
    Calls Tryz.prog 32 #[.pointer (some ⟨b, 0, none⟩)] w fun e w' => e = .returned (.bool (decide (k < n))) ∧ ∃ q, w' = w.drewN q := by
  have c0 := h.own.cell 0
  have c1 := h.own.cell 1
  obtain ⟨-, hk⟩ := h
  simp at c0 c1
  go_enter Tryz.func32, Tryz.ntmps32
  go_wp2
  go_quiet (fail)
  go_wp2
  go_ret
  exact ⟨rfl, _, rfl⟩

/-- What a draw does: something of a kind comes out, the codes' place has moved, nothing else has turned. -/
def Drawn (b : Nat) (a : Option Addr) (n c : Nat) (w : World) (P : Ending → World → Prop) (e : Ending) (w' : World) : Prop := P e w' ∧ Head b a n c w' ∧ w.grownBy w' (some b)

set_option maxHeartbeats 400000 in
theorem next_none (b : Nat) (w : World) (m : Int) (h0 : 1 ≤ m) (h1 : m ≤ 256) (a : Option Addr) (n c k : Nat) (h : HeadK b a n c w k) (hn : n ≤ 1000) (hlt : n ≤ k) :
    Calls Tryz.prog 19 #[.pointer (some ⟨b, 0, none⟩), .int .i64 m] w (Drawn b a n c w fun e _ => IntIn 0 m e) := by
  have hL : decide (k < n) = false := by simp; omega
  have hh := Lib.hid h
  clear h
  go_enter Tryz.func19, Tryz.ntmps19
  go_wp2_with (go_at_call 32; refine (left_any b _ a n c k hh.out hn).mono ?_; rintro e w' ⟨rfl, q, rfl⟩; rw [hL]; clear hL)
  go_ret
  exact ⟨⟨_, rfl, by omega, by omega⟩, ⟨_, hh.out⟩, grown_drewN _ _ _⟩

theorem HeadK.step {b : Nat} {w : World} {a : Option Addr} {n c k : Nat} (h : HeadK b a n c w k) (hk : k < n) : HeadK b a n c (w.setCell ⟨b, 1, none⟩ (.int .i64 ((k : Int) + 1))) (k + 1) := by
  have := h.own.set 1 (.int .i64 ((k : Int) + 1))
  exact ⟨this, hk⟩
theorem grown_setCell (w : World) (b o : Nat) (v : Value) : w.grownBy (w.setCell ⟨b, o, none⟩ v) (some b) :=
  ⟨rfl, rfl, rfl, by simp [World.setCell], fun k _ hne => Below.heap_setCell w ⟨b, o, none⟩ v k (by intro e; exact hne (by rw [e]))⟩

set_option maxHeartbeats 400000 in
theorem next_some (b : Nat) (w : World) (m : Int) (h0 : 1 ≤ m) (h1 : m ≤ 256) (a : Option Addr) (n c k : Nat) (h : HeadK b a n c w k) (hC : Codes b a n c w) (hlt : k < n) :
    Calls Tryz.prog 19 #[.pointer (some ⟨b, 0, none⟩), .int .i64 m] w (Drawn b a n c w fun e _ => IntIn 0 m e) := by
  have hL : decide (k < n) = true := by simp; omega
  have hh := Lib.hid h
  have c0 := h.own.cell 0
  have c1 := h.own.cell 1
  have f1 := h.own.free 1
  simp at c0 c1
  obtain ⟨-, hk⟩ := h
  obtain ⟨-, hn, hr⟩ := hC
  rcases hr with hr | ⟨blk, off, rfl, hr⟩
  · omega
  obtain ⟨u, hu0, hu1, hu⟩ := hr k hlt
  clear hr
  have hne : ¬ blk = b := by
    intro e; unfold but at hu; rw [if_pos e] at hu; cases hu
  have c2 := but_sub _ _ _ _ hu
  clear hu
  go_enter Tryz.func19, Tryz.ntmps19
  go_wp2_with (go_at_call 32; refine (left_any b _ _ n c k hh.out hn).mono ?_; rintro e w' ⟨rfl, q, rfl⟩; rw [hL]; clear hL)
  go_quiet (fail)
  go_wp2
  go_ret
  refine ⟨⟨_, rfl, Int.emod_nonneg _ (by omega), Int.emod_lt_of_pos _ (by omega)⟩, ⟨_, HeadK.step (w := w) hh.out hlt⟩, ?_⟩
  exact grown_trans (grown_drewN w q _) (grown_trans (grown_setCell _ _ _ _) (grown_drewN _ _ _))

theorem next_any (b : Nat) (a : Option Addr) (n c : Nat) (w : World) (m : Int) (h0 : 1 ≤ m) (h1 : m ≤ 256) (h : Codes b a n c w) :
    Calls Tryz.prog 19 #[.pointer (some ⟨b, 0, none⟩), .int .i64 m] w (Drawn b a n c w fun e _ => IntIn 0 m e) := by
  obtain ⟨k, hk⟩ := h.1
  by_cases hlt : k < n
  · exact next_some b w m h0 h1 a n c k hk h hlt
  · exact next_none b w m h0 h1 a n c k hk h.2.1 (by omega)

/-- A list of bytes as it came in. -/
def BytesAt (m : Mem) (a : Option Addr) (n c : Nat) : Prop :=
  n ≤ c ∧ c ≤ maxLen ∧ (n = 0 ∨ ∃ blk off, a = some ⟨blk, off, none⟩ ∧ ∀ i, i < n → ∃ u : Int, 0 ≤ u ∧ u ≤ 255 ∧ m ⟨blk, off + i, none⟩ = some (.int .u8 u))

theorem BytesAt.mono {m m' : Mem} (hs : Sub m m') {a : Option Addr} {n c : Nat} (h : BytesAt m a n c) : BytesAt m' a n c := by
  obtain ⟨h1, h2, h3⟩ := h
  refine ⟨h1, h2, ?_⟩
  rcases h3 with h3 | ⟨blk, off, ha, h3⟩
  · exact Or.inl h3
  · refine Or.inr ⟨blk, off, ha, fun i hi => ?_⟩
    obtain ⟨u, h4, h5, h6⟩ := h3 i hi
    exact ⟨u, h4, h5, hs _ _ h6⟩

theorem bytes_of_row {w : World} {a : Option Addr} {len cap : Nat} {zs : List Int} (h : IsRow .u8 w a len cap zs) : BytesAt w.cell? a len cap := by
  rcases h with ⟨rfl, rfl, rfl, -⟩ | ⟨x, rfl, hl, hm, hz, hc, hw⟩
  · exact ⟨Nat.le_refl _, by simp, Or.inl rfl⟩
  · refine ⟨hl, hm, ?_⟩
    by_cases h0 : len = 0
    · exact Or.inl h0
    have hs : x.spot = none := by
      have h1 := hc 0 (by omega)
      unfold World.cell? at h1
      cases hsp : x.spot with
      | none => rfl
      | some i =>
        exfalso
        have : ((x.add 0).spot.isSome) = true := by unfold Addr.add; split <;> simp_all
        split at h1
        · rw [if_pos this] at h1; cases h1
        · cases h1
    obtain ⟨blk, off, sp⟩ := x
    simp only at hs
    subst hs
    refine Or.inr ⟨blk, off, rfl, fun i hi => ?_⟩
    have h1 := hc i (by omega)
    have h2 : (zs.getD i 0) ∈ zs := by rw [List.getD_eq_getElem?_getD, List.getElem?_eq_getElem (by omega)]; exact List.getElem_mem _
    have h3 := hw _ h2
    have h4 : 0 ≤ zs.getD i 0 ∧ zs.getD i 0 ≤ 255 := by simpa [Lit.wf, IntKind.min, IntKind.max, IntKind.signed, IntKind.bits] using h3
    have e : (⟨blk, off, none⟩ : Addr).add i = ⟨blk, off + i, none⟩ := by unfold Addr.add; split <;> simp_all
    rw [e] at h1
    exact ⟨_, h4.1, h4.2, h1⟩

def Made (w : World) (e : Ending) (w' : World) : Prop := e = .returned (.pointer (some ⟨w.heap.size, 0, none⟩)) ∧ (∃ a n c, Codes w.heap.size a n c w') ∧ Below w.heap.size w w'

theorem codes_new (w : World) (a : Option Addr) (n c : Nat) (h : n ≤ 1000) (hr : n = 0 ∨ ∃ blk off, a = some ⟨blk, off, none⟩ ∧ ∀ i, i < n → ∃ u : Int, 0 ≤ u ∧ u ≤ 255 ∧ w.cell? ⟨blk, off + i, none⟩ = some (.int .u8 u)) :
    Codes w.heap.size a n c (w.alloc (.cells #[.slice a n c, .int .i64 0] 52)) := by
  refine ⟨⟨0, heap_alloc_new w _, Nat.zero_le _⟩, h, ?_⟩
  rcases hr with hr | ⟨blk, off, ha, hr⟩
  · exact Or.inl hr
  · refine Or.inr ⟨blk, off, ha, fun i hi => ?_⟩
    obtain ⟨u, h0, h1, h2⟩ := hr i hi
    refine ⟨u, h0, h1, ?_⟩
    have hlt := World.block_lt_of_cell? w _ h2
    unfold but
    rw [if_neg (by simp at hlt ⊢; omega)]
    exact (World.cell?_of_block (Below.heap_alloc w _ _ hlt)).trans h2

set_option maxHeartbeats 400000 in
theorem new_any (a : Option Addr) (n c : Nat) (most : Int) (w : World) (h0 : 0 ≤ most) (h1 : most ≤ 1000) (h : BytesAt w.cell? a n c) :
    Calls Tryz.prog 6 #[.slice a n c, .int .i64 most] w (Made w) := by
  obtain ⟨m, rfl⟩ := Int.eq_ofNat_of_zero_le h0
  obtain ⟨hn, hc, hr⟩ := h
  unfold maxLen at hc
  by_cases hm : m < n
  · rcases hr with hr | ⟨blk, off, rfl, hr⟩
    · omega
    have H := Lib.hid hr
    clear hr
    go_enter Tryz.func6, Tryz.ntmps6
    go_wp2
    go_ret
    have hr := H.out
    exact ⟨rfl, ⟨_, _, _, codes_new w _ _ _ (by omega) (Or.inr ⟨blk, off, rfl, fun i hi => hr i (by omega)⟩)⟩, (Below.refl _ _).alloc (Nat.le_refl _) _⟩
  · have H := Lib.hid hr
    clear hr
    go_enter Tryz.func6, Tryz.ntmps6
    go_wp2
    go_ret
    have hr := H.out
    exact ⟨rfl, ⟨_, _, _, codes_new w _ _ _ (by omega) hr⟩, (Below.refl _ _).alloc (Nat.le_refl _) _⟩

end Go.Proofs.YthnjgbjckggjhaaGreatDoor.draw

namespace Go.Proofs.YthnjgbjckggjhaaGreatDoor.draw
open Go.RowKit Go.Proofs.YthnjgbjckggjhaaGreatDoor.schema Go.Proofs.YthnjgbjckggjhaaGreatDoor.text Go.Proofs.YthnjgbjckggjhaaGreatDoor.value

/-- The three tables of the drawing package. -/
structure Glob (m : Mem) : Prop where
  versions : ∀ j, j < 6 → ∃ s, m ⟨1, j, none⟩ = some (.string s) ∧ (s.size ≤ 200 ∧ (verS s.data.toList).isSome = true)
  texts : ∀ j, j < 11 → ∃ s, m ⟨0, j, none⟩ = some (.string s) ∧ (s.size ≤ 200 ∧ validS s.data.toList = true)
  lists : ∀ j, j < 5 → ∃ (ad : Addr) (c : Nat) (l : List ByteArray), m ⟨2, j, none⟩ = some (.slice (some ad) l.length c) ∧ (l.length ≤ 20 ∧ listS (lsL l) = 0) ∧ ∀ (i : Nat) (s : ByteArray), l[i]? = some s → m (ad.add i) = some (.string s)
theorem Glob.mono {m m' : Mem} (hs : Sub m m') (h : Glob m) : Glob m' := by
  refine ⟨fun j hj => ?_, fun j hj => ?_, fun j hj => ?_⟩
  · obtain ⟨s, h, hz⟩ := h.versions j hj
    exact ⟨s, hs _ _ h, hz⟩
  · obtain ⟨s, h, hz⟩ := h.texts j hj
    exact ⟨s, hs _ _ h, hz⟩
  · obtain ⟨ad, c, l, h1, h2, h3⟩ := h.lists j hj
    exact ⟨ad, c, l, hs _ _ h1, h2, fun i s hi => hs _ _ (h3 i s hi)⟩

def IsStr (e : Ending) : Prop := ∃ s : ByteArray, e = .returned (.string s)
/-- A text that is not long. -/
def IsTxt (e : Ending) : Prop := ∃ s : ByteArray, e = .returned (.string s) ∧ (s.size ≤ 200 ∧ validS s.data.toList = true)
def IsInt (e : Ending) : Prop := ∃ n : Int, e = .returned (.int .i64 n)

def strB : Value → Bool | .string _ => true | _ => false
def intB : Value → Bool | .int .i64 _ => true | _ => false
theorem all_str {A : List Value} (h : A.all strB = true) {j : Nat} (hj : j < A.length) : ∃ s, A[j]? = some (.string s) := by
  have h1 : strB A[j] = true := List.all_eq_true.1 h _ (List.getElem_mem hj)
  rw [List.getElem?_eq_getElem hj]
  cases hA : A[j] <;> rw [hA] at h1 <;> first | exact ⟨_, rfl⟩ | cases h1
theorem all_int {A : List Value} (h : A.all intB = true) {j : Nat} (hj : j < A.length) : ∃ s, A[j]? = some (.int .i64 s) := by
  have h1 : intB A[j] = true := List.all_eq_true.1 h _ (List.getElem_mem hj)
  rw [List.getElem?_eq_getElem hj]
  cases hA : A[j] <;> rw [hA] at h1 <;> try cases h1
  rename_i k n
  cases k <;> first | exact ⟨_, rfl⟩ | cases h1

set_option maxHeartbeats 400000 in
theorem text_any (b : Nat) (a : Option Addr) (n c : Nat) (w : World) (h : Codes b a n c w) (hg : Glob (but b w)) :
    Calls Tryz.prog 18 #[.pointer (some ⟨b, 0, none⟩)] w (Drawn b a n c w fun e _ => IsTxt e) := by
  have hg0 := Lib.hid hg
  have hC := Lib.hid h
  clear hg h
  go_enter Tryz.func18, Tryz.ntmps18
  go_wp2_with fail
  refine (next_any b a n c _ 11 (by omega) (by omega) hC.out).mono ?_
  rintro e w' ⟨⟨m, rfl, hm0, hm1⟩, hH, hG⟩
  obtain ⟨j, rfl⟩ := Int.eq_ofNat_of_zero_le hm0
  obtain ⟨s, hs, hz⟩ := (hg0.out.mono (sub_of_grown hG)).texts j (by omega)
  have hs := but_sub _ _ _ _ hs
  have hH1 := Lib.hid hH
  clear hH
  go_wp2
  go_ret
  exact ⟨⟨_, rfl, hz⟩, hH1.out, hG⟩

/-- The key of a drawn context. -/
def IsKeyT (e : Ending) : Prop := ∃ s : ByteArray, e = .returned (.string s) ∧ (s.size ≤ 200 ∧ validS s.data.toList = true) ∧ ¬ s.size = 0
theorem key_txt {m : Int} (h0 : 0 ≤ m) (h1 : m < 10) : (((⟨#[107]⟩ : ByteArray) ++ Utf8.encode (48 + m)).size ≤ 200 ∧ validS ((⟨#[107]⟩ : ByteArray) ++ Utf8.encode (48 + m)).data.toList = true) ∧ ¬ ((⟨#[107]⟩ : ByteArray) ++ Utf8.encode (48 + m)).size = 0 := by
  rcases (show m = 0 ∨ m = 1 ∨ m = 2 ∨ m = 3 ∨ m = 4 ∨ m = 5 ∨ m = 6 ∨ m = 7 ∨ m = 8 ∨ m = 9 by omega) with rfl | rfl | rfl | rfl | rfl | rfl | rfl | rfl | rfl | rfl
  all_goals exact ⟨⟨by decide +kernel, by decide +kernel⟩, by decide +kernel⟩

set_option maxHeartbeats 400000 in
theorem key_any (b : Nat) (a : Option Addr) (n c : Nat) (w : World) (h : Codes b a n c w) :
    Calls Tryz.prog 34 #[.pointer (some ⟨b, 0, none⟩)] w (Drawn b a n c w fun e _ => IsKeyT e) := by
  have hC := Lib.hid h
  clear h
  go_enter Tryz.func34, Tryz.ntmps34
  go_wp2_with fail
  refine (next_any b a n c _ 10 (by omega) (by omega) hC.out).mono ?_
  rintro e w' ⟨⟨m, rfl, hm0, hm1⟩, hH, hG⟩
  have hH1 := Lib.hid hH
  clear hH
  have hz0 := encode_size_le (48 + m)
  have hz := Lib.hid (key_txt hm0 hm1)
  go_wp2
  go_ret
  exact ⟨⟨_, rfl, hz.out⟩, hH1.out, hG⟩

def names : Array Value := #[.string ⟨#[]⟩, .string ⟨#[66, 97, 100]⟩, .string ⟨#[57, 97]⟩, .string ⟨#[111, 110]⟩, .string ⟨#[107, 101, 121]⟩, .string ⟨#[122, 122]⟩, .string ⟨#[97]⟩,
  .string ⟨#[97, 108, 112, 104, 97]⟩, .string ⟨#[102, 97]⟩, .string ⟨#[102, 98]⟩, .string ⟨#[108, 97]⟩, .string ⟨#[120, 97]⟩,
  .string ⟨#[97, 98, 99, 100, 101, 102, 103, 104, 105, 106, 107, 108, 109, 110, 111, 112, 113, 114, 115, 116, 117, 118, 119, 120, 121, 122, 48, 49, 50, 51, 52, 53, 54]⟩,
  .string ⟨#[117, 115, 101, 114]⟩, .string ⟨#[97, 46, 98]⟩]

def txtB : Value → Bool | .string s => decide (s.size ≤ 200) | _ => false
theorem all_txt {A : List Value} (h : A.all txtB = true) {j : Nat} (hj : j < A.length) : ∃ s, A[j]? = some (.string s) ∧ s.size ≤ 200 := by
  have h1 : txtB A[j] = true := List.all_eq_true.1 h _ (List.getElem_mem hj)
  rw [List.getElem?_eq_getElem hj]
  cases hA : A[j] <;> rw [hA] at h1 <;> first | exact ⟨_, rfl, of_decide_eq_true h1⟩ | cases h1
def IsName (e : Ending) : Prop := ∃ s : ByteArray, e = .returned (.string s) ∧ s.size ≤ 200

set_option maxHeartbeats 400000 in
theorem name_any (b : Nat) (a : Option Addr) (n c : Nat) (w : World) (h : Codes b a n c w) :
    Calls Tryz.prog 9 #[.pointer (some ⟨b, 0, none⟩)] w (Drawn b a n c w fun e _ => IsName e) := by
  have hC := Lib.hid h
  clear h
  go_enter Tryz.func9, Tryz.ntmps9
  go_wp2_with fail
  refine (next_any b a n c _ 15 (by omega) (by omega) (hC.out.alloc (.cells names 9))).mono ?_
  rintro e w' ⟨⟨m, rfl, hm0, hm1⟩, hH, hG⟩
  obtain ⟨j, rfl⟩ := Int.eq_ofNat_of_zero_le hm0
  obtain ⟨s, hs, hz⟩ := all_txt (A := names.toList) (by decide) (j := j) (show _ < 15 by omega)
  have hs := (((Own.new w names 9).kept hG (by have := hC.out.lt; simp; omega)).cell j).trans (show names[j]? = _ by simpa using hs)
  have hH1 := Lib.hid hH
  replace hz := Lib.hid hz
  have hG1 := Lib.hid (g_call (g_alloc (grown_refl w _) _) hG)
  clear hH hG
  go_wp2
  go_ret
  exact ⟨⟨_, rfl, hz.out⟩, hH1.out, hG1.out⟩

def numbers : Array Value := #[.int .i64 0, .int .i64 (-1), .int .i64 1, .int .i64 2, .int .i64 8, .int .i64 9, .int .i64 10000, .int .i64 10001, .int .i64 1099511627776, .int .i64 1099511627777, .int .i64 (-1099511627777), .int .i64 1099511627777, .int .i64 4, .int .i64 5, .int .i64 6]

set_option maxHeartbeats 400000 in
theorem number_any (b : Nat) (a : Option Addr) (n c : Nat) (w : World) (h : Codes b a n c w) :
    Calls Tryz.prog 21 #[.pointer (some ⟨b, 0, none⟩)] w (Drawn b a n c w fun e _ => IsInt e) := by
  have hC := Lib.hid h
  clear h
  go_enter Tryz.func21, Tryz.ntmps21
  go_wp2_with fail
  refine (next_any b a n c _ 15 (by omega) (by omega) (hC.out.alloc (.cells numbers 3))).mono ?_
  rintro e w' ⟨⟨m, rfl, hm0, hm1⟩, hH, hG⟩
  obtain ⟨j, rfl⟩ := Int.eq_ofNat_of_zero_le hm0
  obtain ⟨s, hs⟩ := all_int (A := numbers.toList) (by decide) (j := j) (show _ < 15 by omega)
  have hs := (((Own.new w numbers 3).kept hG (by have := hC.out.lt; simp; omega)).cell j).trans (show numbers[j]? = _ by simpa using hs)
  have hH1 := Lib.hid hH
  have hG1 := Lib.hid (g_call (g_alloc (grown_refl w _) _) hG)
  clear hH hG
  go_wp2
  go_ret
  exact ⟨⟨_, rfl⟩, hH1.out, hG1.out⟩

end Go.Proofs.YthnjgbjckggjhaaGreatDoor.draw

namespace Go.Proofs.YthnjgbjckggjhaaGreatDoor.draw
open Go.RowKit Go.Proofs.YthnjgbjckggjhaaGreatDoor.schema Go.Proofs.YthnjgbjckggjhaaGreatDoor.text Go.Proofs.YthnjgbjckggjhaaGreatDoor.value

/-- A value of a kind, as it is handed back. -/
def okV (d : VD) : Prop := checkS ⟨d.kind, d.num, d.text.data.toList, lsL d.ls⟩ = 0
def ValIs (B b : Nat) (k : Int) (e : Ending) (w : World) : Prop := ∃ d : VD, e = .returned (.agg d.row.toArray) ∧ (d.kind = k ∧ okV d) ∧ LAt (newM B b w) d
theorem ok_bool {m : Int} (h0 : 0 ≤ m) (h1 : m < 2) : okV ⟨1, m, ⟨#[]⟩, none, 0, 0, []⟩ := by
  have : m = 0 ∨ m = 1 := by omega
  rcases this with rfl | rfl <;> rfl
theorem ok_num {m : Int} (h0 : -1099511627776 ≤ m) (h1 : m ≤ 1099511627776) : okV ⟨2, m, ⟨#[]⟩, none, 0, 0, []⟩ := by
  unfold okV checkS
  simp [shapeS, lsL]
  omega
theorem ok_text {s : ByteArray} (h : validS s.data.toList = true) : okV ⟨3, 0, s, none, 0, 0, []⟩ := by
  unfold okV checkS
  simp [shapeS, lsL, h]
theorem ok_ver {s : ByteArray} (h : (verS s.data.toList).isSome = true) : okV ⟨4, 0, s, none, 0, 0, []⟩ := by
  unfold okV checkS
  simp [shapeS, lsL, h]
theorem ok_list {l : List ByteArray} (h : listS (lsL l) = 0) (a : Option Addr) (n c : Nat) : okV ⟨5, 0, ⟨#[]⟩, a, n, c, l⟩ := by
  unfold okV checkS
  simp [shapeS, h]
def smallB : Value → Bool | .int .i64 n => decide (-1099511627776 ≤ n ∧ n ≤ 1099511627776) | _ => false
theorem all_small {A : List Value} (h : A.all smallB = true) {j : Nat} (hj : j < A.length) : ∃ s, A[j]? = some (.int .i64 s) ∧ -1099511627776 ≤ s ∧ s ≤ 1099511627776 := by
  have h1 : smallB A[j] = true := List.all_eq_true.1 h _ (List.getElem_mem hj)
  rw [List.getElem?_eq_getElem hj]
  cases hA : A[j] <;> rw [hA] at h1 <;> try cases h1
  rename_i k n
  cases k <;> first | exact ⟨_, rfl, of_decide_eq_true h1⟩ | cases h1
def zeroV : Array Value := #[.int .i64 0, .int .i64 0, .string ⟨#[]⟩, .slice none 0 0]

theorem own4 {w : World} {n : Nat} {x0 x1 x2 x3 : Value} {t : TypeId} (h : Own w n #[x0, x1, x2, x3] t) :
    w.cell? ⟨n, 0, none⟩ = some x0 ∧ w.cell? ⟨n, 1, none⟩ = some x1 ∧ w.cell? ⟨n, 2, none⟩ = some x2 ∧ w.cell? ⟨n, 3, none⟩ = some x3 ∧
    w.frozen? ⟨n, 0, none⟩ = false ∧ w.frozen? ⟨n, 1, none⟩ = false ∧ w.frozen? ⟨n, 2, none⟩ = false ∧ w.frozen? ⟨n, 3, none⟩ = false :=
  ⟨h.cell 0, h.cell 1, h.cell 2, h.cell 3, h.free 0, h.free 1, h.free 2, h.free 3⟩

set_option maxHeartbeats 400000 in
theorem value_bool (b : Nat) (a : Option Addr) (n c : Nat) (w : World) (h : Codes b a n c w) :
    Calls Tryz.prog 33 #[.pointer (some ⟨b, 0, none⟩), .int .i64 1] w (Drawn b a n c w fun e w' => ValIs w.heap.size b 1 e w') := by
  have hC := Lib.hid h
  have hlt := h.lt
  clear h
  go_enter Tryz.func33, Tryz.ntmps33
  go_wp2_with fail
  refine (next_any b a n c _ 2 (by omega) (by omega) (hC.out.alloc (.cells zeroV 42))).mono ?_
  rintro e w' ⟨⟨m, rfl, hm0, hm1⟩, hH, hG⟩
  obtain ⟨c0, c1, c2, c3, f0, f1, f2, f3⟩ := own4 ((Own.new w zeroV 42).kept hG (by simp; omega))
  have hH1 := Lib.hid hH
  have hG1 := Lib.hid (g_call (g_alloc (grown_refl w _) _) hG)
  clear hH hG
  go_wp2
  refine bodyPost_ret (v := .agg #[.int .i64 1, .int .i64 m, .string ⟨#[]⟩, .slice none 0 0]) (by simp [results, Tryz.results33, go_sem, c0, c1, c2, c3]) rfl ?_
  refine ⟨⟨⟨1, m, ⟨#[]⟩, none, 0, 0, []⟩, rfl, ⟨rfl, ok_bool hm0 hm1⟩, LAt.flat _ _ _ _ (by decide)⟩, ?_, ?_⟩
  · exact (((hH1.out.set (by simp; omega) _).set (by simp; omega) _).set (by simp; omega) _).set (by simp; omega) _
  · exact g_setCell (g_setCell (g_setCell (g_setCell hG1.out (by simp) _) (by simp) _) (by simp) _) (by simp) _

def numbers9 : Array Value := #[.int .i64 0, .int .i64 1, .int .i64 17, .int .i64 18, .int .i64 19, .int .i64 (-5), .int .i64 64, .int .i64 1099511627776, .int .i64 (-1099511627776)]

set_option maxHeartbeats 400000 in
theorem value_number (b : Nat) (a : Option Addr) (n c : Nat) (w : World) (h : Codes b a n c w) :
    Calls Tryz.prog 33 #[.pointer (some ⟨b, 0, none⟩), .int .i64 2] w (Drawn b a n c w fun e w' => ValIs w.heap.size b 2 e w') := by
  have hC := Lib.hid h
  have hlt := h.lt
  clear h
  go_enter Tryz.func33, Tryz.ntmps33
  go_wp2_with fail
  refine (next_any b a n c _ 9 (by omega) (by omega) ((hC.out.alloc (.cells zeroV 42)).alloc (.cells numbers9 3))).mono ?_
  rintro e w' ⟨⟨m, rfl, hm0, hm1⟩, hH, hG⟩
  obtain ⟨j, rfl⟩ := Int.eq_ofNat_of_zero_le hm0
  obtain ⟨s, hs, hq0, hq1⟩ := all_small (A := numbers9.toList) (by decide) (j := j) (show _ < 9 by omega)
  have hq := Lib.hid (ok_num hq0 hq1)
  clear hq0 hq1
  have hs := (((Own.new (w.alloc (.cells zeroV 42)) numbers9 3).kept hG (by simp; omega)).cell j).trans (show numbers9[j]? = _ by simpa using hs)
  simp only [World.size_alloc] at hs
  obtain ⟨c0, c1, c2, c3, f0, f1, f2, f3⟩ := own4 (((Own.new w zeroV 42).alloc _).kept hG (by simp; omega))
  have hH1 := Lib.hid hH
  have hG1 := Lib.hid (g_call (g_alloc (g_alloc (grown_refl w _) _) _) hG)
  clear hH hG
  go_wp2
  refine bodyPost_ret (v := .agg #[.int .i64 2, .int .i64 s, .string ⟨#[]⟩, .slice none 0 0]) (by simp [results, Tryz.results33, go_sem, c0, c1, c2, c3]) rfl ?_
  refine ⟨⟨⟨2, s, ⟨#[]⟩, none, 0, 0, []⟩, rfl, ⟨rfl, hq.out⟩, LAt.flat _ _ _ _ (by decide)⟩, ?_, ?_⟩
  · exact (((hH1.out.set (by simp; omega) _).set (by simp; omega) _).set (by simp; omega) _).set (by simp; omega) _
  · exact g_setCell (g_setCell (g_setCell (g_setCell hG1.out (by simp) _) (by simp) _) (by simp) _) (by simp) _

set_option maxHeartbeats 400000 in
theorem value_text (b : Nat) (a : Option Addr) (n c : Nat) (w : World) (h : Codes b a n c w) (hg : Glob (but b w)) :
    Calls Tryz.prog 33 #[.pointer (some ⟨b, 0, none⟩), .int .i64 3] w (Drawn b a n c w fun e w' => ValIs w.heap.size b 3 e w') := by
  have hC := Lib.hid h
  have hg0 := Lib.hid (hg.mono (sub_of_grown (World.grownBy_alloc w (.cells zeroV 42) (some b))))
  have hlt := h.lt
  clear h hg
  go_enter Tryz.func33, Tryz.ntmps33
  go_wp2_with fail
  refine (text_any b a n c _ (hC.out.alloc (.cells zeroV 42)) hg0.out).mono ?_
  rintro e w' ⟨⟨s, rfl, hz⟩, hH, hG⟩
  have hz1 := Lib.hid hz
  clear hz
  obtain ⟨c0, c1, c2, c3, f0, f1, f2, f3⟩ := own4 ((Own.new w zeroV 42).kept hG (by simp; omega))
  have hH1 := Lib.hid hH
  have hG1 := Lib.hid (g_call (g_alloc (grown_refl w _) _) hG)
  clear hH hG
  go_wp2
  refine bodyPost_ret (v := .agg #[.int .i64 3, .int .i64 0, .string s, .slice none 0 0]) (by simp [results, Tryz.results33, go_sem, c0, c1, c2, c3]) rfl ?_
  refine ⟨⟨⟨3, 0, s, none, 0, 0, []⟩, rfl, ⟨rfl, ok_text hz1.out.2⟩, LAt.flat _ _ _ _ (by have := hz1.out.1; omega)⟩, ?_, ?_⟩
  · exact (((hH1.out.set (by simp; omega) _).set (by simp; omega) _).set (by simp; omega) _).set (by simp; omega) _
  · exact g_setCell (g_setCell (g_setCell (g_setCell hG1.out (by simp) _) (by simp) _) (by simp) _) (by simp) _

set_option maxHeartbeats 400000 in
theorem value_version (b : Nat) (a : Option Addr) (n c : Nat) (w : World) (h : Codes b a n c w) (hg : Glob (but b w)) :
    Calls Tryz.prog 33 #[.pointer (some ⟨b, 0, none⟩), .int .i64 4] w (Drawn b a n c w fun e w' => ValIs w.heap.size b 4 e w') := by
  have hC := Lib.hid h
  have hg0 := Lib.hid (hg.mono (sub_of_grown (World.grownBy_alloc w (.cells zeroV 42) (some b))))
  have hlt := h.lt
  clear h hg
  go_enter Tryz.func33, Tryz.ntmps33
  go_wp2_with fail
  refine (next_any b a n c _ 6 (by omega) (by omega) (hC.out.alloc (.cells zeroV 42))).mono ?_
  rintro e w' ⟨⟨m, rfl, hm0, hm1⟩, hH, hG⟩
  obtain ⟨j, rfl⟩ := Int.eq_ofNat_of_zero_le hm0
  obtain ⟨s, hs, hz⟩ := (hg0.out.mono (sub_of_grown hG)).versions j (by omega)
  have hz1 := Lib.hid hz
  clear hz
  have hs := but_sub _ _ _ _ hs
  obtain ⟨c0, c1, c2, c3, f0, f1, f2, f3⟩ := own4 ((Own.new w zeroV 42).kept hG (by simp; omega))
  have hH1 := Lib.hid hH
  have hG1 := Lib.hid (g_call (g_alloc (grown_refl w _) _) hG)
  clear hH hG
  go_wp2
  refine bodyPost_ret (v := .agg #[.int .i64 4, .int .i64 0, .string s, .slice none 0 0]) (by simp [results, Tryz.results33, go_sem, c0, c1, c2, c3]) rfl ?_
  refine ⟨⟨⟨4, 0, s, none, 0, 0, []⟩, rfl, ⟨rfl, ok_ver hz1.out.2⟩, LAt.flat _ _ _ _ (by have := hz1.out.1; omega)⟩, ?_, ?_⟩
  · exact (((hH1.out.set (by simp; omega) _).set (by simp; omega) _).set (by simp; omega) _).set (by simp; omega) _
  · exact g_setCell (g_setCell (g_setCell (g_setCell hG1.out (by simp) _) (by simp) _) (by simp) _) (by simp) _

theorem info9 : (Tryz.prog.info? 9).map (fun i => (i.zero, i.size, i.bytes)) = some (some (.string ⟨#[]⟩), 1, 16) := by kernel_rfl

set_option maxHeartbeats 400000 in
theorem value_list (b : Nat) (a : Option Addr) (n c : Nat) (w : World) (h : Codes b a n c w) (hg : Glob (but b w)) (k : Int) (hk : (k == 1) = false ∧ (k == 2) = false ∧ (k == 3) = false ∧ (k == 4) = false) :
    Calls Tryz.prog 33 #[.pointer (some ⟨b, 0, none⟩), .int .i64 k] w (Drawn b a n c w fun e w' => ValIs w.heap.size b 5 e w') := by
  obtain ⟨k1, k2, k3, k4⟩ := hk
  have hC := Lib.hid h
  have hg0 := Lib.hid (hg.mono (sub_of_grown (World.grownBy_alloc w (.cells zeroV 42) (some b))))
  have hlt := h.lt
  clear h hg
  obtain ⟨i0, hi, hz0, hz1, hz2⟩ := info_parts info9
  go_enter Tryz.func33, Tryz.ntmps33
  go_wp2_with fail
  refine (next_any b a n c _ 5 (by omega) (by omega) (hC.out.alloc (.cells zeroV 42))).mono ?_
  rintro e w' ⟨⟨m, rfl, hm0, hm1⟩, hH, hG⟩
  obtain ⟨j, rfl⟩ := Int.eq_ofNat_of_zero_le hm0
  obtain ⟨ad, cc, l, hs, ⟨hl, hl9⟩, hls⟩ := (hg0.out.mono (sub_of_grown hG)).lists j (by omega)
  have hs := but_sub _ _ _ _ hs
  have hls1 : ∀ i u, (l.map Value.string)[i]? = some u → w'.cell? (ad.add i) = some u := by
    intro i u hu
    rw [List.getElem?_map] at hu
    cases hq : l[i]? with
    | none => rw [hq] at hu; cases hu
    | some s => rw [hq] at hu; cases hu; exact but_sub _ _ _ _ (hls i s hq)
  have hls2 := Lib.hid hls1
  replace hl9 := Lib.hid hl9
  obtain ⟨c0, c1, c2, c3, f0, f1, f2, f3⟩ := own4 ((Own.new w zeroV 42).kept hG (by simp; omega))
  have hO := Lib.hid ((Own.new w zeroV 42).kept hG (by simp; omega))
  have hH1 := Lib.hid hH
  have hG1 := Lib.hid (g_call (g_alloc (grown_refl w _) _) hG)
  have hone : ∀ u ∈ l.map Value.string, u.oneCell' = true := by
    intro u hu
    obtain ⟨s, -, rfl⟩ := List.mem_map.1 hu
    rfl
  have hone1 := Lib.hid hone
  clear hH hG hls hls1 hone c0 c1 c2 c3 f0 f1 f2 f3
  go_wp2_with (at_builtin; refine wpList_append_own _ rfl _ _ 33 rfl w'.heap.size 9 i0 (.string ⟨#[]⟩) 1 16 Tryz.underlying33 hi hz0 hz1 hz2 rfl (by decide) _ _ _ rfl (World.ownsRow_nil _ _ _ _) ad l.length cc (l.map Value.string) rfl (by simp) hls2.out hone1.out (by unfold maxLen; omega) (by omega) (Nat.le_refl _) ?_)
  intro v' w1 hown hgrow hiff
  clear hiff
  have hwB : w.heap.size < w'.heap.size := hO.out.lt
  have hown1 := Lib.hid hown
  obtain ⟨va, vc, hv⟩ := owns_slice hown
  have hgrow1 : w'.grownBy w1 none := hgrow
  have hO1 := hO.out.kept hgrow1 (by simp)
  obtain ⟨c0, c1, c2, c3, f0, f1, f2, f3⟩ := own4 hO1
  have hH2 := Lib.hid (hH1.out.kept hgrow1 (by simp))
  have hG2 := Lib.hid (g_call hG1.out (grown_none hgrow1 _))
  clear hgrow hgrow1 hown
  rw [hv]
  rw [hv] at hown1
  clear hv
  go_wp2
  refine bodyPost_ret (v := .agg #[.int .i64 5, .int .i64 0, .string ⟨#[]⟩, .slice va l.length vc]) (by simp [results, Tryz.results33, go_sem, c0, c1, c2, c3]) rfl ?_
  have hbB : b < w'.heap.size := by omega
  refine ⟨⟨⟨5, 0, ⟨#[]⟩, va, l.length, vc, l⟩, rfl, ⟨rfl, ok_list hl9.out _ _ _⟩, ?_⟩, ?_, ?_⟩
  · have h1 := rows_of_owns_new (B := w'.heap.size) (b := b) hown1.out (Nat.le_refl _) hbB (l.map strRow) (by simp) (by simp [strRow]) (by rw [strRow_flat])
    have h2 : LAt (newM w'.heap.size b w1) ⟨5, 0, ⟨#[]⟩, va, l.length, vc, l⟩ := ⟨by simpa using h1, (show (⟨#[]⟩ : ByteArray).size < 4294967281 by decide), by simp only; omega⟩
    exact LAtLow (LAtSet (LAtSet (LAtSet (LAtSet h2 (by simp <;> omega) _) (by simp <;> omega) _) (by simp <;> omega) _) (by simp <;> omega) _) (by omega)
  · exact (((hH2.out.set (by simp; omega) _).set (by simp; omega) _).set (by simp; omega) _).set (by simp; omega) _
  · exact g_setCell (g_setCell (g_setCell (g_setCell hG2.out (by simp) _) (by simp) _) (by simp) _) (by simp) _

/-- The kind of the value that is drawn for a kind. -/
def kindOf (k : Int) : Int := if 1 ≤ k ∧ k ≤ 4 then k else 5

theorem value_any (b : Nat) (a : Option Addr) (n c : Nat) (w : World) (h : Codes b a n c w) (hg : Glob (but b w)) (k : Int) :
    Calls Tryz.prog 33 #[.pointer (some ⟨b, 0, none⟩), .int .i64 k] w (Drawn b a n c w fun e w' => ValIs w.heap.size b (kindOf k) e w') := by
  by_cases h1 : k = 1
  · subst h1; exact value_bool b a n c w h
  by_cases h2 : k = 2
  · subst h2; exact value_number b a n c w h
  by_cases h3 : k = 3
  · subst h3; exact value_text b a n c w h hg
  by_cases h4 : k = 4
  · subst h4; exact value_version b a n c w h hg
  have e : kindOf k = 5 := by unfold kindOf; rw [if_neg (by omega)]
  rw [e]
  exact value_list b a n c w h hg k (by simp [h1, h2, h3, h4])

set_option maxHeartbeats 400000 in
theorem any_any (b : Nat) (a : Option Addr) (n c : Nat) (w : World) (h : Codes b a n c w) (hg : Glob (but b w)) :
    Calls Tryz.prog 20 #[.pointer (some ⟨b, 0, none⟩)] w (Drawn b a n c w fun e w' => ∃ k, 1 ≤ k ∧ k ≤ 5 ∧ ValIs w.heap.size b k e w') := by
  have hC := Lib.hid h
  have hg0 := Lib.hid (hg.mono (sub_of_grown (World.grownBy_alloc w (.cells zeroV 42) (some b))))
  have hlt := h.lt
  clear h hg
  go_enter Tryz.func20, Tryz.ntmps20
  go_wp2_with fail
  refine (next_any b a n c _ 5 (by omega) (by omega) (hC.out.alloc (.cells zeroV 42))).mono ?_
  rintro e w' ⟨⟨m, rfl, hm0, hm1⟩, hH, hG⟩
  have hC2 := Lib.hid ((hC.out.alloc (.cells zeroV 42)).still hG hH)
  have hg2 := Lib.hid (hg0.out.mono (sub_of_grown hG))
  have hO := Lib.hid ((Own.new w zeroV 42).kept hG (by simp; omega))
  have hG1 := Lib.hid (g_call (g_alloc (grown_refl w _) _) hG)
  clear hH hG
  go_wp2_with fail
  refine (value_any b a n c _ hC2.out hg2.out _).mono ?_
  rintro e w2 ⟨⟨d, rfl, hd, hLd⟩, hH, hG⟩
  have hd1 := Lib.hid (show 1 ≤ d.kind ∧ d.kind ≤ 5 by have := hd.1; unfold kindOf at this; split at this <;> omega)
  replace hd := Lib.hid hd
  have hwB : w.heap.size < w'.heap.size := hO.out.lt
  have hL1 := Lib.hid hLd
  obtain ⟨c0, c1, c2, c3, f0, f1, f2, f3⟩ := own4 (hO.out.kept hG (by simp; omega))
  have hH1 := Lib.hid hH
  have hG2 := Lib.hid (g_call hG1.out hG)
  clear hH hG hLd
  unfold VD.row
  go_wp2
  refine bodyPost_ret (v := .agg d.row.toArray) (by simp [results, Tryz.results20, go_sem, c0, c1, c2, c3, VD.row]) rfl ?_
  refine ⟨⟨d.kind, hd1.out.1, hd1.out.2, d, rfl, ⟨rfl, hd.out.2⟩, LAtLow (LAtSet (LAtSet (LAtSet (LAtSet hL1.out (by simp <;> omega) _) (by simp <;> omega) _) (by simp <;> omega) _) (by simp <;> omega) _) (by omega)⟩, ?_, ?_⟩
  · exact (((hH1.out.set (by simp; omega) _).set (by simp; omega) _).set (by simp; omega) _).set (by simp; omega) _
  · exact g_setCell (g_setCell (g_setCell (g_setCell hG2.out (by simp) _) (by simp) _) (by simp) _) (by simp) _

end Go.Proofs.YthnjgbjckggjhaaGreatDoor.draw

namespace Go.Proofs.YthnjgbjckggjhaaGreatDoor.draw
open Go.RowKit Go.Proofs.YthnjgbjckggjhaaGreatDoor.schema

attribute [local go_sem ↓] Go.wp_at_zero Go.wp_at_succ

def sDevice : ByteArray := ⟨#[100, 101, 118, 105, 99, 101]⟩
def sUser : ByteArray := ⟨#[117, 115, 101, 114]⟩
def sKey : ByteArray := ⟨#[107, 101, 121]⟩
/-- The attributes that all drawn environments declare. -/
def declD : List DD := [⟨sDevice, ⟨#[99, 111, 114, 101, 115]⟩, 2⟩, ⟨sDevice, ⟨#[111, 115]⟩, 3⟩, ⟨sUser, ⟨#[97, 103, 101]⟩, 2⟩, ⟨sUser, ⟨#[97, 112, 112]⟩, 4⟩,
  ⟨sUser, ⟨#[98, 101, 116, 97]⟩, 1⟩, ⟨sUser, ⟨#[99, 111, 117, 110, 116, 114, 121]⟩, 3⟩, ⟨sUser, ⟨#[112, 108, 97, 110]⟩, 3⟩, ⟨sUser, ⟨#[116, 97, 103, 115]⟩, 5⟩]
def declArr : Array Value := (declD.map DD.row).flatten.toArray

set_option maxHeartbeats 400000 in
theorem declared_any (w : World) :
    Calls Tryz.prog 35 #[] w fun e w' => e = .returned (.slice (some ⟨w.heap.size, 0, none⟩) 8 8) ∧ w' = w.alloc (.cells declArr 73) := by
  go_enter Tryz.func35, Tryz.ntmps35
  go_wp2
  go_ret
  exact ⟨rfl, rfl⟩

theorem decl_types : ∀ j, (h : j < 8) → typeOf (declD[j]'h).kind.toList (declD[j]'h).name.toList declD = (declD[j]'h).type ∧ 1 ≤ (declD[j]'h).type ∧ (declD[j]'h).type ≤ 5 := by
  intro j h
  have : ∀ j : Fin 8, typeOf (declD[j.val]'j.isLt).kind.toList (declD[j.val]'j.isLt).name.toList declD = (declD[j.val]'j.isLt).type ∧ 1 ≤ (declD[j.val]'j.isLt).type ∧ (declD[j.val]'j.isLt).type ≤ 5 := by decide +kernel
  exact this ⟨j, h⟩
theorem key_type : typeOf sUser.toList sKey.toList declD = 3 := by kernel_rfl

end Go.Proofs.YthnjgbjckggjhaaGreatDoor.draw
