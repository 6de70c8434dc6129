/- A metric of which one field was changed. -/
import Derived.Test.YtnghpjijfdpmkaaDoorMetF
namespace Go.Proofs.YtnghpjijfdpmkaaDoor.metric
open Go.RowKit Go.Proofs.YtnghpjijfdpmkaaDoor Go.Proofs.YtnghpjijfdpmkaaDoor.text

/-- Some metric. -/
def SomeM (v : Value) : Prop := ∃ (m : MV) (s t : ByteArray), v = .agg #[.int .i64 m.k, .string s, .string t, .int .i64 m.win, .int .i64 m.cap, .int .i64 m.least, .int .i64 m.before] ∧ s.data.toList = m.name ∧ t.data.toList = m.below ∧ s.size ≤ maxLen ∧ t.size ≤ maxLen
theorem SomeM.mk' (a b c d e : Int) (s t : ByteArray) (hs : s.size ≤ maxLen) (ht : t.size ≤ maxLen) : SomeM (.agg #[.int .i64 a, .string s, .string t, .int .i64 b, .int .i64 c, .int .i64 d, .int .i64 e]) :=
  ⟨⟨a, s.data.toList, t.data.toList, b, c, d, e⟩, s, t, rfl, rfl, rfl, hs, ht⟩

set_option maxRecDepth 100000 in
set_option maxHeartbeats 4000000 in
theorem change_any (a b c d e f n : Int) (s t x : ByteArray) (w : World) (hs : s.size ≤ maxLen) (ht : t.size ≤ maxLen) (hx : x.size ≤ maxLen) :
    Calls Tryd.prog 22 #[.agg #[.int .i64 a, .string s, .string t, .int .i64 b, .int .i64 c, .int .i64 d, .int .i64 e], .int .u8 f, .int .i64 n, .string x] w fun r w' => (∃ v, r = .returned v ∧ SomeM v) ∧ Below w.heap.size w w' := by
  replace hs := Lib.hid hs
  replace ht := Lib.hid ht
  replace hx := Lib.hid hx
  go_enter Tryd.func22, Tryd.ntmps22
  go_wp2
  · refine bodyPost_ret (v := .agg #[.int .i64 n, .string s, .string t, .int .i64 b, .int .i64 c, .int .i64 d, .int .i64 e]) (by simp [results, Tryd.results22, go_sem]) rfl ?_
    exact ⟨⟨_, rfl, SomeM.mk' _ _ _ _ _ _ _ hs.out ht.out⟩, (((Below.refl _ _).alloc (Nat.le_refl _) _).alloc (by simp) _)⟩
  · refine bodyPost_ret (v := .agg #[.int .i64 a, .string x, .string t, .int .i64 b, .int .i64 c, .int .i64 d, .int .i64 e]) (by simp [results, Tryd.results22, go_sem]) rfl ?_
    exact ⟨⟨_, rfl, SomeM.mk' _ _ _ _ _ _ _ hx.out ht.out⟩, (((Below.refl _ _).alloc (Nat.le_refl _) _).alloc (by simp) _)⟩
  · refine bodyPost_ret (v := .agg #[.int .i64 a, .string s, .string x, .int .i64 b, .int .i64 c, .int .i64 d, .int .i64 e]) (by simp [results, Tryd.results22, go_sem]) rfl ?_
    exact ⟨⟨_, rfl, SomeM.mk' _ _ _ _ _ _ _ hs.out hx.out⟩, (((Below.refl _ _).alloc (Nat.le_refl _) _).alloc (by simp) _)⟩
  · refine bodyPost_ret (v := .agg #[.int .i64 a, .string s, .string t, .int .i64 n, .int .i64 c, .int .i64 d, .int .i64 e]) (by simp [results, Tryd.results22, go_sem]) rfl ?_
    exact ⟨⟨_, rfl, SomeM.mk' _ _ _ _ _ _ _ hs.out ht.out⟩, (((Below.refl _ _).alloc (Nat.le_refl _) _).alloc (by simp) _)⟩
  · refine bodyPost_ret (v := .agg #[.int .i64 a, .string s, .string t, .int .i64 b, .int .i64 n, .int .i64 d, .int .i64 e]) (by simp [results, Tryd.results22, go_sem]) rfl ?_
    exact ⟨⟨_, rfl, SomeM.mk' _ _ _ _ _ _ _ hs.out ht.out⟩, (((Below.refl _ _).alloc (Nat.le_refl _) _).alloc (by simp) _)⟩
  · refine bodyPost_ret (v := .agg #[.int .i64 a, .string s, .string t, .int .i64 b, .int .i64 c, .int .i64 n, .int .i64 e]) (by simp [results, Tryd.results22, go_sem]) rfl ?_
    exact ⟨⟨_, rfl, SomeM.mk' _ _ _ _ _ _ _ hs.out ht.out⟩, (((Below.refl _ _).alloc (Nat.le_refl _) _).alloc (by simp) _)⟩
  · refine bodyPost_ret (v := .agg #[.int .i64 a, .string s, .string t, .int .i64 b, .int .i64 c, .int .i64 d, .int .i64 n]) (by simp [results, Tryd.results22, go_sem]) rfl ?_
    exact ⟨⟨_, rfl, SomeM.mk' _ _ _ _ _ _ _ hs.out ht.out⟩, (((Below.refl _ _).alloc (Nat.le_refl _) _).alloc (by simp) _)⟩
  · refine bodyPost_ret (v := .agg #[.int .i64 a, .string s, .string t, .int .i64 b, .int .i64 c, .int .i64 d, .int .i64 e]) (by simp [results, Tryd.results22, go_sem]) rfl ?_
    exact ⟨⟨_, rfl, SomeM.mk' _ _ _ _ _ _ _ hs.out ht.out⟩, (((Below.refl _ _).alloc (Nat.le_refl _) _).alloc (by simp) _)⟩

set_option maxRecDepth 100000 in
set_option maxHeartbeats 4000000 in
theorem limits_any (f n : Int) (w : World) (h0 : 0 ≤ f) (_h1 : f ≤ 255) :
    Calls Tryd.prog 23 #[.int .u8 f, .int .i64 n] w fun r w' => (∃ k : Int, r = .returned (.int .i64 k)) ∧ Below w.heap.size w w' := by
  obtain ⟨k, hk⟩ : ∃ k : Nat, f.tmod 13 = (k : Int) := ⟨(f.tmod 13).toNat, by have := Int.tmod_nonneg 13 h0; omega⟩
  have hk2 : k < 13 := by have := Int.tmod_lt_of_pos f (show (0 : Int) < 13 by omega); omega
  go_enter Tryd.func23, Tryd.ntmps23
  rcases (show k = 0 ∨ k = 1 ∨ k = 2 ∨ k = 3 ∨ k = 4 ∨ k = 5 ∨ k = 6 ∨ k = 7 ∨ k = 8 ∨ k = 9 ∨ k = 10 ∨ k = 11 ∨ k = 12 by omega) with rfl | rfl | rfl | rfl | rfl | rfl | rfl | rfl | rfl | rfl | rfl | rfl | rfl
  all_goals
    go_wp2
    go_ret
    exact ⟨⟨_, rfl⟩, (Below.refl _ _).alloc (Nat.le_refl _) _⟩

end Go.Proofs.YtnghpjijfdpmkaaDoor.metric

