/- The value of a source form: the program's Parse, at any text. -/
import Derived.Test.YtnghpjijfdpmkaaGreatDoorValJ
namespace Go.Proofs.YtnghpjijfdpmkaaGreatDoor.value
open Go.RowKit Go.Proofs.YtnghpjijfdpmkaaGreatDoor.text

/-- What Parse gives: the value, with its texts in memory, or none. -/
def PPost (r : Option VV) (m : Nat) (w : World) (e : Ending) (w' : World) : Prop :=
  match r with
  | none => e = .returned (.tuple #[.agg #[.int .i64 0, .int .i64 0, .string ⟨#[]⟩, .slice none 0 0], .int .i64 1]) ∧ Below w.heap.size w w'
  | some v => ∃ (t : ByteArray) (la : Option Addr) (lc : Nat) (ls : List ByteArray), e = .returned (.tuple #[.agg #[.int .i64 v.k, .int .i64 v.n, .string t, .slice la ls.length lc], .int .i64 0]) ∧ VOk w' v t la ls ∧ ls.length ≤ 21 ∧ t.size ≤ m ∧ LFrom w.heap.size la ∧ Below w.heap.size w w'

set_option maxRecDepth 100000 in
set_option maxHeartbeats 4000000 in
theorem parseV_any (s : ByteArray) (w : World) (hs : s.size < 4294967281) (hT : Tabs w) :
    Calls Tryz.prog 18 #[.string s] w (PPost (parseP s.data.toList) s.size w) := by
  replace hT := Lib.hid hT
  go_enter Tryz.func18, Tryz.ntmps18
  have hB0 := Lib.hid ((Below.refl w.heap.size w).alloc (Nat.le_refl _) (.cells zero4 24))
  go_wp2_with fail
  refine (guess_any s _ (by omega) (hT.out.below hB0.out)).mono ?_
  rintro e w1 ⟨t, la, lc, ls, rfl, hok, hls, htm, hlf, hb1⟩
  obtain ⟨V, hVV⟩ : ∃ V : VV, Hid (V = guessS s.data.toList) := ⟨_, rfl⟩
  rw [← hVV.out] at hok ⊢
  have hlf1 : LFrom (w.heap.size + 1) la := by simpa using hlf
  clear hlf
  have hO := Lib.hid ((Own.new w zero4 24).below hb1 (by simp))
  have hB := Lib.hid (hB0.out.trans (hb1.mono (by simp)))
  have hB2 := Lib.hid (hB.out.alloc hB.out.size (.cells #[.int .i64 V.k, .int .i64 V.n, .string t, .slice la ls.length lc] 24))
  have hO2 := Lib.hid (hO.out.alloc (.cells #[.int .i64 V.k, .int .i64 V.n, .string t, .slice la ls.length lc] 24))
  have hX := Lib.hid (Own.new w1 #[.int .i64 V.k, .int .i64 V.n, .string t, .slice la ls.length lc] 24)
  have hok2 := Lib.hid (hok.below (((Below.refl w1.heap.size w1).alloc (Nat.le_refl _) (.cells #[.int .i64 V.k, .int .i64 V.n, .string t, .slice la ls.length lc] 24))))
  have hlf := Lib.hid hlf1
  have hl1 : w.heap.size < w1.heap.size := hO.out.lt
  clear hb1 hO hB hlf1 hok
  go_wp2_with fail
  refine (format_any V t la lc ls _ hok2.out (by omega) (by omega) (hT.out.below hB2.out)).mono ?_
  rintro e w2 ⟨rfl, hb2⟩
  have hO3 := Lib.hid (hO2.out.below hb2 hO2.out.lt)
  have hX3 := Lib.hid (hX.out.below hb2 hX.out.lt)
  have hok3 := Lib.hid (hok2.out.below hb2)
  have hB3 := Lib.hid (hB2.out.trans (hb2.mono hB2.out.size))
  clear hb2 hO2 hB2 hX hok2
  obtain ⟨c0, c1, c2, c3, f0, f1, f2, f3⟩ := own4 hO3.out
  obtain ⟨d0, d1, d2, d3, g0, g1, g2, g3⟩ := own4 hX3.out
  by_cases h1 : checkS V = 0
  · unfold formR
    rw [if_pos h1]
    by_cases h2 : formS V = s.data.toList
    · have hP := Lib.hid (show parseP s.data.toList = some V by unfold parseP; rw [← hVV.out, if_pos ⟨h1, h2⟩])
      have hf : (⟨(formS V).toArray⟩ : ByteArray) = s := by
        rw [h2]
      rw [hf]
      clear h1 h2 hf
      go_wp2
      refine bodyPost_ret (v := .tuple #[.agg #[.int .i64 V.k, .int .i64 V.n, .string t, .slice la ls.length lc], .int .i64 0]) (by simp [results, Tryz.results18, go_sem, c0, c1, c2, c3]) rfl ?_
      rw [hP.out]
      exact ⟨t, la, lc, ls, rfl, (((hok3.out.set hlf.out _ _).set hlf.out _ _).set hlf.out _ _).set hlf.out _ _, hls, htm, hlf.out.le (by omega), (((hB3.out.setCell (by simp) _).setCell (by simp) _).setCell (by simp) _).setCell (by simp) _⟩
    · have hP := Lib.hid (show parseP s.data.toList = none by unfold parseP; rw [← hVV.out, if_neg (fun h => h2 h.2)])
      obtain ⟨x, hx⟩ : ∃ x : ByteArray, Hid (x = ⟨(formS V).toArray⟩) := ⟨_, rfl⟩
      rw [← hx.out]
      have q : (!x.toList == s.toList) = true := by
        have h3 : ¬ x.toList = s.toList := by
          rw [ByteArray.toList_eq, ByteArray.toList_eq, hx.out]
          exact h2
        simp [h3]
      clear h1 h2
      go_wp2
      refine bodyPost_ret (v := .tuple #[.agg #[.int .i64 0, .int .i64 0, .string ⟨#[]⟩, .slice none 0 0], .int .i64 1]) (by simp [results, Tryz.results18, go_sem, c0, c1, c2, c3]) rfl ?_
      rw [hP.out]
      exact ⟨rfl, (((hB3.out.setCell (by simp) _).setCell (by simp) _).setCell (by simp) _).setCell (by simp) _⟩
  · unfold formR
    rw [if_neg h1]
    have hP := Lib.hid (show parseP s.data.toList = none by unfold parseP; rw [← hVV.out, if_neg (fun h => h1 h.1)])
    have q : (checkS V != 0) = true := by simp [h1]
    generalize checkS V = c at h1 q ⊢
    go_wp2
    refine bodyPost_ret (v := .tuple #[.agg #[.int .i64 0, .int .i64 0, .string ⟨#[]⟩, .slice none 0 0], .int .i64 1]) (by simp [results, Tryz.results18, go_sem, c0, c1, c2, c3]) rfl ?_
    rw [hP.out]
    exact ⟨rfl, (((hB3.out.setCell (by simp) _).setCell (by simp) _).setCell (by simp) _).setCell (by simp) _⟩

end Go.Proofs.YtnghpjijfdpmkaaGreatDoor.value
