/- Which value a text is: the reference's Parse. -/
import Derived.Test.YtnghpjijfdpmkaaGreatDoorValRL
import Derived.Test.YtnghpjijfdpmkaaGreatDoorValI
namespace Go.Proofs.YtnghpjijfdpmkaaGreatDoor.value
open Go.RowKit Go.Proofs.YtnghpjijfdpmkaaGreatDoor.text

theorem VOk.setAny {w : World} {v : VV} {t : ByteArray} {la : Option Addr} {ls : List ByteArray} (h : VOk w v t la ls) {b : Nat} (hb : LFrom (b + 1) la) (o : Nat) (x : Value) : VOk (w.setCell ⟨b, o, none⟩ x) v t la ls := h.set hb o x
/-- What the reference takes a text for, before it is checked. -/
theorem parseR_none {s : List UInt8} (h : guessR s = none) : parseR s = none := by unfold parseR; rw [h]
theorem parseR_bad {s : List UInt8} {v : VV} (h : guessR s = some v) (hc : checkS v ≠ 0) : parseR s = none := by unfold parseR; rw [h]; simp only [if_neg hc]
theorem parseR_ok {s : List UInt8} {v : VV} (h : guessR s = some v) (hc : checkS v = 0) : parseR s = some v := by unfold parseR; rw [h]; simp only [if_pos hc]

theorem guessR_rest {s : List UInt8} (h1 : s ≠ [116, 114, 117, 101]) (h2 : s ≠ [102, 97, 108, 115, 101]) : guessR s = if s.head? = some 34 then (match uqS s with | none => none | some t => some ⟨3, 0, t, []⟩)
      else if s.head? = some 91 ∧ 1 < s.length then (match elemS s.length (s.drop 1) [] with | none => none | some l => some ⟨5, 0, [], l⟩)
      else if (parseS s).2 = 0 then some ⟨2, (parseS s).1, [], []⟩ else some ⟨4, 0, s, []⟩ := by
  unfold guessR
  rw [if_neg h1, if_neg h2]
  rfl
theorem parseR_ways {V : VV} {s : List UInt8} (h : guessR s = some V) : (∃ c : Int, checkS V = c ∧ (c != 0) = true ∧ Hid (parseR s = none)) ∨ (checkS V = 0 ∧ Hid (checkS V = 0) ∧ Hid (parseR s = some V)) := by
  by_cases hc : checkS V = 0
  · exact Or.inr ⟨hc, hc, parseR_ok h hc⟩
  · exact Or.inl ⟨_, rfl, by simp [hc], parseR_bad h hc⟩
theorem list_max {V : VV} {ls : List ByteArray} (hc : checkS V = 0) (hl : lsL ls = V.l) : ls.length ≤ 21 := by
  have h1 : V.l.length = ls.length := by rw [← hl]; simp [lsL]
  by_cases hk : V.k = 5
  · have h2 := c_5 (shape_of hc) hk
    rw [hc] at h2
    have h3 := (list_ok h2.symm).1
    omega
  · have h2 := shape_of hc
    have h3 := kind_of hc
    unfold shapeS at h2
    split at h2
    · simp at h2; rw [h2.2] at h1; simp at h1; omega
    · split at h2
      · simp at h2; rw [h2.2] at h1; simp at h1; omega
      · omega

set_option maxRecDepth 100000 in
set_option maxHeartbeats 8000000 in
theorem parse3_ref (s : ByteArray) (w : World) (hs : s.size < 4294967281) (hT : Tabs w) :
    Calls Tryz.prog 21 #[.string s] w (PPost (parseR s.data.toList) s.size w) := by
  replace hT := Lib.hid hT
  go_enter Tryz.func21, Tryz.ntmps21
  have hO2 := Lib.hid (show Own ((w.alloc (.cells #[.int .i64 0, .int .i64 0, .string ⟨#[]⟩, .slice none 0 0] 24)).alloc (.cells #[.int .i64 0, .int .i64 0, .string ⟨#[]⟩, .slice none 0 0] 24)) w.heap.size #[.int .i64 0, .int .i64 0, .string ⟨#[]⟩, .slice none 0 0] 24 from (Own.new w _ _).alloc _)
  have hO4 := Lib.hid (show Own ((w.alloc (.cells #[.int .i64 0, .int .i64 0, .string ⟨#[]⟩, .slice none 0 0] 24)).alloc (.cells #[.int .i64 0, .int .i64 0, .string ⟨#[]⟩, .slice none 0 0] 24)) (w.heap.size + 1) #[.int .i64 0, .int .i64 0, .string ⟨#[]⟩, .slice none 0 0] 24 from Own.new' (by simp))
  have hB := Lib.hid (show Below w.heap.size w ((w.alloc (.cells #[.int .i64 0, .int .i64 0, .string ⟨#[]⟩, .slice none 0 0] 24)).alloc (.cells #[.int .i64 0, .int .i64 0, .string ⟨#[]⟩, .slice none 0 0] 24)) from ((Below.refl _ _).alloc (Nat.le_refl _) _).alloc (by simp) _)
  by_cases h1 : s.toList = [116, 114, 117, 101]
  · have qh1 : (s.toList == [116, 114, 117, 101]) = true := by rw [h1]; rfl
    have hR := Lib.hid (show guessR s.data.toList = some ⟨1, 1, [], []⟩ by rw [← ByteArray.toList_eq, h1]; rfl)
    clear h1
    replace hO2 := Lib.hid (show Own ((w.alloc (.cells #[.int .i64 0, .int .i64 0, .string ⟨#[]⟩, .slice none 0 0] 24)).alloc (.cells #[.int .i64 1, .int .i64 1, .string ⟨#[]⟩, .slice none 0 0] 24)) w.heap.size #[.int .i64 0, .int .i64 0, .string ⟨#[]⟩, .slice none 0 0] 24 from (Own.new w _ _).alloc _)
    replace hO4 := Lib.hid (show Own ((w.alloc (.cells #[.int .i64 0, .int .i64 0, .string ⟨#[]⟩, .slice none 0 0] 24)).alloc (.cells #[.int .i64 1, .int .i64 1, .string ⟨#[]⟩, .slice none 0 0] 24)) (w.heap.size + 1) #[.int .i64 1, .int .i64 1, .string ⟨#[]⟩, .slice none 0 0] 24 from Own.new' (by simp))
    replace hB := Lib.hid (show Below w.heap.size w ((w.alloc (.cells #[.int .i64 0, .int .i64 0, .string ⟨#[]⟩, .slice none 0 0] 24)).alloc (.cells #[.int .i64 1, .int .i64 1, .string ⟨#[]⟩, .slice none 0 0] 24)) from ((Below.refl _ _).alloc (Nat.le_refl _) _).alloc (by simp) _)
    have hok := Lib.hid (show VOk ((w.alloc (.cells #[.int .i64 0, .int .i64 0, .string ⟨#[]⟩, .slice none 0 0] 24)).alloc (.cells #[.int .i64 1, .int .i64 1, .string ⟨#[]⟩, .slice none 0 0] 24)) ⟨1, 1, [], []⟩ ⟨#[]⟩ none [] from ⟨rfl, Or.inl rfl, rfl⟩)
    have hlf := Lib.hid (show LFrom (w.heap.size + 1 + 1) none from fun a e => by cases e)
    go_wp2_with fail
    refine (check_ref ⟨1, 1, [], []⟩ ⟨#[]⟩ none 0 [] _ hok.out (by exact Nat.zero_le _) (hT.out.below hB.out)).mono ?_
    rintro e w9 ⟨rfl, hb9⟩
    have hO29 := Lib.hid (hO2.out.below hb9 hO2.out.lt)
    have hO49 := Lib.hid (hO4.out.below hb9 hO4.out.lt)
    have hok9 := Lib.hid (hok.out.below hb9)
    have hB9 := Lib.hid (hB.out.trans (hb9.mono hB.out.size))
    clear hb9 hO2 hO4 hB hok
    obtain ⟨c0, c1, c2, c3, f0, f1, f2, f3⟩ := own4 hO29.out
    obtain ⟨d0, d1, d2, d3, g0, g1, g2, g3⟩ := own4 hO49.out
    rcases parseR_ways hR.out with ⟨cc, hcc, hq, hP⟩ | ⟨hcc, hc0, hP⟩
    · rw [hcc]
      clear hcc
      go_wp2
      refine bodyPost_ret (v := .tuple #[.agg #[.int .i64 0, .int .i64 0, .string ⟨#[]⟩, .slice none 0 0], .int .i64 1]) (by simp [results, Tryz.results21, go_sem, c0, c1, c2, c3]) rfl ?_
      rw [hP.out]
      exact ⟨rfl, (((hB9.out.setCell (by simp) _).setCell (by simp) _).setCell (by simp) _).setCell (by simp) _⟩
    · rw [hcc]
      clear hcc
      go_wp2
      refine bodyPost_ret (v := .tuple #[.agg #[.int .i64 1, .int .i64 1, .string ⟨#[]⟩, .slice none 0 0], .int .i64 0]) (by simp [results, Tryz.results21, go_sem, c0, c1, c2, c3]) rfl ?_
      rw [hP.out]
      exact ⟨⟨#[]⟩, none, 0, [], rfl, (((hok9.out.set (hlf.out.le (by omega)) _ _).set (hlf.out.le (by omega)) _ _).set (hlf.out.le (by omega)) _ _).set (hlf.out.le (by omega)) _ _, list_max hc0.out hok9.out.list, by exact Nat.zero_le _, hlf.out.le (by omega), (((hB9.out.setCell (by simp) _).setCell (by simp) _).setCell (by simp) _).setCell (by simp) _⟩
  have qh1 : (s.toList == [116, 114, 117, 101]) = false := by simp [h1]
  by_cases h2 : s.toList = [102, 97, 108, 115, 101]
  · have qh2 : (s.toList == [102, 97, 108, 115, 101]) = true := by rw [h2]; rfl
    have hR := Lib.hid (show guessR s.data.toList = some ⟨1, 0, [], []⟩ by rw [← ByteArray.toList_eq, h2]; rfl)
    clear h1 h2
    replace hO2 := Lib.hid (show Own ((w.alloc (.cells #[.int .i64 0, .int .i64 0, .string ⟨#[]⟩, .slice none 0 0] 24)).alloc (.cells #[.int .i64 1, .int .i64 0, .string ⟨#[]⟩, .slice none 0 0] 24)) w.heap.size #[.int .i64 0, .int .i64 0, .string ⟨#[]⟩, .slice none 0 0] 24 from (Own.new w _ _).alloc _)
    replace hO4 := Lib.hid (show Own ((w.alloc (.cells #[.int .i64 0, .int .i64 0, .string ⟨#[]⟩, .slice none 0 0] 24)).alloc (.cells #[.int .i64 1, .int .i64 0, .string ⟨#[]⟩, .slice none 0 0] 24)) (w.heap.size + 1) #[.int .i64 1, .int .i64 0, .string ⟨#[]⟩, .slice none 0 0] 24 from Own.new' (by simp))
    replace hB := Lib.hid (show Below w.heap.size w ((w.alloc (.cells #[.int .i64 0, .int .i64 0, .string ⟨#[]⟩, .slice none 0 0] 24)).alloc (.cells #[.int .i64 1, .int .i64 0, .string ⟨#[]⟩, .slice none 0 0] 24)) from ((Below.refl _ _).alloc (Nat.le_refl _) _).alloc (by simp) _)
    have hok := Lib.hid (show VOk ((w.alloc (.cells #[.int .i64 0, .int .i64 0, .string ⟨#[]⟩, .slice none 0 0] 24)).alloc (.cells #[.int .i64 1, .int .i64 0, .string ⟨#[]⟩, .slice none 0 0] 24)) ⟨1, 0, [], []⟩ ⟨#[]⟩ none [] from ⟨rfl, Or.inl rfl, rfl⟩)
    have hlf := Lib.hid (show LFrom (w.heap.size + 1 + 1) none from fun a e => by cases e)
    go_wp2_with fail
    refine (check_ref ⟨1, 0, [], []⟩ ⟨#[]⟩ none 0 [] _ hok.out (by exact Nat.zero_le _) (hT.out.below hB.out)).mono ?_
    rintro e w9 ⟨rfl, hb9⟩
    have hO29 := Lib.hid (hO2.out.below hb9 hO2.out.lt)
    have hO49 := Lib.hid (hO4.out.below hb9 hO4.out.lt)
    have hok9 := Lib.hid (hok.out.below hb9)
    have hB9 := Lib.hid (hB.out.trans (hb9.mono hB.out.size))
    clear hb9 hO2 hO4 hB hok
    obtain ⟨c0, c1, c2, c3, f0, f1, f2, f3⟩ := own4 hO29.out
    obtain ⟨d0, d1, d2, d3, g0, g1, g2, g3⟩ := own4 hO49.out
    rcases parseR_ways hR.out with ⟨cc, hcc, hq, hP⟩ | ⟨hcc, hc0, hP⟩
    · rw [hcc]
      clear hcc
      go_wp2
      refine bodyPost_ret (v := .tuple #[.agg #[.int .i64 0, .int .i64 0, .string ⟨#[]⟩, .slice none 0 0], .int .i64 1]) (by simp [results, Tryz.results21, go_sem, c0, c1, c2, c3]) rfl ?_
      rw [hP.out]
      exact ⟨rfl, (((hB9.out.setCell (by simp) _).setCell (by simp) _).setCell (by simp) _).setCell (by simp) _⟩
    · rw [hcc]
      clear hcc
      go_wp2
      refine bodyPost_ret (v := .tuple #[.agg #[.int .i64 1, .int .i64 0, .string ⟨#[]⟩, .slice none 0 0], .int .i64 0]) (by simp [results, Tryz.results21, go_sem, c0, c1, c2, c3]) rfl ?_
      rw [hP.out]
      exact ⟨⟨#[]⟩, none, 0, [], rfl, (((hok9.out.set (hlf.out.le (by omega)) _ _).set (hlf.out.le (by omega)) _ _).set (hlf.out.le (by omega)) _ _).set (hlf.out.le (by omega)) _ _, list_max hc0.out hok9.out.list, by exact Nat.zero_le _, hlf.out.le (by omega), (((hB9.out.setCell (by simp) _).setCell (by simp) _).setCell (by simp) _).setCell (by simp) _⟩
  have qh2 : (s.toList == [102, 97, 108, 115, 101]) = false := by simp [h2]
  have hV0 := Lib.hid (guessR_rest (s := s.data.toList) (by rw [← ByteArray.toList_eq]; exact h1) (by rw [← ByteArray.toList_eq]; exact h2))
  clear h1 h2
  by_cases h0 : 0 < s.size
  case neg =>
    have hz : s.size = 0 := by omega
    have hV1 := Lib.hid (show guessR s.data.toList = if (parseS s.data.toList).2 = 0 then some ⟨2, (parseS s.data.toList).1, [], []⟩ else some ⟨4, 0, s.data.toList, []⟩ by
      have e : s.data.toList = [] := List.eq_nil_of_length_eq_zero (by simpa using hz)
      rw [hV0.out, e]
      rfl)
    clear hz hV0
    go_wp2_with fail
    refine (parse_ref s _ (by unfold maxLen; omega)).mono ?_
    rintro e w2 ⟨rfl, rfl⟩
    rw [show parseV s.data.toList = .tuple #[.int .i64 (parseS s.data.toList).1, .int .i64 (parseS s.data.toList).2] from rfl]
    by_cases hp : (parseS s.data.toList).2 = 0
    · have hR := Lib.hid (hV1.out.trans (if_pos hp))
      rw [hp]
      clear hp hV1
      obtain ⟨n, hn⟩ : ∃ n, Hid (n = (parseS s.data.toList).1) := ⟨_, rfl⟩
      rw [← hn.out] at hR ⊢
      replace hO2 := Lib.hid (show Own ((w.alloc (.cells #[.int .i64 0, .int .i64 0, .string ⟨#[]⟩, .slice none 0 0] 24)).alloc (.cells #[.int .i64 2, .int .i64 n, .string ⟨#[]⟩, .slice none 0 0] 24)) w.heap.size #[.int .i64 0, .int .i64 0, .string ⟨#[]⟩, .slice none 0 0] 24 from (Own.new w _ _).alloc _)
      replace hO4 := Lib.hid (show Own ((w.alloc (.cells #[.int .i64 0, .int .i64 0, .string ⟨#[]⟩, .slice none 0 0] 24)).alloc (.cells #[.int .i64 2, .int .i64 n, .string ⟨#[]⟩, .slice none 0 0] 24)) (w.heap.size + 1) #[.int .i64 2, .int .i64 n, .string ⟨#[]⟩, .slice none 0 0] 24 from Own.new' (by simp))
      replace hB := Lib.hid (show Below w.heap.size w ((w.alloc (.cells #[.int .i64 0, .int .i64 0, .string ⟨#[]⟩, .slice none 0 0] 24)).alloc (.cells #[.int .i64 2, .int .i64 n, .string ⟨#[]⟩, .slice none 0 0] 24)) from ((Below.refl _ _).alloc (Nat.le_refl _) _).alloc (by simp) _)
      have hok := Lib.hid (show VOk ((w.alloc (.cells #[.int .i64 0, .int .i64 0, .string ⟨#[]⟩, .slice none 0 0] 24)).alloc (.cells #[.int .i64 2, .int .i64 n, .string ⟨#[]⟩, .slice none 0 0] 24)) ⟨2, n, [], []⟩ ⟨#[]⟩ none [] from ⟨rfl, Or.inl rfl, rfl⟩)
      have hlf := Lib.hid (show LFrom (w.heap.size + 1 + 1) none from fun a e => by cases e)
      go_wp2_with fail
      refine (check_ref ⟨2, n, [], []⟩ ⟨#[]⟩ none 0 [] _ hok.out (by exact Nat.zero_le _) (hT.out.below hB.out)).mono ?_
      rintro e w9 ⟨rfl, hb9⟩
      have hO29 := Lib.hid (hO2.out.below hb9 hO2.out.lt)
      have hO49 := Lib.hid (hO4.out.below hb9 hO4.out.lt)
      have hok9 := Lib.hid (hok.out.below hb9)
      have hB9 := Lib.hid (hB.out.trans (hb9.mono hB.out.size))
      clear hb9 hO2 hO4 hB hok
      obtain ⟨c0, c1, c2, c3, f0, f1, f2, f3⟩ := own4 hO29.out
      obtain ⟨d0, d1, d2, d3, g0, g1, g2, g3⟩ := own4 hO49.out
      rcases parseR_ways hR.out with ⟨cc, hcc, hq, hP⟩ | ⟨hcc, hc0, hP⟩
      · rw [hcc]
        clear hcc
        go_wp2
        refine bodyPost_ret (v := .tuple #[.agg #[.int .i64 0, .int .i64 0, .string ⟨#[]⟩, .slice none 0 0], .int .i64 1]) (by simp [results, Tryz.results21, go_sem, c0, c1, c2, c3]) rfl ?_
        rw [hP.out]
        exact ⟨rfl, (((hB9.out.setCell (by simp) _).setCell (by simp) _).setCell (by simp) _).setCell (by simp) _⟩
      · rw [hcc]
        clear hcc
        go_wp2
        refine bodyPost_ret (v := .tuple #[.agg #[.int .i64 2, .int .i64 n, .string ⟨#[]⟩, .slice none 0 0], .int .i64 0]) (by simp [results, Tryz.results21, go_sem, c0, c1, c2, c3]) rfl ?_
        rw [hP.out]
        exact ⟨⟨#[]⟩, none, 0, [], rfl, (((hok9.out.set (hlf.out.le (by omega)) _ _).set (hlf.out.le (by omega)) _ _).set (hlf.out.le (by omega)) _ _).set (hlf.out.le (by omega)) _ _, list_max hc0.out hok9.out.list, by exact Nat.zero_le _, hlf.out.le (by omega), (((hB9.out.setCell (by simp) _).setCell (by simp) _).setCell (by simp) _).setCell (by simp) _⟩
    · have hR := Lib.hid (hV1.out.trans (if_neg hp))
      have q9 : ((parseS s.data.toList).2 != 0) = true := by simp [hp]
      clear hp hV1
      generalize (parseS s.data.toList).1 = n at *
      generalize (parseS s.data.toList).2 = m at q9 ⊢
      replace hO2 := Lib.hid (show Own ((w.alloc (.cells #[.int .i64 0, .int .i64 0, .string ⟨#[]⟩, .slice none 0 0] 24)).alloc (.cells #[.int .i64 4, .int .i64 0, .string s, .slice none 0 0] 24)) w.heap.size #[.int .i64 0, .int .i64 0, .string ⟨#[]⟩, .slice none 0 0] 24 from (Own.new w _ _).alloc _)
      replace hO4 := Lib.hid (show Own ((w.alloc (.cells #[.int .i64 0, .int .i64 0, .string ⟨#[]⟩, .slice none 0 0] 24)).alloc (.cells #[.int .i64 4, .int .i64 0, .string s, .slice none 0 0] 24)) (w.heap.size + 1) #[.int .i64 4, .int .i64 0, .string s, .slice none 0 0] 24 from Own.new' (by simp))
      replace hB := Lib.hid (show Below w.heap.size w ((w.alloc (.cells #[.int .i64 0, .int .i64 0, .string ⟨#[]⟩, .slice none 0 0] 24)).alloc (.cells #[.int .i64 4, .int .i64 0, .string s, .slice none 0 0] 24)) from ((Below.refl _ _).alloc (Nat.le_refl _) _).alloc (by simp) _)
      have hok := Lib.hid (show VOk ((w.alloc (.cells #[.int .i64 0, .int .i64 0, .string ⟨#[]⟩, .slice none 0 0] 24)).alloc (.cells #[.int .i64 4, .int .i64 0, .string s, .slice none 0 0] 24)) ⟨4, 0, s.data.toList, []⟩ s none [] from ⟨rfl, Or.inl rfl, rfl⟩)
      have hlf := Lib.hid (show LFrom (w.heap.size + 1 + 1) none from fun a e => by cases e)
      go_wp2_with fail
      refine (check_ref ⟨4, 0, s.data.toList, []⟩ s none 0 [] _ hok.out (by omega) (hT.out.below hB.out)).mono ?_
      rintro e w9 ⟨rfl, hb9⟩
      have hO29 := Lib.hid (hO2.out.below hb9 hO2.out.lt)
      have hO49 := Lib.hid (hO4.out.below hb9 hO4.out.lt)
      have hok9 := Lib.hid (hok.out.below hb9)
      have hB9 := Lib.hid (hB.out.trans (hb9.mono hB.out.size))
      clear hb9 hO2 hO4 hB hok
      obtain ⟨c0, c1, c2, c3, f0, f1, f2, f3⟩ := own4 hO29.out
      obtain ⟨d0, d1, d2, d3, g0, g1, g2, g3⟩ := own4 hO49.out
      rcases parseR_ways hR.out with ⟨cc, hcc, hq, hP⟩ | ⟨hcc, hc0, hP⟩
      · rw [hcc]
        clear hcc
        go_wp2
        refine bodyPost_ret (v := .tuple #[.agg #[.int .i64 0, .int .i64 0, .string ⟨#[]⟩, .slice none 0 0], .int .i64 1]) (by simp [results, Tryz.results21, go_sem, c0, c1, c2, c3]) rfl ?_
        rw [hP.out]
        exact ⟨rfl, (((hB9.out.setCell (by simp) _).setCell (by simp) _).setCell (by simp) _).setCell (by simp) _⟩
      · rw [hcc]
        clear hcc
        go_wp2
        refine bodyPost_ret (v := .tuple #[.agg #[.int .i64 4, .int .i64 0, .string s, .slice none 0 0], .int .i64 0]) (by simp [results, Tryz.results21, go_sem, c0, c1, c2, c3]) rfl ?_
        rw [hP.out]
        exact ⟨s, none, 0, [], rfl, (((hok9.out.set (hlf.out.le (by omega)) _ _).set (hlf.out.le (by omega)) _ _).set (hlf.out.le (by omega)) _ _).set (hlf.out.le (by omega)) _ _, list_max hc0.out hok9.out.list, by omega, hlf.out.le (by omega), (((hB9.out.setCell (by simp) _).setCell (by simp) _).setCell (by simp) _).setCell (by simp) _⟩
  have hb0 := Lib.hid (head_byte h0)
  by_cases h34 : s[0].toNat = 34
  · have hV1 := Lib.hid (show guessR s.data.toList = (match uqS s.data.toList with | none => none | some t => some ⟨3, 0, t, []⟩) by
      rw [hV0.out, if_pos (by rw [hb0.out]; congr 1; exact UInt8.toNat_inj.1 h34)])
    clear hV0
    go_wp2_with fail
    refine (unquote_ref s _ (by omega) (hT.out.below hB.out).runes).mono ?_
    rintro e w2 ⟨rfl, hb2⟩
    have hO22 := Lib.hid (hO2.out.below hb2 hO2.out.lt)
    have hO42 := Lib.hid (hO4.out.below hb2 hO4.out.lt)
    have hB2 := Lib.hid (hB.out.trans (hb2.mono hB.out.size))
    clear hb2 hO2 hO4 hB
    obtain ⟨c0, c1, c2, c3, f0, f1, f2, f3⟩ := own4 hO22.out
    obtain ⟨d0, d1, d2, d3, g0, g1, g2, g3⟩ := own4 hO42.out
    rcases uq_ways s.data.toList with ⟨q, hq0, hu, hu2⟩ | ⟨b, hu, hu2⟩
    · rw [hu]
      have hP := Lib.hid (parseR_none (show guessR s.data.toList = none by rw [hV1.out, hu2]))
      clear hu hu2 hV1
      go_wp2
      refine bodyPost_ret (v := .tuple #[.agg #[.int .i64 0, .int .i64 0, .string ⟨#[]⟩, .slice none 0 0], .int .i64 1]) (by simp [results, Tryz.results21, go_sem, c0, c1, c2, c3]) rfl ?_
      rw [hP.out]
      exact ⟨rfl, (((hB2.out.setCell (by simp) _).setCell (by simp) _).setCell (by simp) _).setCell (by simp) _⟩
    · rw [hu]
      have hbl := uqS_len hu2
      have hR0 := Lib.hid (show guessR s.data.toList = some ⟨3, 0, b, []⟩ by rw [hV1.out, hu2])
      clear hu hu2 hV1
      obtain ⟨t, ht⟩ : ∃ t : ByteArray, Hid (t = ⟨b.toArray⟩) := ⟨_, rfl⟩
      have htz : t.size ≤ s.size := by rw [ht.out]; show b.toArray.size ≤ _; simpa using hbl
      rw [← ht.out]
      have hR := Lib.hid (show guessR s.data.toList = some ⟨3, 0, t.data.toList, []⟩ by rw [hR0.out, ht.out])
      clear hbl hR0
      have hO2 := Lib.hid (show Own ((((w2.setCell ⟨w.heap.size + 1, 0, none⟩ (.int .i64 3)).setCell ⟨w.heap.size + 1, 1, none⟩ (.int .i64 0)).setCell ⟨w.heap.size + 1, 2, none⟩ (.string t)).setCell ⟨w.heap.size + 1, 3, none⟩ (.slice none 0 0)) w.heap.size #[.int .i64 0, .int .i64 0, .string ⟨#[]⟩, .slice none 0 0] 24 from (((hO22.out.setOther (by simp) _).setOther (by simp) _).setOther (by simp) _).setOther (by simp) _)
      have hO4 := Lib.hid (show Own ((((w2.setCell ⟨w.heap.size + 1, 0, none⟩ (.int .i64 3)).setCell ⟨w.heap.size + 1, 1, none⟩ (.int .i64 0)).setCell ⟨w.heap.size + 1, 2, none⟩ (.string t)).setCell ⟨w.heap.size + 1, 3, none⟩ (.slice none 0 0)) (w.heap.size + 1) #[.int .i64 3, .int .i64 0, .string t, .slice none 0 0] 24 from (((hO42.out.set 0 _).set 1 _).set 2 _).set 3 _)
      have hB := Lib.hid (show Below w.heap.size w ((((w2.setCell ⟨w.heap.size + 1, 0, none⟩ (.int .i64 3)).setCell ⟨w.heap.size + 1, 1, none⟩ (.int .i64 0)).setCell ⟨w.heap.size + 1, 2, none⟩ (.string t)).setCell ⟨w.heap.size + 1, 3, none⟩ (.slice none 0 0)) from (((hB2.out.setCell (by simp) _).setCell (by simp) _).setCell (by simp) _).setCell (by simp) _)
      have hok := Lib.hid (show VOk ((((w2.setCell ⟨w.heap.size + 1, 0, none⟩ (.int .i64 3)).setCell ⟨w.heap.size + 1, 1, none⟩ (.int .i64 0)).setCell ⟨w.heap.size + 1, 2, none⟩ (.string t)).setCell ⟨w.heap.size + 1, 3, none⟩ (.slice none 0 0)) ⟨3, 0, t.data.toList, []⟩ t none [] from ⟨rfl, Or.inl rfl, rfl⟩)
      have hlf := Lib.hid (show LFrom (w.heap.size + 1 + 1) none from fun a e => by cases e)
      clear hO22 hO42 hB2
      go_wp2_with fail
      clear c0 c1 c2 c3 f0 f1 f2 f3 d0 d1 d2 d3 g0 g1 g2 g3
      refine (check_ref ⟨3, 0, t.data.toList, []⟩ t none 0 [] _ hok.out (by omega) (hT.out.below hB.out)).mono ?_
      rintro e w9 ⟨rfl, hb9⟩
      have hO29 := Lib.hid (hO2.out.below hb9 hO2.out.lt)
      have hO49 := Lib.hid (hO4.out.below hb9 hO4.out.lt)
      have hok9 := Lib.hid (hok.out.below hb9)
      have hB9 := Lib.hid (hB.out.trans (hb9.mono hB.out.size))
      clear hb9 hO2 hO4 hB hok
      obtain ⟨c0, c1, c2, c3, f0, f1, f2, f3⟩ := own4 hO29.out
      obtain ⟨d0, d1, d2, d3, g0, g1, g2, g3⟩ := own4 hO49.out
      rcases parseR_ways hR.out with ⟨cc, hcc, hq, hP⟩ | ⟨hcc, hc0, hP⟩
      · rw [hcc]
        clear hcc
        go_wp2
        refine bodyPost_ret (v := .tuple #[.agg #[.int .i64 0, .int .i64 0, .string ⟨#[]⟩, .slice none 0 0], .int .i64 1]) (by simp [results, Tryz.results21, go_sem, c0, c1, c2, c3]) rfl ?_
        rw [hP.out]
        exact ⟨rfl, (((hB9.out.setCell (by simp) _).setCell (by simp) _).setCell (by simp) _).setCell (by simp) _⟩
      · rw [hcc]
        clear hcc
        go_wp2
        refine bodyPost_ret (v := .tuple #[.agg #[.int .i64 3, .int .i64 0, .string t, .slice none 0 0], .int .i64 0]) (by simp [results, Tryz.results21, go_sem, c0, c1, c2, c3]) rfl ?_
        rw [hP.out]
        exact ⟨t, none, 0, [], rfl, (((hok9.out.set (hlf.out.le (by omega)) _ _).set (hlf.out.le (by omega)) _ _).set (hlf.out.le (by omega)) _ _).set (hlf.out.le (by omega)) _ _, list_max hc0.out hok9.out.list, by omega, hlf.out.le (by omega), (((hB9.out.setCell (by simp) _).setCell (by simp) _).setCell (by simp) _).setCell (by simp) _⟩
  have q34 : ((s[0].toNat : Int) == 34) = false := by simp; omega
  by_cases h91 : s[0].toNat = 91 ∧ 1 < s.size
  · obtain ⟨h91, hl1⟩ := h91
    have hV1 := Lib.hid (show guessR s.data.toList = (match elemS s.size (s.data.toList.drop 1) [] with | none => none | some l => some ⟨5, 0, [], l⟩) by
      rw [hV0.out, if_neg (by rw [hb0.out]; intro e; injection e with e; rw [e] at h34; exact h34 rfl), if_pos ⟨by rw [hb0.out]; congr 1; exact UInt8.toNat_inj.1 h91, by simpa using hl1⟩]
      simp)
    clear hV0 h34
    go_wp2_with fail
    refine (elements_ref s _ hl1 hs (hT.out.below hB.out)).mono ?_
    intro e w2 hE
    cases hx : elemS s.size (s.data.toList.drop 1) [] with
    | none =>
      rw [hx] at hE
      obtain ⟨rfl, hb2⟩ := hE
      have hP := Lib.hid (parseR_none (show guessR s.data.toList = none by rw [hV1.out, hx]))
      have hO22 := Lib.hid (hO2.out.below hb2 hO2.out.lt)
      have hB2 := Lib.hid (hB.out.trans (hb2.mono hB.out.size))
      clear hb2 hO2 hO4 hB hx hV1
      obtain ⟨c0, c1, c2, c3, f0, f1, f2, f3⟩ := own4 hO22.out
      go_wp2
      refine bodyPost_ret (v := .tuple #[.agg #[.int .i64 0, .int .i64 0, .string ⟨#[]⟩, .slice none 0 0], .int .i64 1]) (by simp [results, Tryz.results21, go_sem, c0, c1, c2, c3]) rfl ?_
      rw [hP.out]
      exact ⟨rfl, (((hB2.out.setCell (by simp) _).setCell (by simp) _).setCell (by simp) _).setCell (by simp) _⟩
    | some L =>
      rw [hx] at hE
      obtain ⟨la, lc, ls, rfl, hlin, hlL, hll, hlf0, hb2⟩ := hE
      have hR := Lib.hid (show guessR s.data.toList = some ⟨5, 0, [], lsL ls⟩ by rw [hV1.out, hx, hlL])
      have hO22 := Lib.hid (hO2.out.below hb2 hO2.out.lt)
      have hO42 := Lib.hid (hO4.out.below hb2 hO4.out.lt)
      have hB2 := Lib.hid (hB.out.trans (hb2.mono hB.out.size))
      have hlf := Lib.hid (show LFrom (w.heap.size + 1 + 1) la from by simpa using hlf0)
      have hok2 := Lib.hid (show VOk w2 ⟨5, 0, [], lsL ls⟩ ⟨#[]⟩ la ls from ⟨rfl, hlin, rfl⟩)
      clear hb2 hO2 hO4 hB hx hV1 hlin hlL hlf0
      obtain ⟨c0, c1, c2, c3, f0, f1, f2, f3⟩ := own4 hO22.out
      obtain ⟨d0, d1, d2, d3, g0, g1, g2, g3⟩ := own4 hO42.out
      have hO2 := Lib.hid (show Own ((((w2.setCell ⟨w.heap.size + 1, 0, none⟩ (.int .i64 5)).setCell ⟨w.heap.size + 1, 1, none⟩ (.int .i64 0)).setCell ⟨w.heap.size + 1, 2, none⟩ (.string ⟨#[]⟩)).setCell ⟨w.heap.size + 1, 3, none⟩ (.slice la ls.length lc)) w.heap.size #[.int .i64 0, .int .i64 0, .string ⟨#[]⟩, .slice none 0 0] 24 from (((hO22.out.setOther (by simp) _).setOther (by simp) _).setOther (by simp) _).setOther (by simp) _)
      have hO4 := Lib.hid (show Own ((((w2.setCell ⟨w.heap.size + 1, 0, none⟩ (.int .i64 5)).setCell ⟨w.heap.size + 1, 1, none⟩ (.int .i64 0)).setCell ⟨w.heap.size + 1, 2, none⟩ (.string ⟨#[]⟩)).setCell ⟨w.heap.size + 1, 3, none⟩ (.slice la ls.length lc)) (w.heap.size + 1) #[.int .i64 5, .int .i64 0, .string ⟨#[]⟩, .slice la ls.length lc] 24 from (((hO42.out.set 0 _).set 1 _).set 2 _).set 3 _)
      have hB := Lib.hid (show Below w.heap.size w ((((w2.setCell ⟨w.heap.size + 1, 0, none⟩ (.int .i64 5)).setCell ⟨w.heap.size + 1, 1, none⟩ (.int .i64 0)).setCell ⟨w.heap.size + 1, 2, none⟩ (.string ⟨#[]⟩)).setCell ⟨w.heap.size + 1, 3, none⟩ (.slice la ls.length lc)) from (((hB2.out.setCell (by simp) _).setCell (by simp) _).setCell (by simp) _).setCell (by simp) _)
      have hok := Lib.hid (show VOk ((((w2.setCell ⟨w.heap.size + 1, 0, none⟩ (.int .i64 5)).setCell ⟨w.heap.size + 1, 1, none⟩ (.int .i64 0)).setCell ⟨w.heap.size + 1, 2, none⟩ (.string ⟨#[]⟩)).setCell ⟨w.heap.size + 1, 3, none⟩ (.slice la ls.length lc)) ⟨5, 0, [], lsL ls⟩ ⟨#[]⟩ la ls from (((hok2.out.set hlf.out _ _).set hlf.out _ _).set hlf.out _ _).set hlf.out _ _)
      clear hO22 hO42 hB2 hok2
      go_wp2_with fail
      clear c0 c1 c2 c3 f0 f1 f2 f3 d0 d1 d2 d3 g0 g1 g2 g3
      refine (check_ref ⟨5, 0, [], lsL ls⟩ ⟨#[]⟩ la lc ls _ hok.out (by exact Nat.zero_le _) (hT.out.below hB.out)).mono ?_
      rintro e w9 ⟨rfl, hb9⟩
      have hO29 := Lib.hid (hO2.out.below hb9 hO2.out.lt)
      have hO49 := Lib.hid (hO4.out.below hb9 hO4.out.lt)
      have hok9 := Lib.hid (hok.out.below hb9)
      have hB9 := Lib.hid (hB.out.trans (hb9.mono hB.out.size))
      clear hb9 hO2 hO4 hB hok
      obtain ⟨c0, c1, c2, c3, f0, f1, f2, f3⟩ := own4 hO29.out
      obtain ⟨d0, d1, d2, d3, g0, g1, g2, g3⟩ := own4 hO49.out
      rcases parseR_ways hR.out with ⟨cc, hcc, hq, hP⟩ | ⟨hcc, hc0, hP⟩
      · rw [hcc]
        clear hcc
        go_wp2
        refine bodyPost_ret (v := .tuple #[.agg #[.int .i64 0, .int .i64 0, .string ⟨#[]⟩, .slice none 0 0], .int .i64 1]) (by simp [results, Tryz.results21, go_sem, c0, c1, c2, c3]) rfl ?_
        rw [hP.out]
        exact ⟨rfl, (((hB9.out.setCell (by simp) _).setCell (by simp) _).setCell (by simp) _).setCell (by simp) _⟩
      · rw [hcc]
        clear hcc
        go_wp2
        refine bodyPost_ret (v := .tuple #[.agg #[.int .i64 5, .int .i64 0, .string ⟨#[]⟩, .slice la ls.length lc], .int .i64 0]) (by simp [results, Tryz.results21, go_sem, c0, c1, c2, c3]) rfl ?_
        rw [hP.out]
        exact ⟨⟨#[]⟩, la, lc, ls, rfl, (((hok9.out.set (hlf.out.le (by omega)) _ _).set (hlf.out.le (by omega)) _ _).set (hlf.out.le (by omega)) _ _).set (hlf.out.le (by omega)) _ _, list_max hc0.out hok9.out.list, by exact Nat.zero_le _, hlf.out.le (by omega), (((hB9.out.setCell (by simp) _).setCell (by simp) _).setCell (by simp) _).setCell (by simp) _⟩
  have hV1 := Lib.hid (show guessR s.data.toList = if (parseS s.data.toList).2 = 0 then some ⟨2, (parseS s.data.toList).1, [], []⟩ else some ⟨4, 0, s.data.toList, []⟩ by
    rw [hV0.out, if_neg (by rw [hb0.out]; intro e; injection e with e; rw [e] at h34; exact h34 rfl), if_neg (by
      rintro ⟨e1, e2⟩
      refine h91 ⟨?_, by simpa using e2⟩
      rw [hb0.out] at e1
      injection e1 with e1
      rw [e1]; rfl)])
  have hw91 : ((s[0].toNat : Int) == 91) = false ∨ (((s[0].toNat : Int) == 91) = true ∧ decide (1 < s.size) = false) := by
    by_cases h1 : s[0].toNat = 91
    · exact Or.inr ⟨by simp [h1], by have := fun h => h91 ⟨h1, h⟩; simp; omega⟩
    · exact Or.inl (by simp; omega)
  clear hV0 h34 h91 hb0
  by_cases hl1 : 1 < s.size
  · have q91 : ((s[0].toNat : Int) == 91) = false := by
      rcases hw91 with h | ⟨-, h⟩
      · exact h
      · simp at h; omega
    clear hw91
    go_wp2_with fail
    refine (parse_ref s _ (by unfold maxLen; omega)).mono ?_
    rintro e w2 ⟨rfl, rfl⟩
    rw [show parseV s.data.toList = .tuple #[.int .i64 (parseS s.data.toList).1, .int .i64 (parseS s.data.toList).2] from rfl]
    by_cases hp : (parseS s.data.toList).2 = 0
    · have hR := Lib.hid (hV1.out.trans (if_pos hp))
      rw [hp]
      clear hp hV1
      obtain ⟨n, hn⟩ : ∃ n, Hid (n = (parseS s.data.toList).1) := ⟨_, rfl⟩
      rw [← hn.out] at hR ⊢
      replace hO2 := Lib.hid (show Own ((w.alloc (.cells #[.int .i64 0, .int .i64 0, .string ⟨#[]⟩, .slice none 0 0] 24)).alloc (.cells #[.int .i64 2, .int .i64 n, .string ⟨#[]⟩, .slice none 0 0] 24)) w.heap.size #[.int .i64 0, .int .i64 0, .string ⟨#[]⟩, .slice none 0 0] 24 from (Own.new w _ _).alloc _)
      replace hO4 := Lib.hid (show Own ((w.alloc (.cells #[.int .i64 0, .int .i64 0, .string ⟨#[]⟩, .slice none 0 0] 24)).alloc (.cells #[.int .i64 2, .int .i64 n, .string ⟨#[]⟩, .slice none 0 0] 24)) (w.heap.size + 1) #[.int .i64 2, .int .i64 n, .string ⟨#[]⟩, .slice none 0 0] 24 from Own.new' (by simp))
      replace hB := Lib.hid (show Below w.heap.size w ((w.alloc (.cells #[.int .i64 0, .int .i64 0, .string ⟨#[]⟩, .slice none 0 0] 24)).alloc (.cells #[.int .i64 2, .int .i64 n, .string ⟨#[]⟩, .slice none 0 0] 24)) from ((Below.refl _ _).alloc (Nat.le_refl _) _).alloc (by simp) _)
      have hok := Lib.hid (show VOk ((w.alloc (.cells #[.int .i64 0, .int .i64 0, .string ⟨#[]⟩, .slice none 0 0] 24)).alloc (.cells #[.int .i64 2, .int .i64 n, .string ⟨#[]⟩, .slice none 0 0] 24)) ⟨2, n, [], []⟩ ⟨#[]⟩ none [] from ⟨rfl, Or.inl rfl, rfl⟩)
      have hlf := Lib.hid (show LFrom (w.heap.size + 1 + 1) none from fun a e => by cases e)
      go_wp2_with fail
      refine (check_ref ⟨2, n, [], []⟩ ⟨#[]⟩ none 0 [] _ hok.out (by exact Nat.zero_le _) (hT.out.below hB.out)).mono ?_
      rintro e w9 ⟨rfl, hb9⟩
      have hO29 := Lib.hid (hO2.out.below hb9 hO2.out.lt)
      have hO49 := Lib.hid (hO4.out.below hb9 hO4.out.lt)
      have hok9 := Lib.hid (hok.out.below hb9)
      have hB9 := Lib.hid (hB.out.trans (hb9.mono hB.out.size))
      clear hb9 hO2 hO4 hB hok
      obtain ⟨c0, c1, c2, c3, f0, f1, f2, f3⟩ := own4 hO29.out
      obtain ⟨d0, d1, d2, d3, g0, g1, g2, g3⟩ := own4 hO49.out
      rcases parseR_ways hR.out with ⟨cc, hcc, hq, hP⟩ | ⟨hcc, hc0, hP⟩
      · rw [hcc]
        clear hcc
        go_wp2
        refine bodyPost_ret (v := .tuple #[.agg #[.int .i64 0, .int .i64 0, .string ⟨#[]⟩, .slice none 0 0], .int .i64 1]) (by simp [results, Tryz.results21, go_sem, c0, c1, c2, c3]) rfl ?_
        rw [hP.out]
        exact ⟨rfl, (((hB9.out.setCell (by simp) _).setCell (by simp) _).setCell (by simp) _).setCell (by simp) _⟩
      · rw [hcc]
        clear hcc
        go_wp2
        refine bodyPost_ret (v := .tuple #[.agg #[.int .i64 2, .int .i64 n, .string ⟨#[]⟩, .slice none 0 0], .int .i64 0]) (by simp [results, Tryz.results21, go_sem, c0, c1, c2, c3]) rfl ?_
        rw [hP.out]
        exact ⟨⟨#[]⟩, none, 0, [], rfl, (((hok9.out.set (hlf.out.le (by omega)) _ _).set (hlf.out.le (by omega)) _ _).set (hlf.out.le (by omega)) _ _).set (hlf.out.le (by omega)) _ _, list_max hc0.out hok9.out.list, by exact Nat.zero_le _, hlf.out.le (by omega), (((hB9.out.setCell (by simp) _).setCell (by simp) _).setCell (by simp) _).setCell (by simp) _⟩
    · have hR := Lib.hid (hV1.out.trans (if_neg hp))
      have q9 : ((parseS s.data.toList).2 != 0) = true := by simp [hp]
      clear hp hV1
      generalize (parseS s.data.toList).1 = n at *
      generalize (parseS s.data.toList).2 = m at q9 ⊢
      replace hO2 := Lib.hid (show Own ((w.alloc (.cells #[.int .i64 0, .int .i64 0, .string ⟨#[]⟩, .slice none 0 0] 24)).alloc (.cells #[.int .i64 4, .int .i64 0, .string s, .slice none 0 0] 24)) w.heap.size #[.int .i64 0, .int .i64 0, .string ⟨#[]⟩, .slice none 0 0] 24 from (Own.new w _ _).alloc _)
      replace hO4 := Lib.hid (show Own ((w.alloc (.cells #[.int .i64 0, .int .i64 0, .string ⟨#[]⟩, .slice none 0 0] 24)).alloc (.cells #[.int .i64 4, .int .i64 0, .string s, .slice none 0 0] 24)) (w.heap.size + 1) #[.int .i64 4, .int .i64 0, .string s, .slice none 0 0] 24 from Own.new' (by simp))
      replace hB := Lib.hid (show Below w.heap.size w ((w.alloc (.cells #[.int .i64 0, .int .i64 0, .string ⟨#[]⟩, .slice none 0 0] 24)).alloc (.cells #[.int .i64 4, .int .i64 0, .string s, .slice none 0 0] 24)) from ((Below.refl _ _).alloc (Nat.le_refl _) _).alloc (by simp) _)
      have hok := Lib.hid (show VOk ((w.alloc (.cells #[.int .i64 0, .int .i64 0, .string ⟨#[]⟩, .slice none 0 0] 24)).alloc (.cells #[.int .i64 4, .int .i64 0, .string s, .slice none 0 0] 24)) ⟨4, 0, s.data.toList, []⟩ s none [] from ⟨rfl, Or.inl rfl, rfl⟩)
      have hlf := Lib.hid (show LFrom (w.heap.size + 1 + 1) none from fun a e => by cases e)
      go_wp2_with fail
      refine (check_ref ⟨4, 0, s.data.toList, []⟩ s none 0 [] _ hok.out (by omega) (hT.out.below hB.out)).mono ?_
      rintro e w9 ⟨rfl, hb9⟩
      have hO29 := Lib.hid (hO2.out.below hb9 hO2.out.lt)
      have hO49 := Lib.hid (hO4.out.below hb9 hO4.out.lt)
      have hok9 := Lib.hid (hok.out.below hb9)
      have hB9 := Lib.hid (hB.out.trans (hb9.mono hB.out.size))
      clear hb9 hO2 hO4 hB hok
      obtain ⟨c0, c1, c2, c3, f0, f1, f2, f3⟩ := own4 hO29.out
      obtain ⟨d0, d1, d2, d3, g0, g1, g2, g3⟩ := own4 hO49.out
      rcases parseR_ways hR.out with ⟨cc, hcc, hq, hP⟩ | ⟨hcc, hc0, hP⟩
      · rw [hcc]
        clear hcc
        go_wp2
        refine bodyPost_ret (v := .tuple #[.agg #[.int .i64 0, .int .i64 0, .string ⟨#[]⟩, .slice none 0 0], .int .i64 1]) (by simp [results, Tryz.results21, go_sem, c0, c1, c2, c3]) rfl ?_
        rw [hP.out]
        exact ⟨rfl, (((hB9.out.setCell (by simp) _).setCell (by simp) _).setCell (by simp) _).setCell (by simp) _⟩
      · rw [hcc]
        clear hcc
        go_wp2
        refine bodyPost_ret (v := .tuple #[.agg #[.int .i64 4, .int .i64 0, .string s, .slice none 0 0], .int .i64 0]) (by simp [results, Tryz.results21, go_sem, c0, c1, c2, c3]) rfl ?_
        rw [hP.out]
        exact ⟨s, none, 0, [], rfl, (((hok9.out.set (hlf.out.le (by omega)) _ _).set (hlf.out.le (by omega)) _ _).set (hlf.out.le (by omega)) _ _).set (hlf.out.le (by omega)) _ _, list_max hc0.out hok9.out.list, by omega, hlf.out.le (by omega), (((hB9.out.setCell (by simp) _).setCell (by simp) _).setCell (by simp) _).setCell (by simp) _⟩
  · clear hw91
    go_wp2_with fail
    refine (parse_ref s _ (by unfold maxLen; omega)).mono ?_
    rintro e w2 ⟨rfl, rfl⟩
    rw [show parseV s.data.toList = .tuple #[.int .i64 (parseS s.data.toList).1, .int .i64 (parseS s.data.toList).2] from rfl]
    by_cases hp : (parseS s.data.toList).2 = 0
    · have hR := Lib.hid (hV1.out.trans (if_pos hp))
      rw [hp]
      clear hp hV1
      obtain ⟨n, hn⟩ : ∃ n, Hid (n = (parseS s.data.toList).1) := ⟨_, rfl⟩
      rw [← hn.out] at hR ⊢
      replace hO2 := Lib.hid (show Own ((w.alloc (.cells #[.int .i64 0, .int .i64 0, .string ⟨#[]⟩, .slice none 0 0] 24)).alloc (.cells #[.int .i64 2, .int .i64 n, .string ⟨#[]⟩, .slice none 0 0] 24)) w.heap.size #[.int .i64 0, .int .i64 0, .string ⟨#[]⟩, .slice none 0 0] 24 from (Own.new w _ _).alloc _)
      replace hO4 := Lib.hid (show Own ((w.alloc (.cells #[.int .i64 0, .int .i64 0, .string ⟨#[]⟩, .slice none 0 0] 24)).alloc (.cells #[.int .i64 2, .int .i64 n, .string ⟨#[]⟩, .slice none 0 0] 24)) (w.heap.size + 1) #[.int .i64 2, .int .i64 n, .string ⟨#[]⟩, .slice none 0 0] 24 from Own.new' (by simp))
      replace hB := Lib.hid (show Below w.heap.size w ((w.alloc (.cells #[.int .i64 0, .int .i64 0, .string ⟨#[]⟩, .slice none 0 0] 24)).alloc (.cells #[.int .i64 2, .int .i64 n, .string ⟨#[]⟩, .slice none 0 0] 24)) from ((Below.refl _ _).alloc (Nat.le_refl _) _).alloc (by simp) _)
      have hok := Lib.hid (show VOk ((w.alloc (.cells #[.int .i64 0, .int .i64 0, .string ⟨#[]⟩, .slice none 0 0] 24)).alloc (.cells #[.int .i64 2, .int .i64 n, .string ⟨#[]⟩, .slice none 0 0] 24)) ⟨2, n, [], []⟩ ⟨#[]⟩ none [] from ⟨rfl, Or.inl rfl, rfl⟩)
      have hlf := Lib.hid (show LFrom (w.heap.size + 1 + 1) none from fun a e => by cases e)
      go_wp2_with fail
      refine (check_ref ⟨2, n, [], []⟩ ⟨#[]⟩ none 0 [] _ hok.out (by exact Nat.zero_le _) (hT.out.below hB.out)).mono ?_
      rintro e w9 ⟨rfl, hb9⟩
      have hO29 := Lib.hid (hO2.out.below hb9 hO2.out.lt)
      have hO49 := Lib.hid (hO4.out.below hb9 hO4.out.lt)
      have hok9 := Lib.hid (hok.out.below hb9)
      have hB9 := Lib.hid (hB.out.trans (hb9.mono hB.out.size))
      clear hb9 hO2 hO4 hB hok
      obtain ⟨c0, c1, c2, c3, f0, f1, f2, f3⟩ := own4 hO29.out
      obtain ⟨d0, d1, d2, d3, g0, g1, g2, g3⟩ := own4 hO49.out
      rcases parseR_ways hR.out with ⟨cc, hcc, hq, hP⟩ | ⟨hcc, hc0, hP⟩
      · rw [hcc]
        clear hcc
        go_wp2
        refine bodyPost_ret (v := .tuple #[.agg #[.int .i64 0, .int .i64 0, .string ⟨#[]⟩, .slice none 0 0], .int .i64 1]) (by simp [results, Tryz.results21, go_sem, c0, c1, c2, c3]) rfl ?_
        rw [hP.out]
        exact ⟨rfl, (((hB9.out.setCell (by simp) _).setCell (by simp) _).setCell (by simp) _).setCell (by simp) _⟩
      · rw [hcc]
        clear hcc
        go_wp2
        refine bodyPost_ret (v := .tuple #[.agg #[.int .i64 2, .int .i64 n, .string ⟨#[]⟩, .slice none 0 0], .int .i64 0]) (by simp [results, Tryz.results21, go_sem, c0, c1, c2, c3]) rfl ?_
        rw [hP.out]
        exact ⟨⟨#[]⟩, none, 0, [], rfl, (((hok9.out.set (hlf.out.le (by omega)) _ _).set (hlf.out.le (by omega)) _ _).set (hlf.out.le (by omega)) _ _).set (hlf.out.le (by omega)) _ _, list_max hc0.out hok9.out.list, by exact Nat.zero_le _, hlf.out.le (by omega), (((hB9.out.setCell (by simp) _).setCell (by simp) _).setCell (by simp) _).setCell (by simp) _⟩
    · have hR := Lib.hid (hV1.out.trans (if_neg hp))
      have q9 : ((parseS s.data.toList).2 != 0) = true := by simp [hp]
      clear hp hV1
      generalize (parseS s.data.toList).1 = n at *
      generalize (parseS s.data.toList).2 = m at q9 ⊢
      replace hO2 := Lib.hid (show Own ((w.alloc (.cells #[.int .i64 0, .int .i64 0, .string ⟨#[]⟩, .slice none 0 0] 24)).alloc (.cells #[.int .i64 4, .int .i64 0, .string s, .slice none 0 0] 24)) w.heap.size #[.int .i64 0, .int .i64 0, .string ⟨#[]⟩, .slice none 0 0] 24 from (Own.new w _ _).alloc _)
      replace hO4 := Lib.hid (show Own ((w.alloc (.cells #[.int .i64 0, .int .i64 0, .string ⟨#[]⟩, .slice none 0 0] 24)).alloc (.cells #[.int .i64 4, .int .i64 0, .string s, .slice none 0 0] 24)) (w.heap.size + 1) #[.int .i64 4, .int .i64 0, .string s, .slice none 0 0] 24 from Own.new' (by simp))
      replace hB := Lib.hid (show Below w.heap.size w ((w.alloc (.cells #[.int .i64 0, .int .i64 0, .string ⟨#[]⟩, .slice none 0 0] 24)).alloc (.cells #[.int .i64 4, .int .i64 0, .string s, .slice none 0 0] 24)) from ((Below.refl _ _).alloc (Nat.le_refl _) _).alloc (by simp) _)
      have hok := Lib.hid (show VOk ((w.alloc (.cells #[.int .i64 0, .int .i64 0, .string ⟨#[]⟩, .slice none 0 0] 24)).alloc (.cells #[.int .i64 4, .int .i64 0, .string s, .slice none 0 0] 24)) ⟨4, 0, s.data.toList, []⟩ s none [] from ⟨rfl, Or.inl rfl, rfl⟩)
      have hlf := Lib.hid (show LFrom (w.heap.size + 1 + 1) none from fun a e => by cases e)
      go_wp2_with fail
      refine (check_ref ⟨4, 0, s.data.toList, []⟩ s none 0 [] _ hok.out (by omega) (hT.out.below hB.out)).mono ?_
      rintro e w9 ⟨rfl, hb9⟩
      have hO29 := Lib.hid (hO2.out.below hb9 hO2.out.lt)
      have hO49 := Lib.hid (hO4.out.below hb9 hO4.out.lt)
      have hok9 := Lib.hid (hok.out.below hb9)
      have hB9 := Lib.hid (hB.out.trans (hb9.mono hB.out.size))
      clear hb9 hO2 hO4 hB hok
      obtain ⟨c0, c1, c2, c3, f0, f1, f2, f3⟩ := own4 hO29.out
      obtain ⟨d0, d1, d2, d3, g0, g1, g2, g3⟩ := own4 hO49.out
      rcases parseR_ways hR.out with ⟨cc, hcc, hq, hP⟩ | ⟨hcc, hc0, hP⟩
      · rw [hcc]
        clear hcc
        go_wp2
        refine bodyPost_ret (v := .tuple #[.agg #[.int .i64 0, .int .i64 0, .string ⟨#[]⟩, .slice none 0 0], .int .i64 1]) (by simp [results, Tryz.results21, go_sem, c0, c1, c2, c3]) rfl ?_
        rw [hP.out]
        exact ⟨rfl, (((hB9.out.setCell (by simp) _).setCell (by simp) _).setCell (by simp) _).setCell (by simp) _⟩
      · rw [hcc]
        clear hcc
        go_wp2
        refine bodyPost_ret (v := .tuple #[.agg #[.int .i64 4, .int .i64 0, .string s, .slice none 0 0], .int .i64 0]) (by simp [results, Tryz.results21, go_sem, c0, c1, c2, c3]) rfl ?_
        rw [hP.out]
        exact ⟨s, none, 0, [], rfl, (((hok9.out.set (hlf.out.le (by omega)) _ _).set (hlf.out.le (by omega)) _ _).set (hlf.out.le (by omega)) _ _).set (hlf.out.le (by omega)) _ _, list_max hc0.out hok9.out.list, by omega, hlf.out.le (by omega), (((hB9.out.setCell (by simp) _).setCell (by simp) _).setCell (by simp) _).setCell (by simp) _⟩

end Go.Proofs.YtnghpjijfdpmkaaGreatDoor.value
