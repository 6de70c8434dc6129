/- Reading what was printed: the words of a metric's text are read as the metric, however they are separated. -/
import Derived.Test.YtnghpjijfdpmkaaDoorMetU
import Derived.Test.YtnghpjijfdpmkaaDoorMetG
import Derived.Test.YtnghpjijfdpmkaaDoorMetP
namespace Go.Proofs.YtnghpjijfdpmkaaDoor.metric
open Go.RowKit Go.Proofs.YtnghpjijfdpmkaaDoor Go.Proofs.YtnghpjijfdpmkaaDoor.text

def ba (l : List UInt8) : ByteArray := ⟨l.toArray⟩
theorem ba_data (l : List UInt8) : (ba l).data.toList = l := rfl
theorem parse_num {n : Int} (h0 : -1099511627776 ≤ n) (h1 : n ≤ 1099511627776) : parseS (Lib.itoa n) = (n, 0) := by
  rw [parse_itoa, if_neg (by omega)]
/-- The words of a metric as texts. -/
def wordsB (m : MV) : List ByteArray := (wordsM m).map ba
theorem wordsB_of {m : MV} {L : List ByteArray} (h : (L.map fun x => x.data.toList) = wordsM m) : L = wordsB m := by
  unfold wordsB
  rw [← h, List.map_map]
  have e : (ba ∘ fun x : ByteArray => x.data.toList) = id := by funext x; exact ba_ext rfl
  rw [e, List.map_id]
theorem kind_word {k : Int} (h1 : 1 ≤ k) (h4 : k ≤ 4) : ((kindN (ba (kindW k.toNat)) : Nat) : Int) = k := by
  rcases (show k = 1 ∨ k = 2 ∨ k = 3 ∨ k = 4 by omega) with rfl | rfl | rfl | rfl <;> rfl
theorem num_take (x : ByteArray) (r : List ByteArray) (n : Int) (hx : x = ba (Lib.itoa n)) (h0 : -1099511627776 ≤ n) (h1 : n ≤ 1099511627776) : numV (x :: r, false) = n ∧ numR (x :: r, false) = (r, false) := by
  subst hx
  unfold numV numR takeW restW
  simp only [List.headD_cons, List.tail_cons, List.isEmpty_cons, Bool.or_false]
  rw [ba_data, parse_num h0 h1]
  exact ⟨rfl, by simp⟩
theorem need_take (x : ByteArray) (r : List ByteArray) : needW x (x :: r, false) = (r, false) := by
  unfold needW takeW restW
  simp
theorem rest_take (x : ByteArray) (r : List ByteArray) : takeW (x :: r, false) = x ∧ restW (x :: r, false) = (r, false) := ⟨rfl, by unfold restW; simp⟩
theorem has_yes (x : ByteArray) (r : List ByteArray) : hasB x (x :: r, false) = true ∧ hasR x (x :: r, false) = (r, false) := by
  have h : hasB x (x :: r, false) = true := by unfold hasB; simp
  exact ⟨h, by unfold hasR; rw [if_pos h]; rfl⟩
theorem fin_ok (m : MV) (h : chkM m = 0) (nm bl : ByteArray) (hn : nm.data.toList = m.name) (hb : bl.data.toList = m.below) : finM m.k nm bl m.win m.cap m.least m.before ([], false) = .tuple #[.agg (rowM m.k nm bl m.win m.cap m.least m.before), .int .i64 0] := by
  have hk := (mok h).k
  unfold finM
  rw [if_neg (by simp; omega)]
  have e : mvOf m.k nm bl m.win m.cap m.least m.before = m := by unfold mvOf; rw [hn, hb]
  rw [e, if_pos h]
/-- The words of a metric are read as the metric. -/
theorem parse_words (m : MV) (h : chkM m = 0) : parseR (wordsB m) = .tuple #[.agg (rowM m.k (ba m.name) (ba m.below) m.win m.cap m.least m.before), .int .i64 0] := by
  have hM := mok h
  obtain ⟨hk1, hk4⟩ := hM.k
  obtain ⟨hw1, hw2⟩ := hM.win
  obtain ⟨hc1, hc2⟩ := hM.cap
  obtain ⟨hl1, hl2⟩ := hM.least
  obtain ⟨hb1, hb2⟩ := hM.before
  have hfin := fin_ok m h (ba m.name) (ba m.below) rfl rfl
  -- the end: least and before
  have hbef : ∀ (R : List ByteArray), R = (if m.before ≠ 0 then [beforeW, ba (Lib.itoa m.before)] else []) → rBefore m.k (ba m.name) (ba m.below) m.win m.cap m.least (R, false) = .tuple #[.agg (rowM m.k (ba m.name) (ba m.below) m.win m.cap m.least m.before), .int .i64 0] := by
    intro R hR
    subst hR
    unfold rBefore
    by_cases hz : m.before ≠ 0
    · rw [if_pos hz, (has_yes _ _).2, if_pos (has_yes _ _).1, (num_take _ _ m.before rfl (by omega) (by omega)).1, (num_take _ _ m.before rfl (by omega) (by omega)).2]
      exact hfin
    · have hz0 : m.before = 0 := by omega
      rw [if_neg hz, if_neg (by unfold hasB; simp)]
      rw [hz0] at hfin ⊢
      exact hfin
  have hlst : ∀ (R : List ByteArray), R = (if m.least ≠ -1099511627776 then [leastW, ba (Lib.itoa m.least)] else []) ++ (if m.before ≠ 0 then [beforeW, ba (Lib.itoa m.before)] else []) → rLeast m.k (ba m.name) (ba m.below) m.win m.cap (R, false) = .tuple #[.agg (rowM m.k (ba m.name) (ba m.below) m.win m.cap m.least m.before), .int .i64 0] := by
    intro R hR
    subst hR
    unfold rLeast
    by_cases hz : m.least ≠ -1099511627776
    · rw [if_pos hz]
      simp only [List.cons_append, List.nil_append]
      rw [(has_yes _ _).2, if_pos (has_yes _ _).1, (num_take _ _ m.least rfl (by omega) (by omega)).1, (num_take _ _ m.least rfl (by omega) (by omega)).2]
      exact hbef _ rfl
    · have hz0 : m.least = -1099511627776 := by omega
      rw [if_neg hz, List.nil_append]
      have hno : ¬ hasB leastW ((if m.before ≠ 0 then [beforeW, ba (Lib.itoa m.before)] else []), false) = true := by
        split
        · show ¬ decide (beforeW = leastW) = true; decide
        · unfold hasB; simp
      rw [if_neg hno, ← hz0]
      exact hbef _ rfl
  have hwin : ∀ (R : List ByteArray), R = [withinW, ba (Lib.itoa m.win), capW, ba (Lib.itoa m.cap)] ++ ((if m.least ≠ -1099511627776 then [leastW, ba (Lib.itoa m.least)] else []) ++ (if m.before ≠ 0 then [beforeW, ba (Lib.itoa m.before)] else [])) → rWin m.k (ba m.name) (ba m.below) (R, false) = .tuple #[.agg (rowM m.k (ba m.name) (ba m.below) m.win m.cap m.least m.before), .int .i64 0] := by
    intro R hR
    subst hR
    unfold rWin
    simp only [List.cons_append, List.nil_append]
    rw [need_take, (num_take _ _ m.win rfl (by omega) (by omega)).1, (num_take _ _ m.win rfl (by omega) (by omega)).2, need_take, (num_take _ _ m.cap rfl (by omega) (by omega)).1, (num_take _ _ m.cap rfl (by omega) (by omega)).2]
    exact hlst _ rfl
  unfold wordsB wordsM parseR
  simp only [List.map_append, List.map_cons, List.map_nil, List.cons_append, List.nil_append, List.append_assoc]
  rw [(rest_take _ _).1, (rest_take _ _).2, show ba [111, 102] = ofW from rfl, need_take, (rest_take _ _).1, (rest_take _ _).2, kind_word hk1 hk4]
  unfold rBelow
  have e1 : (if m.least ≠ -1099511627776 then [[108, 101, 97, 115, 116], Lib.itoa m.least] else []).map ba = (if m.least ≠ -1099511627776 then [leastW, ba (Lib.itoa m.least)] else []) := by split <;> rfl
  have e2 : (if m.before ≠ 0 then [[98, 101, 102, 111, 114, 101], Lib.itoa m.before] else []).map ba = (if m.before ≠ 0 then [beforeW, ba (Lib.itoa m.before)] else []) := by split <;> rfl
  rw [e1, e2]
  by_cases h4 : m.k = 4
  · rw [if_pos h4, if_pos h4]
    simp only [List.map_cons, List.map_nil, List.cons_append, List.nil_append]
    rw [show ba [116, 111] = toW from rfl, need_take, (rest_take _ _).1, (rest_take _ _).2]
    exact hwin _ rfl
  · rw [if_neg h4, if_neg h4, List.map_nil, List.nil_append]
    have hb : (⟨#[]⟩ : ByteArray) = ba m.below := by rw [hM.none h4]; rfl
    rw [hb]
    exact hwin _ rfl

/-- Blanks, however many, separate as one does. -/
theorem wordsGo_blanks : ∀ (B r : List UInt8), (∀ c ∈ B, blankB c = true) → wordsGo [] (B ++ r) = wordsGo [] r
  | [], r, _ => rfl
  | c :: B, r, h => by
    have ih := wordsGo_blanks B r (fun d hd => h d (by simp [hd]))
    rw [List.cons_append, wordsGo_blank _ _ _ (h c (by simp)), if_pos rfl]
    exact ih
theorem wordsGo_sep (B r w : List UInt8) (hB : B ≠ []) (h : ∀ c ∈ B, blankB c = true) : wordsGo w (B ++ r) = wordsGo w (32 :: r) := by
  cases B with
  | nil => exact absurd rfl hB
  | cons c B =>
    rw [List.cons_append, wordsGo_blank _ _ _ (h c (by simp)), wordsGo_blank _ _ 32 rfl, wordsGo_blanks B r (fun d hd => h d (by simp [hd]))]
/-- Blanks at the end change nothing. -/
theorem wordsGo_end : ∀ (l w B : List UInt8), (∀ c ∈ B, blankB c = true) → wordsGo w (l ++ B) = wordsGo w l
  | [], w, B, h => by
    rw [List.nil_append]
    cases B with
    | nil => rfl
    | cons c B =>
      rw [wordsGo_blank _ _ _ (h c (by simp)), wordsGo_nil]
      have e : wordsGo [] B = [] := by
        have := wordsGo_blanks B [] (fun d hd => h d (by simp [hd]))
        rw [List.append_nil] at this
        rw [this, wordsGo_nil, if_pos rfl]
      rw [e]
  | c :: l, w, B, h => by
    rw [List.cons_append]
    show (if blankB c = true then _ else _) = (if blankB c = true then _ else _)
    split
    · rw [wordsGo_end l [] B h]
    · exact wordsGo_end l (w ++ [c]) B h
/-- Words without blanks, with a blank between them, are those words. -/
theorem wordsGo_join : ∀ (L : List (List UInt8)), (∀ x ∈ L, x ≠ [] ∧ ∀ c ∈ x, blankB c = false) → wordsGo [] (joinW L) = L
  | [], _ => rfl
  | [x], h => by
    obtain ⟨h1, h2⟩ := h x (by simp)
    have := wordsGo_skip x [] [] h2
    rw [List.append_nil, List.nil_append] at this
    show wordsGo [] x = [x]
    rw [this, wordsGo_nil, if_neg h1]
  | x :: y :: r, h => by
    obtain ⟨h1, h2⟩ := h x (by simp)
    show wordsGo [] (x ++ 32 :: joinW (y :: r)) = _
    rw [wordsGo_skip x [] _ h2, List.nil_append, wordsGo_blank _ _ 32 rfl, if_neg h1, wordsGo_join (y :: r) (fun z hz => h z (by simp [hz]))]

theorem dig_noblank {c : UInt8} (h : digB c = true) : blankB c = false := by
  unfold digB at h
  simp only [Bool.and_eq_true, decide_eq_true_eq] at h
  unfold blankB
  simp
  omega
theorem itoa_noblank (n : Int) : Lib.itoa n ≠ [] ∧ ∀ c ∈ Lib.itoa n, blankB c = false := by
  have hd := dec_digits n.natAbs
  have hne : Lib.decDigits n.natAbs ≠ [] := by
    intro e
    have := Lib.decDigits_length n.natAbs
    rw [e] at this
    have h1 := Lib.nDigits_pos n.natAbs
    simp at this
    omega
  have hall : ∀ c ∈ Lib.decDigits n.natAbs, blankB c = false := fun c hc => dig_noblank (List.all_eq_true.1 hd c hc)
  unfold Lib.itoa
  split
  · refine ⟨by simp, fun c hc => ?_⟩
    rcases List.mem_cons.1 hc with rfl | hc
    · rfl
    · exact hall c hc
  · have e : n.toNat = n.natAbs := by omega
    rw [e]
    exact ⟨hne, hall⟩
theorem wordL_noblank : ∀ (l : List UInt8) (b : Bool), wordL b l = true → ∀ c ∈ l, blankB c = false
  | [], _, _, c, hc => by cases hc
  | a :: r, b, h, c, hc => by
    unfold wordL at h
    simp only [Bool.and_eq_true] at h
    rcases List.mem_cons.1 hc with rfl | hc
    · have h1 := h.1
      unfold okB at h1
      unfold blankB
      cases b <;> simp at h1 ⊢ <;> omega
    · exact wordL_noblank r false h.2 c hc
theorem key_noblank {l : List UInt8} (h : keyS l = true) : l ≠ [] ∧ ∀ c ∈ l, blankB c = false := by
  refine ⟨(key_len h).2, ?_⟩
  unfold keyS wordS at h
  simp only [Bool.and_eq_true] at h
  exact wordL_noblank l true h.1.1.1
theorem kindW_noblank (k : Nat) : kindW k ≠ [] ∧ ∀ c ∈ kindW k, blankB c = false := by
  unfold kindW
  split <;> exact ⟨by decide, by decide⟩
theorem words_noblank {m : MV} (h : chkM m = 0) : ∀ x ∈ wordsM m, x ≠ [] ∧ ∀ c ∈ x, blankB c = false := by
  have hM := mok h
  intro x hx
  unfold wordsM at hx
  simp only [List.mem_append, List.mem_cons, List.not_mem_nil, or_false] at hx
  rcases hx with ((((rfl | rfl | rfl) | hx) | (rfl | rfl | rfl | rfl)) | hx) | hx
  · exact kindW_noblank _
  · exact ⟨by decide, by decide⟩
  · exact key_noblank hM.name
  · split at hx
    · rename_i h4
      simp only [List.mem_cons, List.not_mem_nil, or_false] at hx
      rcases hx with rfl | rfl
      · exact ⟨by decide, by decide⟩
      · exact key_noblank (hM.below h4)
    · cases hx
  · exact ⟨by decide, by decide⟩
  · exact itoa_noblank _
  · exact ⟨by decide, by decide⟩
  · exact itoa_noblank _
  · split at hx
    · simp only [List.mem_cons, List.not_mem_nil, or_false] at hx
      rcases hx with rfl | rfl
      · exact ⟨by decide, by decide⟩
      · exact itoa_noblank _
    · cases hx
  · split at hx
    · simp only [List.mem_cons, List.not_mem_nil, or_false] at hx
      rcases hx with rfl | rfl
      · exact ⟨by decide, by decide⟩
      · exact itoa_noblank _
    · cases hx
/-- A text whose words are those of a valid metric is read as that metric. -/
theorem parse_of_words {m : MV} (h : chkM m = 0) {s : ByteArray} (hs : s.size ≤ 200) (hw : wordsW s.data.toList = wordsM m) : parsePV s = .tuple #[.agg (rowM m.k (ba m.name) (ba m.below) m.win m.cap m.least m.before), .int .i64 0] := by
  unfold parsePV
  rw [if_neg (by omega)]
  have := fields_words s
  rw [hw] at this
  rw [wordsB_of this]
  exact parse_words m h
theorem words_printed {m : MV} (h : chkM m = 0) : wordsW (printM m) = wordsM m := wordsGo_join _ (words_noblank h)

/-- What is made is valid, and its text is short. -/
def mvMade (k win cap least before : Int) (s t : ByteArray) : MV := ⟨k, s.data.toList, t.data.toList, win, cap, least, before⟩
theorem name_key {x : ByteArray} (h : NameV x) : keyS x.data.toList = true ∧ x.data.toList.length ≤ 5 := by
  rcases h with rfl | rfl
  · exact ⟨by kernel_rfl, by decide⟩
  · exact ⟨by kernel_rfl, by decide⟩
theorem made_ok {k win cap least before : Int} {s t : ByteArray} (h : MadeM k win cap least before s t) : chkM (mvMade k win cap least before s t) = 0 := by
  obtain ⟨h1, h2, h3, h4, h5, h6, h7, h8, h9, h10, h11, h12, h13⟩ := h
  unfold chkM mvMade
  have hr : rangeM ⟨k, s.data.toList, t.data.toList, win, cap, least, before⟩ = true := by unfold rangeM; exact decide_eq_true (by simp only; omega)
  simp only at hr ⊢
  rw [if_neg (by omega), if_neg, if_neg (by rw [hr]; decide), if_neg]
  · rintro (⟨ha, hb⟩ | ⟨ha, hb⟩)
    · rw [h13 ha] at hb; exact hb rfl
    · exact hb (h7 ha)
  · rintro (ha | ⟨ha, hb⟩)
    · rw [(name_key h11).1] at ha; cases ha
    · rw [(name_key (h12 ha)).1] at hb; cases hb
theorem made_len {k win cap least before : Int} {s t : ByteArray} (h : MadeM k win cap least before s t) : (printM (mvMade k win cap least before s t)).length ≤ 150 := by
  have hM := mok (made_ok h)
  have h1 := kindW_len (mvMade k win cap least before s t).k.toNat
  have h2 := (name_key h.2.2.2.2.2.2.2.2.2.2.1).2
  have h3 := itoa_14 (n := (mvMade k win cap least before s t).win) (by have := hM.win; omega) (by have := hM.win; omega)
  have h4 := itoa_14 (n := (mvMade k win cap least before s t).cap) (by have := hM.cap; omega) (by have := hM.cap; omega)
  have h5 := itoa_14 hM.least.1 hM.least.2
  have h6 := itoa_14 (n := (mvMade k win cap least before s t).before) (by have := hM.before; omega) (by have := hM.before; omega)
  have h7 : (mvMade k win cap least before s t).below.length ≤ 5 := by
    by_cases hk : k = 4
    · exact (name_key (h.2.2.2.2.2.2.2.2.2.2.2.1 hk)).2
    · rw [hM.none hk]; simp
  have h2' : (mvMade k win cap least before s t).name.length ≤ 5 := h2
  unfold printM wordsM
  split <;> split <;> split <;> simp [joinW] <;> omega

end Go.Proofs.YtnghpjijfdpmkaaDoor.metric

