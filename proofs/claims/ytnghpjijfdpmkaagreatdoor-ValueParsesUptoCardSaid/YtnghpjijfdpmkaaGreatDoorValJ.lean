/- The value that a text may be the source form of: the program's guess. -/
import Derived.Test.YtnghpjijfdpmkaaGreatDoorValZ
namespace Go.Proofs.YtnghpjijfdpmkaaGreatDoor.value
open Go.RowKit Go.Proofs.YtnghpjijfdpmkaaGreatDoor.text

/-- What guess gives: the value, with its texts in memory. -/
def GPost (v : VV) (m : Nat) (w : World) (e : Ending) (w' : World) : Prop :=
  ∃ (t : ByteArray) (la : Option Addr) (lc : Nat) (ls : List ByteArray), e = .returned (.agg #[.int .i64 v.k, .int .i64 v.n, .string t, .slice la ls.length lc]) ∧ VOk w' v t la ls ∧ ls.length ≤ 21 ∧ t.size ≤ m ∧ LFrom w.heap.size la ∧ Below w.heap.size w w'
theorem GPost.flat {v : VV} {m : Nat} {w w' : World} (t : ByteArray) (ht : t.data.toList = v.t) (hm : t.size ≤ m) (hl : v.l = []) (hB : Below w.heap.size w w') : GPost v m w (.returned (.agg #[.int .i64 v.k, .int .i64 v.n, .string t, .slice none 0 0])) w' :=
  ⟨t, none, 0, [], rfl, ⟨ht, Or.inl rfl, by rw [hl]; rfl⟩, by simp, hm, (fun a e => by cases e), hB⟩
theorem idx_cut : ∀ l : List UInt8, decide (0 ≤ Lib.indexByte l 46) = (cutD l).isSome
  | [] => rfl
  | c :: r => by
    have ih := idx_cut r
    rw [Lib.indexByte, cutD]
    by_cases h : c.toNat = 46
    · have hc : c = 46 := UInt8.toNat_inj.1 h
      subst hc
      simp
    · have hc : (c == 46) = false := by
        cases hx : c == 46 with
        | false => rfl
        | true => exact absurd (by rw [eq_of_beq hx]; rfl) h
      rw [if_neg h, hc]
      cases hq : cutD r with
      | none =>
        rw [hq] at ih
        simp at ih
        have h1 : Lib.indexByte r 46 = -1 ∨ Lib.indexByte r 46 < -1 := by omega
        rcases h1 with h1 | h1
        · simp [h1]
        · simp; split <;> omega
      | some x =>
        rw [hq] at ih
        simp at ih
        have h1 : (Lib.indexByte r 46 == -1) = false := by simp; omega
        simp [h1]
        omega
theorem pre_head (l : List UInt8) (c : UInt8) : Lib.hasPrefix l [c] = decide (l.head? = some c) := by
  cases l with
  | nil => rfl
  | cons a r =>
    simp only [Lib.hasPrefix, List.isPrefixOf, List.head?, Bool.and_true]
    by_cases h : c = a
    · subst h; simp
    · simp [h, Ne.symm h]
theorem unqF_len : ∀ (e : Bool) (l t : List UInt8), unqF e l = some t → t.length ≤ l.length
  | false, [], t, h => by injection h with h; subst h; exact Nat.le_refl _
  | true, [], t, h => by cases h
  | true, c :: r, t, h => by
    rw [unqF] at h
    split at h
    · cases hx : unqF false r with
      | none => rw [hx] at h; cases h
      | some y => rw [hx] at h; injection h with h; subst h; have := unqF_len false r y hx; simp; omega
    · cases h
  | false, c :: r, t, h => by
    rw [unqF] at h
    split at h
    · cases h
    · split at h
      · have := unqF_len true r t h; simp; omega
      · cases hx : unqF false r with
        | none => rw [hx] at h; cases h
        | some y => rw [hx] at h; injection h with h; subst h; have := unqF_len false r y hx; simp; omega
theorem uqS_len {l t : List UInt8} (h : uqS l = some t) : t.length ≤ l.length := by
  unfold uqS at h
  cases hu : unquoteS l with
  | none => rw [hu] at h; cases h
  | some b =>
    rw [hu] at h
    have e : t = b := by
      cases hv : validS b with
      | false => simp [hv] at h
      | true => simp [hv] at h; exact h.symm
    subst e
    unfold unquoteS at hu
    split at hu
    · cases hu
    · have := unqF_len _ _ _ hu
      simp at this
      omega

theorem VOk.set {w : World} {v : VV} {t : ByteArray} {la : Option Addr} {ls : List ByteArray} (h : VOk w v t la ls) {b : Nat} (hb : LFrom (b + 1) la) (o : Nat) (x : Value) : VOk (w.setCell ⟨b, o, none⟩ x) v t la ls := by
  refine ⟨h.text, ?_, h.list⟩
  rcases h.rows with h | ⟨blk, off, h1, h2⟩
  · exact Or.inl h
  · refine Or.inr ⟨blk, off, h1, fun k hk => ?_⟩
    have hne : blk ≠ b := by have := hb _ h1; simp at this; omega
    rw [← h2 k hk]
    unfold World.cell?
    rw [Below.heap_setCell w ⟨b, o, none⟩ x blk hne]

set_option maxRecDepth 100000 in
set_option maxHeartbeats 2000000 in
theorem guess_any (s : ByteArray) (w : World) (hs : s.size ≤ 140737488355328) (hT : Tabs w) :
    Calls Tryz.prog 39 #[.string s] w (GPost (guessS s.data.toList) s.size w) := by
  replace hT := Lib.hid hT
  have hB0 := Lib.hid ((Below.refl w.heap.size w).alloc (Nat.le_refl _) (.cells zero4 24))
  go_enter Tryz.func39, Tryz.ntmps39
  by_cases h1 : s.toList = [102, 97, 108, 115, 101]
  · have q1 : (s.toList == [102, 97, 108, 115, 101]) = true := by rw [h1]; rfl
    have hV := Lib.hid (show guessS s.data.toList = ⟨1, 0, [], []⟩ by rw [← ByteArray.toList_eq, h1]; rfl)
    clear h1
    go_wp2
    obtain ⟨c0, c1, c2, c3⟩ := box4 (Own.new w #[.int .i64 1, .int .i64 0, .string ⟨#[]⟩, .slice none 0 0] 24)
    refine bodyPost_ret (v := .agg #[.int .i64 1, .int .i64 0, .string ⟨#[]⟩, .slice none 0 0]) (by simp [results, Tryz.results39, go_sem, c0, c1, c2, c3]) rfl ?_
    rw [hV.out]
    exact GPost.flat ⟨#[]⟩ rfl (Nat.zero_le _) rfl ((Below.refl _ _).alloc (Nat.le_refl _) _)
  have q1 : (s.toList == [102, 97, 108, 115, 101]) = false := by simp [h1]
  by_cases h2 : s.toList = [116, 114, 117, 101]
  · have q2 : (s.toList == [116, 114, 117, 101]) = true := by rw [h2]; rfl
    have hV := Lib.hid (show guessS s.data.toList = ⟨1, 1, [], []⟩ by rw [← ByteArray.toList_eq, h2]; rfl)
    clear h1 h2
    go_wp2
    obtain ⟨c0, c1, c2, c3⟩ := box4 (Own.new w #[.int .i64 1, .int .i64 1, .string ⟨#[]⟩, .slice none 0 0] 24)
    refine bodyPost_ret (v := .agg #[.int .i64 1, .int .i64 1, .string ⟨#[]⟩, .slice none 0 0]) (by simp [results, Tryz.results39, go_sem, c0, c1, c2, c3]) rfl ?_
    rw [hV.out]
    exact GPost.flat ⟨#[]⟩ rfl (Nat.zero_le _) rfl ((Below.refl _ _).alloc (Nat.le_refl _) _)
  have q2 : (s.toList == [116, 114, 117, 101]) = false := by simp [h2]
  have hV0 := Lib.hid (show guessS s.data.toList = if s.data.toList.head? = some 34 then (match uqS s.data.toList with | none => ⟨0, 0, [], []⟩ | some t => ⟨3, 0, t, []⟩)
      else if s.data.toList.head? = some 91 then (match listG 21 (s.data.toList.drop 1) [] with | none => ⟨0, 0, [], []⟩ | some l => ⟨5, 0, [], l⟩)
      else if (cutD s.data.toList).isSome then ⟨4, 0, s.data.toList, []⟩
      else if (parseS s.data.toList).2 = 0 then ⟨2, (parseS s.data.toList).1, [], []⟩ else ⟨0, 0, [], []⟩ by
    unfold guessS
    rw [if_neg (by rw [← ByteArray.toList_eq]; exact h1), if_neg (by rw [← ByteArray.toList_eq]; exact h2)]
    rfl)
  clear h1 h2
  go_wp2_with fail
  refine (Tryz.strings_HasPrefix s ⟨#[34]⟩ _).mono ?_
  rintro e w1 ⟨rfl, rfl⟩
  rw [show Lib.hasPrefix s.data.toList (⟨#[34]⟩ : ByteArray).data.toList = decide (s.data.toList.head? = some 34) from pre_head _ _]
  by_cases h3 : s.data.toList.head? = some 34
  · rw [show decide (s.data.toList.head? = some 34) = true by simp [h3]]
    replace hV0 := Lib.hid (hV0.out.trans (if_pos h3))
    clear h3
    go_wp2_with fail
    refine (unquote_any s _ hs (hT.out.below hB0.out).runes).mono ?_
    rintro e w2 ⟨rfl, hb2⟩
    rcases uq_ways s.data.toList with ⟨q, hq0, hu, hu2⟩ | ⟨b, hu, hu2⟩
    · rw [hu]
      have hV := Lib.hid (show guessS s.data.toList = ⟨0, 0, [], []⟩ by rw [hV0.out, hu2])
      clear hu hu2 hV0
      have hO := Lib.hid ((Own.new w zero4 24).below hb2 (by simp))
      have hB := Lib.hid (hB0.out.trans (hb2.mono (by simp)))
      clear hb2
      obtain ⟨c0, c1, c2, c3, f0, f1, f2, f3⟩ := own4 hO.out
      go_wp2
      refine bodyPost_ret (v := .agg #[.int .i64 0, .int .i64 0, .string ⟨#[]⟩, .slice none 0 0]) (by simp [results, Tryz.results39, go_sem, c0, c1, c2, c3]) rfl ?_
      rw [hV.out]
      exact GPost.flat ⟨#[]⟩ rfl (Nat.zero_le _) rfl ((((hB.out.setCell (by simp) _).setCell (by simp) _).setCell (by simp) _).setCell (by simp) _)
    · rw [hu]
      have hV := Lib.hid (show guessS s.data.toList = ⟨3, 0, b, []⟩ by rw [hV0.out, hu2])
      have hbs : (⟨b.toArray⟩ : ByteArray).size ≤ s.size := by
        have h := uqS_len hu2
        rw [← Lib.size_eq] at h
        exact Nat.le_trans (Nat.le_of_eq (by simp [ByteArray.size])) h
      clear hu hu2 hV0
      have hO := Lib.hid ((Own.new w zero4 24).below hb2 (by simp))
      have hB := Lib.hid (hB0.out.trans (hb2.mono (by simp)))
      clear hb2
      obtain ⟨c0, c1, c2, c3, f0, f1, f2, f3⟩ := own4 hO.out
      go_wp2
      refine bodyPost_ret (v := .agg #[.int .i64 3, .int .i64 0, .string ⟨b.toArray⟩, .slice none 0 0]) (by simp [results, Tryz.results39, go_sem, c0, c1, c2, c3]) rfl ?_
      rw [hV.out]
      exact GPost.flat ⟨b.toArray⟩ rfl hbs rfl ((((hB.out.setCell (by simp) _).setCell (by simp) _).setCell (by simp) _).setCell (by simp) _)
  rw [show decide (s.data.toList.head? = some 34) = false by simp [h3]]
  replace hV0 := Lib.hid (hV0.out.trans (if_neg h3))
  clear h3
  go_wp2_with fail
  refine (Tryz.strings_HasPrefix s ⟨#[91]⟩ _).mono ?_
  rintro e w1 ⟨rfl, rfl⟩
  rw [show Lib.hasPrefix s.data.toList (⟨#[91]⟩ : ByteArray).data.toList = decide (s.data.toList.head? = some 91) from pre_head _ _]
  by_cases h4 : s.data.toList.head? = some 91
  · rw [show decide (s.data.toList.head? = some 91) = true by simp [h4]]
    replace hV0 := Lib.hid (hV0.out.trans (if_pos h4))
    have hz : 0 < s.size := by
      rcases Nat.eq_zero_or_pos s.size with h | h
      · have : s.data.toList = [] := List.eq_nil_of_length_eq_zero (by simpa using h)
        rw [this] at h4; cases h4
      · exact h
    clear h4
    go_wp2_with fail
    obtain ⟨y, hy⟩ : ∃ y : ByteArray, Hid (y = s.extract 1 s.size) := ⟨_, rfl⟩
    rw [← hy.out]
    refine (list_any y _ (by rw [hy.out]; simp; omega) (hT.out.below hB0.out)).mono ?_
    rintro e w2 ⟨t, la, lc, ls, rfl, hok, hls, hlf, hb2⟩
    have hV := Lib.hid (show guessS s.data.toList = listV y.data.toList by rw [hV0.out, hy.out, Lib.extract_to_end]; rfl)
    clear hV0
    have hO := Lib.hid ((Own.new w zero4 24).below hb2 (by simp))
    have hB := Lib.hid (hB0.out.trans (hb2.mono (by simp)))
    clear hb2
    obtain ⟨c0, c1, c2, c3, f0, f1, f2, f3⟩ := own4 hO.out
    replace hok := Lib.hid hok
    replace hlf := Lib.hid (show LFrom (w.heap.size + 1) la by simpa using hlf)
    have htm := Lib.hid (show t.size ≤ s.size by
      have h1 := hok.out.text
      have h2 : (listV y.data.toList).t = [] := by unfold listV; split <;> rfl
      rw [h2] at h1
      have h3 : t.data.toList.length = 0 := by rw [h1]; rfl
      have h4 : t.data.toList.length = t.size := by simp
      omega)
    go_wp2
    refine bodyPost_ret (v := (.agg #[.int .i64 (listV y.data.toList).k, .int .i64 (listV y.data.toList).n, .string t, .slice la ls.length lc])) (by simp [results, Tryz.results39, go_sem, c0, c1, c2, c3]) rfl ?_
    rw [hV.out]
    exact ⟨t, la, lc, ls, rfl, (((hok.out.set hlf.out _ _).set hlf.out _ _).set hlf.out _ _).set hlf.out _ _, hls, htm.out, hlf.out.le (by omega), (((hB.out.setCell (by simp) _).setCell (by simp) _).setCell (by simp) _).setCell (by simp) _⟩
  rw [show decide (s.data.toList.head? = some 91) = false by simp [h4]]
  replace hV0 := Lib.hid (hV0.out.trans (if_neg h4))
  clear h4
  go_wp2_with fail
  refine (Tryz.strings_Contains_one s 46 _).mono ?_
  rintro e w1 ⟨rfl, rfl⟩
  rw [idx_cut]
  cases h5 : (cutD s.data.toList).isSome with
  | true =>
    have hV := Lib.hid (show guessS s.data.toList = ⟨4, 0, s.data.toList, []⟩ from hV0.out.trans (if_pos h5))
    clear hV0 h5
    go_wp2
    obtain ⟨c0, c1, c2, c3⟩ := box4 (Own.new w #[.int .i64 4, .int .i64 0, .string s, .slice none 0 0] 24)
    refine bodyPost_ret (v := .agg #[.int .i64 4, .int .i64 0, .string s, .slice none 0 0]) (by simp [results, Tryz.results39, go_sem, c0, c1, c2, c3]) rfl ?_
    rw [hV.out]
    exact GPost.flat s rfl (Nat.le_refl _) rfl ((Below.refl _ _).alloc (Nat.le_refl _) _)
  | false =>
    replace hV0 := Lib.hid (hV0.out.trans (if_neg (by rw [h5]; simp)))
    clear h5
    go_wp2_with fail
    refine (parse_any s _ hs (hT.out.below hB0.out)).mono ?_
    rintro e w2 ⟨rfl, hb2⟩
    unfold parseV
    obtain ⟨n, m, hnm⟩ : ∃ n m, parseS s.data.toList = (n, m) := ⟨_, _, rfl⟩
    rw [hnm] at hV0 ⊢
    clear hnm
    by_cases h6 : m = 0
    · have hV := Lib.hid (show guessS s.data.toList = ⟨2, n, [], []⟩ from hV0.out.trans (if_pos h6))
      clear hV0
      subst h6
      have hO := Lib.hid ((Own.new w zero4 24).below hb2 (by simp))
      have hB := Lib.hid (hB0.out.trans (hb2.mono (by simp)))
      clear hb2
      obtain ⟨c0, c1, c2, c3, f0, f1, f2, f3⟩ := own4 hO.out
      go_wp2
      refine bodyPost_ret (v := .agg #[.int .i64 2, .int .i64 n, .string ⟨#[]⟩, .slice none 0 0]) (by simp [results, Tryz.results39, go_sem, c0, c1, c2, c3]) rfl ?_
      rw [hV.out]
      exact GPost.flat ⟨#[]⟩ rfl (Nat.zero_le _) rfl ((((hB.out.setCell (by simp) _).setCell (by simp) _).setCell (by simp) _).setCell (by simp) _)
    · have hV := Lib.hid (show guessS s.data.toList = ⟨0, 0, [], []⟩ from hV0.out.trans (if_neg h6))
      have q6 : (m != 0) = true := by simp [h6]
      clear hV0 h6
      have hO := Lib.hid ((Own.new w zero4 24).below hb2 (by simp))
      have hB := Lib.hid (hB0.out.trans (hb2.mono (by simp)))
      clear hb2
      obtain ⟨c0, c1, c2, c3, f0, f1, f2, f3⟩ := own4 hO.out
      go_wp2
      refine bodyPost_ret (v := .agg #[.int .i64 0, .int .i64 0, .string ⟨#[]⟩, .slice none 0 0]) (by simp [results, Tryz.results39, go_sem, c0, c1, c2, c3]) rfl ?_
      rw [hV.out]
      exact GPost.flat ⟨#[]⟩ rfl (Nat.zero_le _) rfl ((((hB.out.setCell (by simp) _).setCell (by simp) _).setCell (by simp) _).setCell (by simp) _)

end Go.Proofs.YtnghpjijfdpmkaaGreatDoor.value
