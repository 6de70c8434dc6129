/- The law LexerTexts: any valid text is one token in quotation marks, and any number in range is one token. -/
import Derived.Test.YtpildefkhlejgaaDoorLexH
import Derived.Test.YtpildefkhlejgaaDoorLexQ
import Derived.Test.YtpildefkhlejgaaDoorTextG
namespace Go.Proofs.YtpildefkhlejgaaDoor.lex
open Go.RowKit Go.Proofs.YtpildefkhlejgaaDoor.text Go.Proofs.YtpildefkhlejgaaDoor.value

theorem quoteV_good {t : ByteArray} (h : validS t.data.toList = true) : quoteV t.data.toList = .tuple #[.string ⟨(quoteS t.data.toList).toArray⟩, .int .i64 0] := by rw [quoteV, h]; rfl
theorem quoteV_bad {t : ByteArray} (h : validS t.data.toList = false) : quoteV t.data.toList = .tuple #[.string ⟨#[]⟩, .int .i64 2] := by rw [quoteV, h]; rfl
theorem quote_short {t : List UInt8} (h : validS t = true) : (⟨(quoteS t).toArray⟩ : ByteArray).size ≤ 140737488355328 := by
  show (quoteS t).toArray.size ≤ _
  have h1 := escL_len t
  have h2 := valid_size h
  rw [List.size_toArray, quoteS_len]
  omega

set_option maxRecDepth 100000 in
set_option maxHeartbeats 8000000 in
theorem number_part (n : Int) (h0 : -9223372036854775808 ≤ n) (h1 : n ≤ 9223372036854775807) (q : ByteArray) (hq : q = ⟨(Lib.itoa n).toArray⟩) (w : World) (hT : Tabs w) :
    Calls Tryd.prog 14 #[.string q] w fun e w' => Below w.heap.size w w' ∧
      ((n < -1099511627776 ∨ 1099511627776 < n) ∧ e = .returned (.tuple #[.slice none 0 0, .int .i64 1, .int .i64 3]) ∨
       ¬ (n < -1099511627776 ∨ 1099511627776 < n) ∧ ∃ g c, e = .returned (.tuple #[.slice (some ⟨g, 0, none⟩) 2 c, .int .i64 0, .int .i64 0]) ∧
        w'.cell? ⟨g, 0, none⟩ = some (.int .i64 2) ∧ w'.cell? ⟨g, 1, none⟩ = some (.string ⟨#[]⟩) ∧ w'.cell? ⟨g, 2, none⟩ = some (.int .i64 n) ∧ w'.cell? ⟨g, 3, none⟩ = some (.int .i64 1)) := by
  have hx := toks_itoa n h0 h1
  have hd : q.data.toList = Lib.itoa n := by rw [hq]
  refine (tokens_any q w (by rw [hq]; exact itoa_len n h0 h1) hT).mono fun e w' h => ?_
  rw [hd] at h
  by_cases ho : n < -1099511627776 ∨ 1099511627776 < n
  · rw [if_pos ho] at hx
    obtain ⟨rfl, hb⟩ := tok_err h hx
    exact ⟨hb, Or.inl ⟨ho, rfl⟩⟩
  · rw [if_neg ho] at hx
    obtain ⟨v, rfl, hw, hb⟩ := tok_ok h hx
    rcases toks_at hw with ⟨h2, _⟩ | ⟨g, c, rfl, hr, _, _⟩
    · cases h2
    · have h3 := hr 0 (by simp)
      exact ⟨hb, Or.inr ⟨ho, g, c, rfl, h3.1, h3.2.1, h3.2.2.1, h3.2.2.2⟩⟩
theorem text_part (s : ByteArray) (hv : validS s.data.toList = true) (w : World) (hT : Tabs w) :
    Calls Tryd.prog 14 #[.string ⟨(quoteS s.data.toList).toArray⟩] w fun e w' => Below w.heap.size w w' ∧
      ∃ g c, e = .returned (.tuple #[.slice (some ⟨g, 0, none⟩) 2 c, .int .i64 0, .int .i64 0]) ∧
        w'.cell? ⟨g, 0, none⟩ = some (.int .i64 3) ∧ w'.cell? ⟨g, 1, none⟩ = some (.string s) ∧ w'.cell? ⟨g, 2, none⟩ = some (.int .i64 0) ∧ w'.cell? ⟨g, 3, none⟩ = some (.int .i64 1) := by
  have hx := toks_quote hv
  refine (tokens_any ⟨(quoteS s.data.toList).toArray⟩ w (quote_short hv) hT).mono fun e w' h => ?_
  obtain ⟨v, rfl, hw, hb⟩ := tok_ok h hx
  rcases toks_at hw with ⟨h2, _⟩ | ⟨g, c, rfl, hr, _, _⟩
  · cases h2
  · have h3 := hr 0 (by simp)
    have e : (⟨s.data.toList.toArray⟩ : ByteArray) = s := by cases s; simp
    refine ⟨hb, g, c, rfl, h3.1, ?_, h3.2.2.1, h3.2.2.2⟩
    have := h3.2.1
    rw [← e]
    exact this

theorem ways_num (n : Int) : (n < -1099511627776 ∧ Hid (n < -1099511627776 ∨ 1099511627776 < n)) ∨ (¬ n < -1099511627776 ∧ 1099511627776 < n ∧ Hid (n < -1099511627776 ∨ 1099511627776 < n)) ∨ (¬ n < -1099511627776 ∧ ¬ 1099511627776 < n ∧ Hid (¬ (n < -1099511627776 ∨ 1099511627776 < n))) := by
  by_cases h1 : n < -1099511627776
  · exact Or.inl ⟨h1, Or.inl h1⟩
  · by_cases h2 : 1099511627776 < n
    · exact Or.inr (Or.inl ⟨h1, h2, Or.inr h2⟩)
    · exact Or.inr (Or.inr ⟨h1, h2, by show ¬ _; omega⟩)

set_option maxRecDepth 100000 in
set_option maxHeartbeats 8000000 in
theorem lexTexts_walk (s : ByteArray) (n : Int) (w : World) (h0 : -9223372036854775808 ≤ n) (h1 : n ≤ 9223372036854775807) (hT : Tabs w) :
    Calls Tryd.prog 7 #[.string s, .int .i64 n] w fun e w' => e = .returned (.bool true) ∧ Below w.heap.size w w' := by
  replace hT := Lib.hid hT
  have hways := Lib.hid (ways_num n)
  have hbd := Lib.hid (And.intro h0 h1)
  go_enter Tryd.func7, Tryd.ntmps7
  go_wp2_with fail
  refine (lex.awake_any _ hT.out).mono ?_
  rintro e w1 ⟨rfl, hb1⟩
  have hT1 := Lib.hid (hT.out.below hb1)
  replace hb1 := Lib.hid hb1
  clear hT
  go_wp2_with fail
  refine (quote_ref s _ hT1.out.runes).mono ?_
  rintro e w2 ⟨rfl, hb2⟩
  have hT2 := Lib.hid (hT1.out.below hb2)
  replace hb2 := Lib.hid (hb1.out.trans (hb2.mono hb1.out.size))
  clear hT1 hb1
  cases hv : validS s.data.toList with
  | false =>
    rw [quoteV_bad hv]
    clear hv
    go_wp2_with fail
    refine (number_ref n _ h0 h1).mono ?_
    rintro e w3 ⟨rfl, rfl⟩
    obtain ⟨q, hq⟩ : ∃ q : ByteArray, Hid (q = ⟨(Lib.itoa n).toArray⟩) := ⟨_, rfl⟩
    rw [← hq.out]
    go_wp2_with fail
    refine (number_part n hbd.out.1 hbd.out.2 q hq.out _ hT2.out).mono ?_
    rintro e w4 ⟨hb4, hw⟩
    replace hb4 := Lib.hid (hb2.out.trans (hb4.mono hb2.out.size))
    rcases hways.out with ⟨k1, ho⟩ | ⟨k1, k2, ho⟩ | ⟨k1, k2, ho⟩
    · rcases hw with ⟨_, rfl⟩ | ⟨hn, _⟩
      · go_wp2
        go_ret
        exact ⟨rfl, hb4.out⟩
      · exact absurd ho.out hn
    · rcases hw with ⟨_, rfl⟩ | ⟨hn, _⟩
      · go_wp2
        go_ret
        exact ⟨rfl, hb4.out⟩
      · exact absurd ho.out hn
    · rcases hw with ⟨hn, _⟩ | ⟨_, g, c, rfl, c0, c1, c2, c3⟩
      · exact absurd hn ho.out
      · go_wp2
        go_ret
        exact ⟨rfl, hb4.out⟩
  | true =>
    rw [quoteV_good hv]
    replace hv := Lib.hid hv
    go_wp2_with fail
    refine (text_part s hv.out _ hT2.out).mono ?_
    rintro e w3 ⟨hb3, g, c, rfl, c0, c1, c2, c3⟩
    have hT3 := Lib.hid (hT2.out.below hb3)
    replace hb3 := Lib.hid (hb2.out.trans (hb3.mono hb2.out.size))
    clear hT2 hb2
    go_wp2_with fail
    refine (number_ref n _ h0 h1).mono ?_
    rintro e w4 ⟨rfl, rfl⟩
    obtain ⟨q, hq⟩ : ∃ q : ByteArray, Hid (q = ⟨(Lib.itoa n).toArray⟩) := ⟨_, rfl⟩
    rw [← hq.out]
    clear c0 c1 c2 c3
    go_wp2_with fail
    refine (number_part n hbd.out.1 hbd.out.2 q hq.out _ hT3.out).mono ?_
    rintro e w4 ⟨hb4, hw⟩
    replace hb4 := Lib.hid (hb3.out.trans (hb4.mono hb3.out.size))
    rcases hways.out with ⟨k1, ho⟩ | ⟨k1, k2, ho⟩ | ⟨k1, k2, ho⟩
    · rcases hw with ⟨_, rfl⟩ | ⟨hn, _⟩
      · go_wp2
        go_ret
        exact ⟨rfl, hb4.out⟩
      · exact absurd ho.out hn
    · rcases hw with ⟨_, rfl⟩ | ⟨hn, _⟩
      · go_wp2
        go_ret
        exact ⟨rfl, hb4.out⟩
      · exact absurd ho.out hn
    · rcases hw with ⟨hn, _⟩ | ⟨_, g', c', rfl, c0, c1, c2, c3⟩
      · exact absurd hn ho.out
      · go_wp2
        go_ret
        exact ⟨rfl, hb4.out⟩

end Go.Proofs.YtpildefkhlejgaaDoor.lex
