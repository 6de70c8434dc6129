/- The law TextQuotes: the quoted form of any text is the reference's, and is read as the text. -/
import Derived.Test.YtppljigkilccdaaDoorTextAw
namespace Go.Proofs.YtppljigkilccdaaDoor.law
open Go.RowKit Go.Proofs.YtppljigkilccdaaDoor.text

theorem unq_escL : ∀ l : List UInt8, unqF false (escL l) = some l
  | [] => rfl
  | c :: r => by
    have ih := unq_escL r
    have e : escL (c :: r) = esc c ++ escL r := by simp [escL]
    rw [e]
    by_cases h : c.toNat = 34 ∨ c.toNat = 92
    · rw [esc_two h]
      show unqF false (92 :: c :: escL r) = _
      have h92 : (92 : UInt8).toNat = 92 := rfl
      rw [unqF, if_neg (by omega), if_pos h92, unqF, if_pos h, ih]
      rfl
    · rw [esc_one (by omega) (by omega)]
      show unqF false (c :: escL r) = _
      rw [unqF, if_neg (by omega), if_neg (by omega), ih]
      rfl
theorem unquoteS_quote (l : List UInt8) : unquoteS (quoteS l) = some l := by
  unfold unquoteS quoteS
  have h1 : ¬ ((34 :: (escL l ++ [34])).length < 2 ∨ (34 :: (escL l ++ [34])).head? ≠ some 34 ∨ (34 :: (escL l ++ [34])).getLast? ≠ some 34) := by
    have : (34 :: (escL l ++ [34])).getLast? = some 34 := by
      rw [← List.cons_append, List.getLast?_append]; rfl
    rw [this]
    simp
  rw [if_neg h1]
  have h2 : List.drop 1 (List.take ((34 :: (escL l ++ [34])).length - 1) (34 :: (escL l ++ [34]))) = escL l := by
    simp
  rw [h2]
  exact unq_escL l
theorem unquote_quote {t : ByteArray} (h : validS t.data.toList = true) : unquoteV (⟨(quoteS t.data.toList).toArray⟩ : ByteArray).data.toList = .tuple #[.string t, .int .i64 0] := by
  show unquoteV (quoteS t.data.toList) = _
  rw [unquoteV, unquoteS_quote]
  simp [h]
theorem quoteV_good {t : ByteArray} (h : validS t.data.toList = true) : quoteV t.data.toList = .tuple #[.string ⟨(quoteS t.data.toList).toArray⟩, .int .i64 0] := by rw [quoteV, h]; rfl
theorem quoteV_bad {t : ByteArray} (h : validS t.data.toList = false) : quoteV t.data.toList = .tuple #[.string ⟨#[]⟩, .int .i64 2] := by rw [quoteV, h]; rfl
theorem quoteS_size {t : ByteArray} (h : validS t.data.toList = true) : (⟨(quoteS t.data.toList).toArray⟩ : ByteArray).size ≤ 140737488355328 := by
  show (quoteS t.data.toList).toArray.size ≤ _
  have h1 := escL_len t.data.toList
  have h2 := valid_size h
  rw [List.size_toArray, quoteS, List.length_cons, List.length_append]
  simp at *
  omega

theorem encode_size4 {r : Int} (h0 : 0 ≤ r) (h1 : r ≤ 255) : (Utf8.encode r).size ≤ 4 := by
  rcases Int.lt_or_le r 128 with h | h
  · have := encode_size h0 h; omega
  · exact (encode_facts r (by rw [validRune_eq]; unfold validRune; simp; omega) h).2.1
/-- A list of texts of a known number, none of them longer than M. -/
def Texts (w : World) (A n M : Nat) : Prop := ∀ i, i < n → ∃ t, w.cell? ⟨A, i, none⟩ = some (.string t) ∧ t.size ≤ M
theorem Texts.below {w w' : World} {A n M : Nat} (h : Texts w A n M) (hb : Below w.heap.size w w') : Texts w' A n M := by
  intro i hi
  obtain ⟨t, h1, h2⟩ := h i hi
  exact ⟨t, (sub_of_below hb) _ _ h1, h2⟩
theorem texts_new {w : World} {ts : List ByteArray} {A : Nat} (hA : A = w.heap.size) {n M : Nat} {arr : Array Value} (ha : arr = (ts.map Value.string).toArray) (hn : n = ts.length) (hM : ∀ t ∈ ts, t.size ≤ M) : Texts (w.alloc (.cells arr 9)) A n M := by
  subst hA hn ha
  intro i hi
  refine ⟨ts[i], ?_, hM _ (List.getElem_mem _)⟩
  rw [(Own.new w _ _).cell]
  simp [hi]

set_option maxRecDepth 100000 in
set_option maxHeartbeats 2000000 in
theorem quotes_walk (s : ByteArray) (c : Int) (w : World) (hs : s.size ≤ 140737488351232) (hc0 : 0 ≤ c) (hc1 : c ≤ 255) (hT : Tabs w) :
    Calls Tryd.prog 8 #[.string s, .int .u8 c] w fun e w' => e = .returned (.bool true) ∧ Below w.heap.size w w' := by
  replace hT := Lib.hid hT
  go_enter Tryd.func8, Tryd.ntmps8
  go_wp2_with fail
  refine (awake_any _ hT.out).mono ?_
  rintro e w1 ⟨rfl, hb1⟩
  have hT1 := Lib.hid (hT.out.below hb1)
  replace hb1 := Lib.hid hb1
  clear hT
  have henc := encode_size4 (r := c) hc0 hc1
  go_wp2
  have hA := Lib.hid (texts_new (w := w1) (ts := [s, s ++ Utf8.encode c, ⟨#[92]⟩ ++ s ++ ⟨#[34]⟩]) (A := w1.heap.size) (M := 140737488355327) rfl (arr := #[.string s, .string (s ++ Utf8.encode c), .string (⟨#[92]⟩ ++ s ++ ⟨#[34]⟩)]) rfl (n := 3) rfl (by
    intro t ht
    simp at ht
    have e1 : (⟨#[92]⟩ : ByteArray).size = 1 := rfl
    have e2 : (⟨#[34]⟩ : ByteArray).size = 1 := rfl
    rcases ht with rfl | rfl | rfl
    · omega
    · rw [ByteArray.size_append]; omega
    · rw [ByteArray.size_append, ByteArray.size_append]; omega))
  have hb2 := Lib.hid (hb1.out.trans (((Below.refl _ _).alloc (Nat.le_refl _) (.cells #[.string s, .string (s ++ Utf8.encode c), .string (⟨#[92]⟩ ++ s ++ ⟨#[34]⟩)] 9)).mono hb1.out.size))
  have hT2 := Lib.hid (hT1.out.below ((Below.refl _ _).alloc (Nat.le_refl _) (.cells #[.string s, .string (s ++ Utf8.encode c), .string (⟨#[92]⟩ ++ s ++ ⟨#[34]⟩)] 9)))
  generalize w1.alloc (.cells #[.string s, .string (s ++ Utf8.encode c), .string (⟨#[92]⟩ ++ s ++ ⟨#[34]⟩)] 9) = w2 at hA hb2 hT2 ⊢
  generalize w1.heap.size = A at hA ⊢
  clear hb1 hT1
  go_loopw [26] (fun i wr => ∃ k : Nat, k ≤ 3 ∧ i = .int .i64 k ∧ Hid (Below w.heap.size w wr) ∧ Hid (Texts wr A 3 140737488355327) ∧ Hid (Tabs wr)) (fun i _ => 3 - (intOf i).toNat)
  case atStart => exact ⟨0, by omega, rfl, hb2.out, hA.out, hT2.out⟩
  case round =>
    clear hA hb2 hT2
    obtain ⟨k, hk, rfl, hb, hA, hT⟩ := hrel
    by_cases hlt : k < 3
    · obtain ⟨t, hcell, -⟩ := hA.out k hlt
      go_wp2_with fail
      refine (quote_any t _ hT.out.runes).mono ?_
      rintro e w3 ⟨rfl, hb3⟩
      replace hA := Lib.hid (hA.out.below hb3)
      replace hT := Lib.hid (hT.out.below hb3)
      replace hb := Lib.hid (hb.out.trans (hb3.mono hb.out.size))
      clear hb3 hcell
      cases hv : validS t.data.toList with
      | false =>
        have hq := Lib.hid (quoteV_bad hv)
        clear hv
        rw [hq.out]
        go_wp2_with fail
        refine (quote_ref t _ hT.out.runes).mono ?_
        rintro e w4 ⟨rfl, hb4⟩
        replace hA := Lib.hid (hA.out.below hb4)
        replace hT := Lib.hid (hT.out.below hb4)
        replace hb := Lib.hid (hb.out.trans (hb4.mono hb.out.size))
        clear hb4
        rw [hq.out]
        go_wp2
        go_roundw
        case rel => exact ⟨k + 1, by omega, by go_num, hb.out, hA.out, hT.out⟩
        case measure => simp [intOf]; omega
      | true =>
        have hq := Lib.hid (quoteV_good hv)
        have hu := Lib.hid (unquote_quote hv)
        have hz := quoteS_size hv
        clear hv
        rw [hq.out]
        generalize (⟨(quoteS t.data.toList).toArray⟩ : ByteArray) = q at hq hu hz ⊢
        go_wp2_with fail
        refine (quote_ref t _ hT.out.runes).mono ?_
        rintro e w4 ⟨rfl, hb4⟩
        replace hA := Lib.hid (hA.out.below hb4)
        replace hT := Lib.hid (hT.out.below hb4)
        replace hb := Lib.hid (hb.out.trans (hb4.mono hb.out.size))
        clear hb4
        rw [hq.out]
        go_wp2_with fail
        refine (unquote_any q _ hz hT.out.runes).mono ?_
        rintro e w5 ⟨rfl, hb5⟩
        replace hA := Lib.hid (hA.out.below hb5)
        replace hT := Lib.hid (hT.out.below hb5)
        replace hb := Lib.hid (hb.out.trans (hb5.mono hb.out.size))
        clear hb5
        rw [hu.out]
        go_wp2
        go_roundw
        case rel => exact ⟨k + 1, by omega, by go_num, hb.out, hA.out, hT.out⟩
        case measure => simp [intOf]; omega
    · go_wp2
      go_ret
      exact ⟨rfl, hb.out⟩

end Go.Proofs.YtppljigkilccdaaDoor.law
