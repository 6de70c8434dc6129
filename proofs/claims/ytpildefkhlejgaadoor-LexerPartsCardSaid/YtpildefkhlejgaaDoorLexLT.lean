/- The law LexerTokens: the tokens of any text, with their lines, or the error and its line, are the reference's. -/
import Derived.Test.YtpildefkhlejgaaDoorLexH
import Derived.Test.YtpildefkhlejgaaDoorLexI
import Derived.Test.YtpildefkhlejgaaDoorValL
import Derived.Test.YtpildefkhlejgaaDoorTab
namespace Go.Proofs.YtpildefkhlejgaaDoor.lex
open Go.RowKit Go.Proofs.YtpildefkhlejgaaDoor.text Go.Proofs.YtpildefkhlejgaaDoor.value Go.Proofs.YtpildefkhlejgaaDoor.draw

theorem src_below {b : Nat} {w w' u : World} (hw : Below u.heap.size u w) (hb : u.heap.size ≤ b) (g : w.grownBy w' (some b)) : Below u.heap.size u w' := hw.trans (below_of_grown g hw.size hb)

theorem pieces_at {u w : World} {b : Nat} (h : Pieces u.cell?) (hb : u.heap.size ≤ b) (hw : Below u.heap.size u w) : Pieces (but b w) :=
  (h.mono (sub_but u b hb)).mono (sub_of_grown (grown_of_below hw (some b)))

set_option maxRecDepth 100000 in
set_option maxHeartbeats 8000000 in
theorem lexTokens_walk (s : ByteArray) (a : Option Addr) (n c : Nat) (w : World) (hs : s.size ≤ 140737488355328) (hC : BytesAt w.cell? a n c) (hT : Tabs w) (hP : Pieces w.cell?) :
    Calls Tryd.prog 3 #[.string s, .slice a n c] w fun e w' => e = .returned (.bool true) ∧ Below w.heap.size w w' := by
  replace hT := Lib.hid hT
  replace hP := Lib.hid hP
  replace hC := Lib.hid hC
  go_enter Tryd.func3, Tryd.ntmps3
  go_wp2_with fail
  refine (lex.awake_any _ hT.out).mono ?_
  rintro e w1 ⟨rfl, hb1⟩
  replace hb1 := Lib.hid hb1
  by_cases hl : 1000 < s.size
  · go_wp2
    go_ret
    exact ⟨rfl, hb1.out⟩
  go_wp2_with fail
  refine (new_any a n c 40 _ (by omega) (by omega) (hC.out.mono (sub_of_below hb1.out))).mono ?_
  rintro e w2 ⟨rfl, ⟨ca, cn, cc, hCo⟩, hb2⟩
  have hB2 := Lib.hid (hb1.out.trans (hb2.mono hb1.out.size))
  have hbl := Lib.hid hb1.out.size
  replace hCo := Lib.hid hCo
  generalize w1.heap.size = b at hCo hbl ⊢
  clear hb2 hb1
  go_wp2_with fail
  refine (source_any b ca cn cc _ hCo.out (pieces_at hP.out hbl.out hB2.out)).mono ?_
  rintro e w3 ⟨s1, rfl, hs1, hg3⟩
  have hB3 := Lib.hid (src_below hB2.out hbl.out hg3)
  clear hg3 hCo hB2
  go_wp2_with fail
  refine (new_any a n c 8 _ (by omega) (by omega) (hC.out.mono (sub_of_below hB3.out))).mono ?_
  rintro e w4 ⟨rfl, ⟨ca, cn, cc, hCo⟩, hb4⟩
  have hB4 := Lib.hid (hB3.out.trans (hb4.mono hB3.out.size))
  have hbl2 := Lib.hid hB3.out.size
  replace hCo := Lib.hid hCo
  generalize w3.heap.size = b2 at hCo hbl2 ⊢
  clear hb4 hB3
  go_wp2_with fail
  refine (source_any b2 ca cn cc _ hCo.out (pieces_at hP.out hbl2.out hB4.out)).mono ?_
  rintro e w5 ⟨s2, rfl, hs2, hg5⟩
  have hB5 := Lib.hid (src_below hB4.out hbl2.out hg5)
  clear hg5 hCo hB4
  have hF := Lib.hid (show ListAt w (w5.alloc (.cells #[.string s, .string s1, .string (s2 ++ s)] 9)) w5.heap.size 3 140737488355328 from
    ⟨hB5.out.alloc hB5.out.size _, texts_new (ts := [s, s1, s2 ++ s]) rfl rfl rfl (by
      intro t ht
      simp at ht
      rcases ht with rfl | rfl | rfl
      · omega
      · omega
      · rw [ByteArray.size_append]; omega), hT.out.below (hB5.out.alloc hB5.out.size _)⟩)
  clear hB5 hT hP hC hbl hbl2
  go_wp2
  generalize w5.alloc (.cells #[.string s, .string s1, .string (s2 ++ s)] 9) = w6 at hF ⊢
  generalize w5.heap.size = A at hF ⊢
  go_loopw [29] (fun i wr => ∃ k : Nat, k ≤ 3 ∧ i = .int .i64 k ∧ Hid (ListAt w wr A 3 140737488355328)) (fun i _ => 3 - (intOf i).toNat)
  case atStart => exact ⟨0, by omega, rfl, hF.out⟩
  case round =>
    clear hF
    obtain ⟨k, hk, rfl, hF⟩ := hrel
    by_cases hlt : k < 3
    · obtain ⟨t, hcell, hts⟩ := hF.out.2.1 k hlt
      go_wp2_with fail
      refine (tokens_any t _ hts hF.out.2.2).mono ?_
      rintro e w7 h7
      cases hx : toksS t.data.toList with
      | error p =>
        obtain ⟨q, L⟩ := p
        obtain ⟨rfl, hb7⟩ := tok_err h7 hx
        replace hF := Lib.hid (hF.out.below hb7)
        clear hb7 h7 hcell
        go_wp2_with fail
        refine (tokens_ref t _ hts hF.out.2.2).mono ?_
        rintro e w8 h8
        obtain ⟨rfl, hb8⟩ := tok_err h8 hx
        replace hF := Lib.hid (hF.out.below hb8)
        clear hb8 h8 hx
        go_wp2_with fail
        refine (same_none none none 0 0 _).mono ?_
        rintro e w9 ⟨rfl, q9, rfl⟩
        replace hF := Lib.hid (hF.out.below (bel_drew (Below.refl _ _) q9))
        go_wp2
        go_roundw
        case rel => exact ⟨k + 1, by omega, by go_num, hF.out⟩
        case measure => simp [intOf]; omega
      | ok ts =>
        obtain ⟨v1, rfl, ho7, hb7⟩ := tok_ok h7 hx
        replace hF := Lib.hid (hF.out.below hb7)
        replace ho7 := Lib.hid ho7
        clear hb7 h7 hcell
        go_wp2_with fail
        refine (tokens_ref t _ hts hF.out.2.2).mono ?_
        rintro e w8 h8
        obtain ⟨v2, rfl, ho8, hb8⟩ := tok_ok h8 hx
        replace hF := Lib.hid (hF.out.below hb8)
        have hs := Lib.hid (same_any ho7.out ho8 hb8 (Below.refl _ _))
        clear hb8 h8 hx ho7 ho8
        go_wp2_with fail
        refine hs.out.mono ?_
        rintro e w9 ⟨rfl, q9, rfl⟩
        replace hF := Lib.hid (hF.out.below (bel_drew (Below.refl _ _) q9))
        clear hs
        go_wp2
        go_roundw
        case rel => exact ⟨k + 1, by omega, by go_num, hF.out⟩
        case measure => simp [intOf]; omega
    · go_wp2
      go_ret
      exact ⟨rfl, hF.out.1⟩

end Go.Proofs.YtpildefkhlejgaaDoor.lex
