/- The tokens of a source text: the reference's Tokens. -/
import Derived.Test.YtfffpflflggonaaGreatDoorKLexE
import Derived.Test.YtfffpflflggonaaGreatDoorKS16
import Derived.Laws.AppendOwn
namespace Go.Proofs.YtfffpflflggonaaGreatDoor.lex
open Go.RowKit Go.Proofs.YtfffpflflggonaaGreatDoor.text Go.Proofs.YtfffpflflggonaaGreatDoor.value

set_option maxRecDepth 100000 in
set_option maxHeartbeats 8000000 in
theorem tokens_ref (s : ByteArray) (w : World) (hs : s.size ≤ 140737488355328) (hT : Tabs w) :
    Calls Tryz.prog 23 #[.string s] w (TokPost s.data.toList w) := by
  by_cases hl : 30000 < s.size
  · have hE := Lib.hid (TokPost.bad (w := w) (w' := w) (toksS_long (s := s.data.toList) (by simpa using hl)) (Below.refl _ _))
    go_enter Tryz.func23, Tryz.ntmps23
    go_wp2
    try rw [Exit.noGoto_ret]
    go_ret3
    exact hE.out
  have hok := Lib.hid (toksS_ok (s := s.data.toList) (by simpa using hl))
  replace hT := Lib.hid hT
  obtain ⟨i0, hi, hz0, hz1, hz2⟩ := info_parts infoTok
  go_enter Tryz.func23, Tryz.ntmps23
  go_wp2
  go_loopw [5, 6, 7] (fun v L i wr => ∃ (p : Nat) (L' : Int) (acc : List Tok), i = .int .i64 p ∧ p ≤ s.size ∧ L = .int .i64 L' ∧ 1 ≤ L' ∧ L' ≤ p + 1 ∧ acc.length ≤ p ∧ Hid (TokAt s.data.toList p L' acc) ∧ Hid (wr.ownsRow w.heap.size 61 4 v acc.length (rowsT acc)) ∧ Hid (Below w.heap.size w wr)) (fun _ _ i _ => s.size - (intOf i).toNat)
  case atStart => exact ⟨0, 1, [], rfl, Nat.zero_le _, rfl, by omega, by omega, Nat.le_refl _, TokAt.start _, World.ownsRow_nil _ _ _ _, Below.refl _ _⟩
  case round =>
    obtain ⟨p, L, acc, rfl, hp, rfl, hL0, hL1, hacc, hA, hown, hB⟩ := hrel
    obtain ⟨va, vc, rfl⟩ := owns_slice hown.out
    have hBz := hB.out.size
    by_cases hlt : p < s.size
    · by_cases h10 : s[p].toNat = 10
      · have hN := Lib.hid (hA.out.nl hlt h10)
        have q10 := eq_yes (show (s[p].toNat : Int) = 10 by omega)
        clear h10 hA
        go_wp2
        go_roundw
        case rel => exact ⟨p + 1, L + 1, acc, by go_num, by omega, rfl, by omega, by omega, by omega, hN.out, hown.out, hB.out⟩
        case measure => simp [intOf]; omega
      have q10 := eq_no (show (s[p].toNat : Int) ≠ 10 by omega)
      by_cases h32 : s[p].toNat = 32
      · have hN := Lib.hid (hA.out.sp hlt (Or.inl h32))
        have q32 := eq_yes (show (s[p].toNat : Int) = 32 by omega)
        clear h10 h32 hA
        go_wp2
        go_roundw
        case rel => exact ⟨p + 1, L, acc, by go_num, by omega, rfl, by omega, by omega, by omega, hN.out, hown.out, hB.out⟩
        case measure => simp [intOf]; omega
      have q32 := eq_no (show (s[p].toNat : Int) ≠ 32 by omega)
      by_cases h9 : s[p].toNat = 9
      · have hN := Lib.hid (hA.out.sp hlt (Or.inr h9))
        have q9 := eq_yes (show (s[p].toNat : Int) = 9 by omega)
        clear h10 h32 h9 hA
        go_wp2
        go_roundw
        case rel => exact ⟨p + 1, L, acc, by go_num, by omega, rfl, by omega, by omega, by omega, hN.out, hown.out, hB.out⟩
        case measure => simp [intOf]; omega
      have q9 := eq_no (show (s[p].toNat : Int) ≠ 9 by omega)
      by_cases h35 : s[p].toNat = 35
      · have hN := Lib.hid (hA.out.hash hlt h35)
        have hm1 := spanN_le lineB (s.data.toList.drop p)
        have hm2 : 1 ≤ spanN lineB (s.data.toList.drop p) := by rw [drop_byte s p hlt, span_hash h35]; omega
        have q35 := eq_yes (show (s[p].toNat : Int) = 35 by omega)
        clear h10 h32 h9 h35 hA
        have hm3 : p + spanN lineB (s.data.toList.drop p) ≤ s.size := by simp at hm1; omega
        obtain ⟨M, hM⟩ : ∃ M, Hid (M = p + spanN lineB (s.data.toList.drop p)) := ⟨_, rfl⟩
        have hM1 : p + 1 ≤ M := by rw [hM.out]; omega
        have hM2 : M ≤ s.size := by rw [hM.out]; exact hm3
        clear hm1 hm2 hm3
        go_wp2
        obtain ⟨wo, rfl⟩ : ∃ wo : World, wo = wr := ⟨_, rfl⟩
        go_loop [7] (fun i => ∃ k : Nat, i = .int .i64 k ∧ k ≤ s.size ∧ Hid (SpanOff lineB s.data.toList p k)) (fun i => s.size - (intOf i).toNat)
        case atStart => exact ⟨p, rfl, by omega, SpanOff.start _ _ _⟩
        case round =>
          obtain ⟨k, rfl, hk, hS⟩ := hrel
          by_cases hlk : k < s.size
          · by_cases hk10 : s[k].toNat = 10
            · have hE := Lib.hid (hS.out.stop hlk (by unfold lineB; simp [hk10]))
              have qk := ne_no (show (s[k].toNat : Int) = 10 by omega)
              have hpk : p + 1 ≤ k := by have := hE.out; have := hM.out; omega
              clear hk10 hS
              go_wp2
              go_roundw
              case rel => exact ⟨k, L, acc, rfl, by omega, rfl, by omega, by omega, by omega, by rw [hE.out]; exact hN.out, hown.out, hB.out⟩
              case measure => simp [intOf]; omega
            · have hS2 := Lib.hid (hS.out.next hlk (by unfold lineB; simp [hk10]))
              have qk := ne_yes (show (s[k].toNat : Int) ≠ 10 by omega)
              clear hk10 hS
              go_wp2
              go_round
              case rel => exact ⟨k + 1, by go_num, by omega, hS2.out⟩
              case measure => simp [intOf]; omega
          · have hE := Lib.hid (hS.out.done hlk)
            have hpk : p + 1 ≤ k := by have := hE.out; have := hM.out; omega
            clear hS
            go_wp2
            go_roundw
            case rel => exact ⟨k, L, acc, rfl, by omega, rfl, by omega, by omega, by omega, by rw [hE.out]; exact hN.out, hown.out, hB.out⟩
            case measure => simp [intOf]; omega
      have q35 := eq_no (show (s[p].toNat : Int) ≠ 35 by omega)
      have hK := Lib.hid (show tokB s[p] from ⟨h10, h32, h9, h35⟩)
      clear h10 h32 h9 h35
      go_wp2_with fail
      refine (next_ref s p _ hlt (by omega) (hT.out.below hB.out)).mono ?_
      rintro e w2 ⟨k, t, x, n, err, rfl, hN, hb2⟩
      have hB2 := Lib.hid (hB.out.trans (hb2.mono hBz))
      have hown2 := Lib.hid (owns_below hown.out hb2)
      have hBz2 := hB2.out.size
      clear hb2 hown hB
      unfold NextIs at hN
      cases hx : nextS (s.data.toList.drop p) with
      | error q =>
        rw [hx] at hN
        obtain ⟨rfl, hq⟩ := hN
        have hE := Lib.hid (TokPost.bad (w := w) (w' := w2.alloc (.cells #[.int .i64 k, .string t, .int .i64 x, .int .i64 0] 61)) (hok.out.trans (hA.out.err hlt hK.out hx)) (hB2.out.alloc hBz2 _))
        have qe := ne_yes hq
        clear hx hA hK hq
        go_wp2
        try rw [Exit.noGoto_ret]
        go_ret3
        exact hE.out
      | ok v =>
        obtain ⟨tk, m⟩ := v
        rw [hx] at hN
        obtain ⟨rfl, rfl, ht, rfl, hn⟩ := hN
        have hm := nextS_pos hx
        rw [List.length_drop] at hm
        have hm2 : p + m ≤ s.size := by have := hm.2; simp at this; omega
        have hm1 := hm.1
        have hA2 := Lib.hid (hA.out.tok hlt hK.out hx)
        have hrow := Lib.hid (row_of ht L)
        obtain rfl : n = ((p + m : Nat) : Int) := by omega
        clear hx hA hK ht hm hn
        have hown3 := Lib.hid ((hown2.out.alloc (.cells #[.int .i64 tk.k, .string t, .int .i64 tk.n, .int .i64 L] 61)).alloc (.cells #[.int .i64 tk.k, .string t, .int .i64 tk.n, .int .i64 L] 61))
        have hB3 := Lib.hid ((hB2.out.alloc hBz2 (.cells #[.int .i64 tk.k, .string t, .int .i64 tk.n, .int .i64 L] 61)).alloc (by simp; omega) (.cells #[.int .i64 tk.k, .string t, .int .i64 tk.n, .int .i64 L] 61))
        go_wp2_with (at_builtin; refine wpList_append_own _ rfl _ _ 63 rfl w.heap.size 61 i0 (.agg #[.int .i64 0, .string ⟨#[]⟩, .int .i64 0, .int .i64 0]) 4 40 Tryz.underlying63 hi hz0 hz1 hz2 rfl (by decide) _ acc.length _ rfl hown3.out ⟨w2.heap.size + 1, 0, none⟩ 1 1 [.int .i64 tk.k, .string t, .int .i64 tk.n, .int .i64 L] rfl rfl (World.news_of_block (cs := #[.int .i64 tk.k, .string t, .int .i64 tk.n, .int .i64 L]) (t := 61) (fr := (0, 0)) (Own.new' (by simp))) (by simp; exact ⟨rfl, rfl, rfl, rfl⟩) (by unfold maxLen; omega) (by omega) (by simp; omega) ?_; intro v' w4 hown4 hgrow hnil; clear hnil; have hB4 := Lib.hid (below_append hB3.out hown3.out hgrow (by simp; omega)); rw [← hrow.out, ← rowsT_snoc] at hown4; replace hown4 := Lib.hid hown4; clear hgrow)
        go_roundw
        case rel => exact ⟨p + m, L, acc ++ [⟨tk.k, tk.t, tk.n, L⟩], rfl, by omega, rfl, by omega, by omega, by simp; omega, hA2, by rw [List.length_append]; exact hown4, hB4⟩
        case measure => simp [intOf]; omega
    · have hE := Lib.hid (hok.out.trans (hA.out.done hlt))
      have hown3 := Lib.hid (hown.out.alloc (.cells #[.int .i64 6, .string ⟨#[]⟩, .int .i64 0, .int .i64 L] 61))
      have hB3 := Lib.hid (hB.out.alloc hBz (.cells #[.int .i64 6, .string ⟨#[]⟩, .int .i64 0, .int .i64 L] 61))
      go_wp2_with (at_builtin; refine wpList_append_own _ rfl _ _ 63 rfl w.heap.size 61 i0 (.agg #[.int .i64 0, .string ⟨#[]⟩, .int .i64 0, .int .i64 0]) 4 40 Tryz.underlying63 hi hz0 hz1 hz2 rfl (by decide) _ acc.length _ rfl hown3.out ⟨wr.heap.size, 0, none⟩ 1 1 [.int .i64 6, .string ⟨#[]⟩, .int .i64 0, .int .i64 L] rfl rfl (World.news_of_block (cs := #[.int .i64 6, .string ⟨#[]⟩, .int .i64 0, .int .i64 L]) (t := 61) (fr := (0, 0)) (Own.new' rfl)) (by simp; exact ⟨rfl, rfl, rfl, rfl⟩) (by unfold maxLen; omega) (by omega) (by simp; omega) ?_; intro v' w4 hown4 hgrow hnil; clear hnil; have hB4 := Lib.hid (below_append hB3.out hown3.out hgrow (by simp; omega)); rw [show [Value.int .i64 6, .string ⟨#[]⟩, .int .i64 0, .int .i64 L] = Tok.row ⟨6, [], 0, L⟩ from rfl, ← rowsT_snoc] at hown4; replace hown4 := Lib.hid hown4; clear hgrow)
      go_ret3
      exact TokPost.good hE.out hB4.out (by rw [List.length_append]; exact hown4.out)

end Go.Proofs.YtfffpflflggonaaGreatDoor.lex

