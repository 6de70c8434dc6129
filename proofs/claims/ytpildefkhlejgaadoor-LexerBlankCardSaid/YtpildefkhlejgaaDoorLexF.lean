/- The tokens of a source text: the lexer's Tokens. -/
import Derived.Test.YtpildefkhlejgaaDoorLexD
import Derived.Test.YtpildefkhlejgaaDoorLexP
import Derived.Laws.AppendOwn
namespace Go.Proofs.YtpildefkhlejgaaDoor.lex
open Go.RowKit Go.Proofs.YtpildefkhlejgaaDoor.text Go.Proofs.YtpildefkhlejgaaDoor.value

/-- A token as it lies in memory. -/
def Tok.row (t : Tok) : List Value := [.int .i64 t.k, .string ⟨t.t.toArray⟩, .int .i64 t.n, .int .i64 t.line]
def rowsT (ts : List Tok) : List Value := (ts.map Tok.row).flatten
theorem rowsT_snoc (acc : List Tok) (t : Tok) : rowsT (acc ++ [t]) = rowsT acc ++ t.row := by simp [rowsT]
theorem infoTok : (Tryd.prog.info? 39).map (fun i => (i.zero, i.size, i.bytes)) = some (some (.agg #[.int .i64 0, .string ⟨#[]⟩, .int .i64 0, .int .i64 0]), 4, 40) := by kernel_rfl
/-- What Tokens gives. -/
def TokPost (l : List UInt8) (w : World) (e : Ending) (w' : World) : Prop :=
  Below w.heap.size w w' ∧ match toksS l with
    | .error (q, L) => e = .returned (.tuple #[.slice none 0 0, .int .i64 L, .int .i64 q])
    | .ok ts => ∃ v, e = .returned (.tuple #[v, .int .i64 0, .int .i64 0]) ∧ w'.ownsRow w.heap.size 39 4 v ts.length (rowsT ts)
theorem TokPost.bad {l : List UInt8} {w w' : World} {q L : Int} (h : toksS l = .error (q, L)) (hb : Below w.heap.size w w') : TokPost l w (.returned (.tuple #[.slice none 0 0, .int .i64 L, .int .i64 q])) w' := by
  unfold TokPost; rw [h]; exact ⟨hb, rfl⟩
theorem TokPost.good {l : List UInt8} {w w' : World} {ts : List Tok} (h : toksS l = .ok ts) (hb : Below w.heap.size w w') {v : Value} (ho : w'.ownsRow w.heap.size 39 4 v ts.length (rowsT ts)) : TokPost l w (.returned (.tuple #[v, .int .i64 0, .int .i64 0])) w' := by
  unfold TokPost; rw [h]; exact ⟨hb, v, rfl, ho⟩
theorem row_of {t : ByteArray} {tk : Tk} (h : t.data.toList = tk.t) (L : Int) : Tok.row ⟨tk.k, tk.t, tk.n, L⟩ = [.int .i64 tk.k, .string t, .int .i64 tk.n, .int .i64 L] := by
  unfold Tok.row
  rw [← h]
theorem owns_below {w u : World} {base : Nat} {v : Value} {n : Nat} {xs : List Value} {e : TypeId} {sz : Nat} (h : w.ownsRow base e sz v n xs) (hb : Below w.heap.size w u) : u.ownsRow base e sz v n xs :=
  h.kept (grown_of_below hb none) (by cases v.ownBlock <;> simp)
theorem below_append {w w2 w3 : World} {base : Nat} {v : Value} {n : Nat} {xs : List Value} {e : TypeId} {sz : Nat} (hB : Below base w w2) (ho : w2.ownsRow base e sz v n xs) (hg : w2.grownBy w3 v.ownBlock) (hb : base ≤ w2.heap.size) : Below base w w3 :=
  hB.grown hg hb (fun k hk => (ho.lt k hk).1)

set_option maxRecDepth 100000 in
set_option maxHeartbeats 8000000 in
theorem tokens_any (s : ByteArray) (w : World) (hs : s.size ≤ 140737488355328) (hT : Tabs w) :
    Calls Tryd.prog 14 #[.string s] w (TokPost s.data.toList w) := by
  by_cases hl : 30000 < s.size
  · have hE := Lib.hid (TokPost.bad (w := w) (w' := w) (toksS_long (s := s.data.toList) (by simpa using hl)) (Below.refl _ _))
    go_enter Tryd.func14, Tryd.ntmps14
    go_wp2
    go_step3
    go_wp2
    try rw [Exit.noGoto_ret]
    go_ret3
    exact hE.out
  have hok := Lib.hid (toksS_ok (s := s.data.toList) (by simpa using hl))
  replace hT := Lib.hid hT
  obtain ⟨i0, hi, hz0, hz1, hz2⟩ := info_parts infoTok
  go_enter Tryd.func14, Tryd.ntmps14
  go_wp2
  go_step3
  go_wp2
  go_step3
  go_wp2
  go_loopw [5, 6, 7] (fun v L i wr => ∃ (p : Nat) (L' : Int) (acc : List Tok), i = .int .i64 p ∧ p ≤ s.size ∧ L = .int .i64 L' ∧ 1 ≤ L' ∧ L' ≤ p + 1 ∧ acc.length ≤ p ∧ Hid (TokAt s.data.toList p L' acc) ∧ Hid (wr.ownsRow w.heap.size 39 4 v acc.length (rowsT acc)) ∧ Hid (Below w.heap.size w wr)) (fun _ _ i _ => s.size - (intOf i).toNat)
  case atStart => exact ⟨0, 1, [], rfl, Nat.zero_le _, rfl, by omega, by omega, Nat.le_refl _, TokAt.start _, World.ownsRow_nil _ _ _ _, Below.refl _ _⟩
  case round =>
    obtain ⟨p, L, acc, rfl, hp, rfl, hL0, hL1, hacc, hA, hown, hB⟩ := hrel
    obtain ⟨va, vc, rfl⟩ := owns_slice hown.out
    have hBz := hB.out.size
    by_cases hlt : p < s.size
    · by_cases h10 : s[p].toNat = 10
      · have hN := Lib.hid (hA.out.nl hlt h10)
        have q10 := eq_yes (show (s[p].toNat : Int) = 10 by omega)
        clear h10 hA
        go_wp2
        go_roundw
        case rel => exact ⟨p + 1, L + 1, acc, by go_num, by omega, rfl, by omega, by omega, by omega, hN.out, hown.out, hB.out⟩
        case measure => simp [intOf]; omega
      have q10 := eq_no (show (s[p].toNat : Int) ≠ 10 by omega)
      by_cases h32 : s[p].toNat = 32
      · have hN := Lib.hid (hA.out.sp hlt (Or.inl h32))
        have q32 := eq_yes (show (s[p].toNat : Int) = 32 by omega)
        clear h10 h32 hA
        go_wp2
        go_roundw
        case rel => exact ⟨p + 1, L, acc, by go_num, by omega, rfl, by omega, by omega, by omega, hN.out, hown.out, hB.out⟩
        case measure => simp [intOf]; omega
      have q32 := eq_no (show (s[p].toNat : Int) ≠ 32 by omega)
      by_cases h9 : s[p].toNat = 9
      · have hN := Lib.hid (hA.out.sp hlt (Or.inr h9))
        have q9 := eq_yes (show (s[p].toNat : Int) = 9 by omega)
        clear h10 h32 h9 hA
        go_wp2
        go_roundw
        case rel => exact ⟨p + 1, L, acc, by go_num, by omega, rfl, by omega, by omega, by omega, hN.out, hown.out, hB.out⟩
        case measure => simp [intOf]; omega
      have q9 := eq_no (show (s[p].toNat : Int) ≠ 9 by omega)
      by_cases h35 : s[p].toNat = 35
      · have hN := Lib.hid (hA.out.hash hlt h35)
        have hm1 := spanN_le lineB (s.data.toList.drop p)
        have hm2 : 1 ≤ spanN lineB (s.data.toList.drop p) := by rw [drop_byte s p hlt, span_hash h35]; omega
        have q35 := eq_yes (show (s[p].toNat : Int) = 35 by omega)
        clear h10 h32 h9 h35 hA
        go_wp2_with fail
        refine (span_line (s.extract p s.size) _ (by unfold maxLen; simp; omega)).mono ?_
        rintro e w1 ⟨rfl, rfl⟩
        rw [Lib.extract_to_end]
        generalize spanN lineB (s.data.toList.drop p) = m at hN hm1 hm2 ⊢
        have hm3 : p + m ≤ s.size := by simp at hm1; omega
        clear hm1
        go_wp2
        go_roundw
        case rel => exact ⟨p + m, L, acc, by go_num, by omega, rfl, by omega, by omega, by omega, hN.out, hown.out, hB.out⟩
        case measure => simp [intOf]; omega
      have q35 := eq_no (show (s[p].toNat : Int) ≠ 35 by omega)
      have hK := Lib.hid (show tokB s[p] from ⟨h10, h32, h9, h35⟩)
      clear h10 h32 h9 h35
      go_wp2_with fail
      refine (next_any (s.extract p s.size) _ (by simp; omega) (by simp; omega) (hT.out.below hB.out)).mono ?_
      rintro e w2 ⟨k, t, x, n, err, rfl, hN, hb2⟩
      rw [Lib.extract_to_end] at hN
      have hB2 := Lib.hid (hB.out.trans (hb2.mono hBz))
      have hown2 := Lib.hid (owns_below hown.out hb2)
      have hBz2 := hB2.out.size
      clear hb2 hown hB
      unfold NextIs at hN
      cases hx : nextS (s.data.toList.drop p) with
      | error q =>
        rw [hx] at hN
        obtain ⟨rfl, hq⟩ := hN
        have hE := Lib.hid (TokPost.bad (w := w) (w' := w2.alloc (.cells #[.int .i64 k, .string t, .int .i64 x, .int .i64 0] 39)) (hok.out.trans (hA.out.err hlt hK.out hx)) (hB2.out.alloc hBz2 _))
        have qe := ne_yes hq
        clear hx hA hK hq
        go_wp2
        try rw [Exit.noGoto_ret]
        go_ret3
        exact hE.out
      | ok v =>
        obtain ⟨tk, m⟩ := v
        rw [hx] at hN
        obtain ⟨rfl, rfl, ht, rfl, hn⟩ := hN
        have hm := nextS_pos hx
        rw [List.length_drop] at hm
        have hm2 : p + m ≤ s.size := by have := hm.2; simp at this; omega
        have hm1 := hm.1
        have hA2 := Lib.hid (hA.out.tok hlt hK.out hx)
        have hrow := Lib.hid (row_of ht L)
        obtain rfl : n = (m : Int) := by omega
        clear hx hA hK ht hm hn
        have hown3 := Lib.hid ((hown2.out.alloc (.cells #[.int .i64 tk.k, .string t, .int .i64 tk.n, .int .i64 L] 39)).alloc (.cells #[.int .i64 tk.k, .string t, .int .i64 tk.n, .int .i64 L] 39))
        have hB3 := Lib.hid ((hB2.out.alloc hBz2 (.cells #[.int .i64 tk.k, .string t, .int .i64 tk.n, .int .i64 L] 39)).alloc (by simp; omega) (.cells #[.int .i64 tk.k, .string t, .int .i64 tk.n, .int .i64 L] 39))
        go_wp2_with (at_builtin; refine wpList_append_own _ rfl _ _ 28 rfl w.heap.size 39 i0 (.agg #[.int .i64 0, .string ⟨#[]⟩, .int .i64 0, .int .i64 0]) 4 40 Tryd.underlying28 hi hz0 hz1 hz2 rfl (by decide) _ acc.length _ rfl hown3.out ⟨w2.heap.size + 1, 0, none⟩ 1 1 [.int .i64 tk.k, .string t, .int .i64 tk.n, .int .i64 L] rfl rfl (World.news_of_block (cs := #[.int .i64 tk.k, .string t, .int .i64 tk.n, .int .i64 L]) (t := 39) (fr := (0, 0)) (Own.new' (by simp))) (by simp; exact ⟨rfl, rfl, rfl, rfl⟩) (by unfold maxLen; omega) (by omega) (by simp; omega) ?_; intro v' w4 hown4 hgrow hnil; clear hnil; have hB4 := Lib.hid (below_append hB3.out hown3.out hgrow (by simp; omega)); rw [← hrow.out, ← rowsT_snoc] at hown4; replace hown4 := Lib.hid hown4; clear hgrow)
        go_roundw
        case rel => exact ⟨p + m, L, acc ++ [⟨tk.k, tk.t, tk.n, L⟩], by go_num, by omega, rfl, by omega, by omega, by simp; omega, hA2, by rw [List.length_append]; exact hown4, hB4⟩
        case measure => simp [intOf]; omega
    · have hE := Lib.hid (hok.out.trans (hA.out.done hlt))
      have hown3 := Lib.hid (hown.out.alloc (.cells #[.int .i64 6, .string ⟨#[]⟩, .int .i64 0, .int .i64 L] 39))
      have hB3 := Lib.hid (hB.out.alloc hBz (.cells #[.int .i64 6, .string ⟨#[]⟩, .int .i64 0, .int .i64 L] 39))
      go_wp2_with (at_builtin; refine wpList_append_own _ rfl _ _ 28 rfl w.heap.size 39 i0 (.agg #[.int .i64 0, .string ⟨#[]⟩, .int .i64 0, .int .i64 0]) 4 40 Tryd.underlying28 hi hz0 hz1 hz2 rfl (by decide) _ acc.length _ rfl hown3.out ⟨wr.heap.size, 0, none⟩ 1 1 [.int .i64 6, .string ⟨#[]⟩, .int .i64 0, .int .i64 L] rfl rfl (World.news_of_block (cs := #[.int .i64 6, .string ⟨#[]⟩, .int .i64 0, .int .i64 L]) (t := 39) (fr := (0, 0)) (Own.new' rfl)) (by simp; exact ⟨rfl, rfl, rfl, rfl⟩) (by unfold maxLen; omega) (by omega) (by simp; omega) ?_; intro v' w4 hown4 hgrow hnil; clear hnil; have hB4 := Lib.hid (below_append hB3.out hown3.out hgrow (by simp; omega)); rw [show [Value.int .i64 6, .string ⟨#[]⟩, .int .i64 0, .int .i64 L] = Tok.row ⟨6, [], 0, L⟩ from rfl, ← rowsT_snoc] at hown4; replace hown4 := Lib.hid hown4; clear hgrow)
      go_ret3
      exact TokPost.good hE.out hB4.out (by rw [List.length_append]; exact hown4.out)

end Go.Proofs.YtpildefkhlejgaaDoor.lex
