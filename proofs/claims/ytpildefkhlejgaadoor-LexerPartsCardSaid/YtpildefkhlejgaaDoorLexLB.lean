/- The law LexerParts: the walk. -/
import Derived.Test.YtpildefkhlejgaaDoorLexLA
import Derived.IntWalk
namespace Go.Proofs.YtpildefkhlejgaaDoor.lex
open Go.RowKit Go.Proofs.YtpildefkhlejgaaDoor.text Go.Proofs.YtpildefkhlejgaaDoor.value Go.Proofs.YtpildefkhlejgaaDoor.draw

theorem tokF_ne : ∀ (f : Nat) (l : List UInt8) (L : Int) (ts : List Tok), tokF f l L = .ok ts → ts ≠ []
  | 0, l, L, ts, h => by injection h with h; rw [← h]; simp
  | f + 1, [], L, ts, h => by injection h with h; rw [← h]; simp
  | f + 1, c :: r, L, ts, h => by
    rw [tokF_cons] at h
    split at h
    · exact tokF_ne f _ _ _ h
    · split at h
      · exact tokF_ne f _ _ _ h
      · split at h
        · exact tokF_ne f _ _ _ h
        · cases hx : nextS (c :: r) with
          | error e => rw [hx] at h; cases h
          | ok v =>
            obtain ⟨t, n⟩ := v
            rw [hx] at h
            simp only at h
            cases hy : tokF f ((c :: r).drop n) L with
            | error p => rw [hy] at h; cases h
            | ok ts0 => rw [hy] at h; injection h with h; rw [← h]; simp
theorem toksS_ne {l : List UInt8} {ts : List Tok} (h : toksS l = .ok ts) : ts ≠ [] := by
  unfold toksS at h
  split at h
  · cases h
  · exact tokF_ne _ _ _ _ h
theorem toks_in {w : World} {base : Nat} {v : Value} {ts : List Tok} (h : w.ownsRow base 39 4 v ts.length (rowsT ts)) (hne : ts ≠ []) :
    ∃ g c, v = .slice (some ⟨g, 0, none⟩) ts.length c ∧ TokRows w g 0 ts ∧ ts.length ≤ 9223372036854775807 := by
  rcases toks_at h with ⟨h0, _⟩ | ⟨g, c, h1, h2, _, h3⟩
  · exact absurd h0 hne
  · exact ⟨g, c, h1, h2, h3⟩
theorem toks_in' {w : World} {base : Nat} {v : Value} {ts : List Tok} (h : w.ownsRow base 39 4 v ts.length (rowsT ts)) (hne : ts ≠ []) :
    ∃ g c N, N = ts.length ∧ v = .slice (some ⟨g, 0, none⟩) N c ∧ TokRows w g 0 ts ∧ N ≤ 9223372036854775807 := by
  obtain ⟨g, c, h1, h2, h3⟩ := toks_in h hne
  exact ⟨g, c, _, rfl, h1, h2, h3⟩
theorem tok_some {l : List UInt8} {w w' : World} {e : Ending} (h : TokPost l w e w') : ∃ v n f, e = .returned (.tuple #[v, .int .i64 n, .int .i64 f]) ∧ Below w.heap.size w w' := by
  obtain ⟨hb, h⟩ := h
  cases hx : toksS l with
  | error p => obtain ⟨q, L⟩ := p; rw [hx] at h; exact ⟨_, _, _, h, hb⟩
  | ok ts => rw [hx] at h; obtain ⟨v, h1, _⟩ := h; exact ⟨_, _, _, h1, hb⟩
theorem z_right {w : World} {g : Nat} {x0 y : List Tok} {D : Int} (h : TokRows w g 0 (x0 ++ y.map (Tok.later D))) {j q : Nat} (hq : q < y.length) (hj : j = x0.length + q) :
    w.cell? ⟨g, 0 + j * 4, none⟩ = some (.int .i64 y[q].k) ∧ w.cell? ⟨g, 0 + j * 4 + 1, none⟩ = some (.string ⟨y[q].t.toArray⟩) ∧ w.cell? ⟨g, 0 + j * 4 + 2, none⟩ = some (.int .i64 y[q].n) ∧ w.cell? ⟨g, 0 + j * 4 + 3, none⟩ = some (.int .i64 (y[q].line + D)) := by
  have h1 := h j (by rw [List.length_append, List.length_map]; omega)
  have e : (x0 ++ y.map (Tok.later D))[j]'(by rw [List.length_append, List.length_map]; omega) = Tok.later D y[q] := by
    rw [List.getElem_append_right (by omega), List.getElem_map]
    congr 2
    omega
  rw [e] at h1
  exact h1

/-- What is known where a token of the second text is compared. -/
def SecAt (w8 : World) (g2 g3 q j : Nat) (y0 : Int) (y1 : ByteArray) (y2 y3 D : Int) (w : World) : Prop :=
  (w.cell? ⟨g2, q * 4, none⟩ = some (.int .i64 y0) ∧ w.cell? ⟨g2, q * 4 + 1, none⟩ = some (.string y1) ∧ w.cell? ⟨g2, q * 4 + 2, none⟩ = some (.int .i64 y2) ∧ w.cell? ⟨g2, q * 4 + 3, none⟩ = some (.int .i64 y3)) ∧
  (w.cell? ⟨g3, j * 4, none⟩ = some (.int .i64 y0) ∧ w.cell? ⟨g3, j * 4 + 1, none⟩ = some (.string y1) ∧ w.cell? ⟨g3, j * 4 + 2, none⟩ = some (.int .i64 y2) ∧ w.cell? ⟨g3, j * 4 + 3, none⟩ = some (.int .i64 (y3 + D))) ∧ Below w8.heap.size w8 w
/-- The lines of a text, counted. -/
def CountAt (s : ByteArray) (k : Nat) (z : Int) : Prop := z = 1 + (nls (s.data.toList.take k) : Int)
theorem joined (S T : ByteArray) : (S ++ ⟨#[10]⟩ ++ T).data.toList = S.data.toList ++ 10 :: T.data.toList := by simp [ByteArray.data_append]

theorem append_size2 (S T : ByteArray) : (S ++ ⟨#[10]⟩ ++ T).size = S.size + 1 + T.size := by
  rw [ByteArray.size_append, ByteArray.size_append]; rfl

set_option maxRecDepth 100000 in
set_option maxHeartbeats 1000000 in
theorem lexParts_walk (a a' : Option Addr) (n c n' c' : Nat) (w : World) (hC : BytesAt w.cell? a n c) (hC' : BytesAt w.cell? a' n' c') (hT : Tabs w) (hP : Pieces w.cell?) :
    Calls Tryd.prog 6 #[.slice a n c, .slice a' n' c'] w fun e w' => e = .returned (.bool true) ∧ Below w.heap.size w w' := by
  replace hT := Lib.hid hT
  replace hP := Lib.hid hP
  replace hC := Lib.hid hC
  replace hC' := Lib.hid hC'
  go_enter Tryd.func6, Tryd.ntmps6
  go_wp2_with fail
  refine (lex.awake_any _ hT.out).mono ?_
  rintro e w1 ⟨rfl, hb1⟩
  replace hb1 := Lib.hid hb1
  go_wp2_with fail
  refine (new_most a n c 20 _ (by omega) (by omega) (hC.out.mono (sub_of_below hb1.out))).mono ?_
  rintro e w2 ⟨rfl, ⟨ca, cn, cc, hcn, hCo⟩, hb2⟩
  have hB2 := Lib.hid (hb1.out.trans (hb2.mono hb1.out.size))
  have hbl := Lib.hid hb1.out.size
  replace hCo := Lib.hid hCo
  generalize w1.heap.size = b at hCo hbl ⊢
  clear hb2 hb1
  go_wp2_with fail
  refine (source_any b ca cn cc _ hCo.out (pieces_at hP.out hbl.out hB2.out)).mono ?_
  rintro e w3 ⟨S, rfl, ⟨_, hs1⟩, hg3⟩
  have hB3 := Lib.hid (src_below hB2.out hbl.out hg3)
  have hSz : S.size ≤ 600 := by omega
  clear hg3 hCo hB2 hs1 hcn
  go_wp2_with fail
  refine (new_most a' n' c' 20 _ (by omega) (by omega) (hC'.out.mono (sub_of_below hB3.out))).mono ?_
  rintro e w4 ⟨rfl, ⟨ca, cn, cc, hcn, hCo⟩, hb4⟩
  have hB4 := Lib.hid (hB3.out.trans (hb4.mono hB3.out.size))
  have hbl2 := Lib.hid hB3.out.size
  replace hCo := Lib.hid hCo
  generalize w3.heap.size = b2 at hCo hbl2 ⊢
  clear hb4 hB3
  go_wp2_with fail
  refine (source_any b2 ca cn cc _ hCo.out (pieces_at hP.out hbl2.out hB4.out)).mono ?_
  rintro e w5 ⟨T, rfl, ⟨_, hs2⟩, hg5⟩
  have hB5 := Lib.hid (src_below hB4.out hbl2.out hg5)
  have hTz : T.size ≤ 600 := by omega
  clear hg5 hCo hB4 hs2 hcn hbl hbl2
  have hT5 := Lib.hid (hT.out.below hB5.out)
  obtain ⟨Z, hZ⟩ : ∃ Z : ByteArray, Hid (Z = S ++ ⟨#[10]⟩ ++ T) := ⟨_, rfl⟩
  have hJ := Lib.hid (show Z.data.toList = S.data.toList ++ 10 :: T.data.toList by rw [hZ.out]; exact joined S T)
  have hJz : Z.size ≤ 2000 := by rw [hZ.out, append_size2]; omega
  obtain ⟨D, hD⟩ : ∃ D : Int, Hid (D = 1 + (nls S.data.toList : Int)) := ⟨_, rfl⟩
  have hD0 : 1 ≤ D := by rw [hD.out]; omega
  have hD1 : D ≤ 700 := by rw [hD.out]; have := nls_le S.data.toList; simp at this; omega
  have hways := two_ways S.data.toList T.data.toList (by simp; omega) (by simp; omega)
  rcases hways with ⟨q, L, L', hs, hq, hz⟩ | ⟨x0, q, M, hs, ht, hq, hM, hz⟩ | ⟨x0, y, hs, ht, hy, hz⟩
  · -- the first text is refused
    replace hs := Lib.hid hs
    replace hz := Lib.hid hz
    go_wp2_with fail
    refine (tokens_any S _ (by omega) hT5.out).mono ?_
    rintro e w6 h6
    obtain ⟨rfl, hb6⟩ := tok_err h6 hs.out
    have hB6 := Lib.hid (hB5.out.trans (hb6.mono hB5.out.size))
    clear h6 hb6
    go_wp2_with fail
    refine (tokens_any T _ (by omega) (hT.out.below hB6.out)).mono ?_
    rintro e w7 h7
    obtain ⟨v7, n7, f7, rfl, hb7⟩ := tok_some h7
    have hB7 := Lib.hid (hB6.out.trans (hb7.mono hB6.out.size))
    clear h7 hb7
    go_wp2_with fail
    rw [← hZ.out]
    refine (tokens_any Z _ (by omega) (hT.out.below hB7.out)).mono ?_
    rintro e w8 h8
    rw [hJ.out] at h8
    obtain ⟨rfl, hb8⟩ := tok_err h8 hz.out
    have hB8 := Lib.hid (hB7.out.trans (hb8.mono hB7.out.size))
    clear h8 hb8
    go_wp2
    go_ret
    exact ⟨rfl, hB8.out⟩
  · -- the second one is
    replace hs := Lib.hid hs
    replace ht := Lib.hid ht
    replace hz := Lib.hid hz
    obtain ⟨hM0, hM1⟩ := hM
    go_wp2_with fail
    refine (tokens_any S _ (by omega) hT5.out).mono ?_
    rintro e w6 h6
    obtain ⟨v6, rfl, ho6, hb6⟩ := tok_ok h6 hs.out
    obtain ⟨g6, c6, rfl, -, -⟩ := toks_in ho6 (by simp)
    have hB6 := Lib.hid (hB5.out.trans (hb6.mono hB5.out.size))
    clear h6 hb6 ho6
    go_wp2_with fail
    refine (tokens_any T _ (by omega) (hT.out.below hB6.out)).mono ?_
    rintro e w7 h7
    obtain ⟨rfl, hb7⟩ := tok_err h7 ht.out
    have hB7 := Lib.hid (hB6.out.trans (hb7.mono hB6.out.size))
    clear h7 hb7
    go_wp2_with fail
    rw [← hZ.out]
    refine (tokens_any Z _ (by omega) (hT.out.below hB7.out)).mono ?_
    rintro e w8 h8
    rw [hJ.out] at h8
    obtain ⟨rfl, hb8⟩ := tok_err h8 hz.out
    have hB8 := Lib.hid (hB7.out.trans (hb8.mono hB7.out.size))
    rw [← hD.out]
    clear h8 hb8
    go_wp2
    go_loop [16, 17] (fun l i => ∃ (k : Nat) (z : Int), i = .int .i64 k ∧ k ≤ S.size ∧ l = .int .i64 z ∧ 1 ≤ z ∧ z ≤ k + 1 ∧ Hid (CountAt S k z)) (fun _ i => S.size - (intOf i).toNat)
    case atStart => exact ⟨0, 1, rfl, Nat.zero_le _, rfl, by omega, by omega, by show _ = _; simp [nls]⟩
    case round =>
      obtain ⟨k, z, rfl, hk, rfl, hz0, hz1, hCt⟩ := hrel
      by_cases hlt : k < S.size
      · have hst := nls_step hlt
        by_cases h10 : S[k].toNat = 10
        · have hN := Lib.hid (show CountAt S (k + 1) (z + 1) by unfold CountAt; rw [hst, if_pos h10]; have := hCt.out; unfold CountAt at this; omega)
          have q10 := eq_yes (show (S[k].toNat : Int) = 10 by omega)
          clear h10 hst hCt
          go_wp2
          go_round
          case rel => exact ⟨k + 1, z + 1, by go_num, by omega, rfl, by omega, by omega, hN.out⟩
          case measure => simp [intOf]; omega
        · have hN := Lib.hid (show CountAt S (k + 1) z by unfold CountAt; rw [hst, if_neg h10]; have := hCt.out; unfold CountAt at this; omega)
          have q10 := eq_no (show (S[k].toNat : Int) ≠ 10 by omega)
          clear h10 hst hCt
          go_wp2
          go_round
          case rel => exact ⟨k + 1, z, by go_num, by omega, rfl, by omega, by omega, hN.out⟩
          case measure => simp [intOf]; omega
      · obtain rfl : D = z := by
          have h1 := hCt.out
          unfold CountAt at h1
          rw [h1, hD.out, List.take_of_length_le (by simp; omega)]
        clear hCt
        go_wp2
        go_ret
        exact ⟨rfl, hB8.out⟩
  · -- both are read
    replace hs := Lib.hid hs
    replace ht := Lib.hid ht
    replace hz := Lib.hid hz
    replace hy := Lib.hid hy
    obtain ⟨n0, hn0⟩ : ∃ n0, Hid (n0 = x0.length) := ⟨_, rfl⟩
    go_wp2_with fail
    refine (tokens_any S _ (by omega) hT5.out).mono ?_
    rintro e w6 h6
    obtain ⟨v6, rfl, ho6, hb6⟩ := tok_ok h6 hs.out
    obtain ⟨g1, c1, X, hX, rfl, hr1, hX2⟩ := toks_in' ho6 (by simp)
    have hX1 : X ≤ n0 + 1 ∧ n0 + 1 ≤ X := by rw [hX, hn0.out]; simp
    replace hr1 := Lib.hid hr1
    have hB6 := Lib.hid (hB5.out.trans (hb6.mono hB5.out.size))
    clear h6 hb6 ho6 hX
    go_wp2_with fail
    refine (tokens_any T _ (by omega) (hT.out.below hB6.out)).mono ?_
    rintro e w7 h7
    obtain ⟨v7, rfl, ho7, hb7⟩ := tok_ok h7 ht.out
    obtain ⟨g2, c2, Y, hY, rfl, hr2, hY2⟩ := toks_in' ho7 (toksS_ne ht.out)
    replace hr1 := Lib.hid (hr1.out.below hb7)
    replace hr2 := Lib.hid hr2
    replace hY := Lib.hid hY
    have hB7 := Lib.hid (hB6.out.trans (hb7.mono hB6.out.size))
    clear h7 hb7 ho7
    go_wp2_with fail
    rw [← hZ.out]
    refine (tokens_any Z _ (by omega) (hT.out.below hB7.out)).mono ?_
    rintro e w8 h8
    rw [hJ.out] at h8
    obtain ⟨v8, rfl, ho8, hb8⟩ := tok_ok h8 hz.out
    obtain ⟨g3, c3, N, hN, rfl, hr3, hN2⟩ := toks_in' ho8 (toksS_ne hz.out)
    have hN1 : N ≤ n0 + Y ∧ n0 + Y ≤ N := by rw [hN, hn0.out, hY.out]; simp
    replace hr1 := Lib.hid (hr1.out.below hb8)
    replace hr2 := Lib.hid (hr2.out.below hb8)
    rw [← hD.out] at hr3
    replace hr3 := Lib.hid hr3
    have hB8 := Lib.hid (hB7.out.trans (hb8.mono hB7.out.size))
    clear h8 hb8 ho8 hN
    have qX := eq_no (show (X : Int) ≠ 0 by omega)
    have qN := ne_no (show (N : Int) = (X : Int) - 1 + (Y : Int) by omega)
    go_wp2
    go_loop [16, 17] (fun l i => ∃ (k : Nat) (z : Int), i = .int .i64 k ∧ k ≤ S.size ∧ l = .int .i64 z ∧ 1 ≤ z ∧ z ≤ k + 1 ∧ Hid (CountAt S k z)) (fun _ i => S.size - (intOf i).toNat)
    case atStart => exact ⟨0, 1, rfl, Nat.zero_le _, rfl, by omega, by omega, by show _ = _; simp [nls]⟩
    case round =>
      obtain ⟨k, z, rfl, hk, rfl, hz0, hz1, hCt⟩ := hrel
      by_cases hlt : k < S.size
      · have hst := nls_step hlt
        by_cases h10 : S[k].toNat = 10
        · have hN := Lib.hid (show CountAt S (k + 1) (z + 1) by unfold CountAt; rw [hst, if_pos h10]; have := hCt.out; unfold CountAt at this; omega)
          have q10 := eq_yes (show (S[k].toNat : Int) = 10 by omega)
          clear h10 hst hCt
          go_wp2
          go_round
          case rel => exact ⟨k + 1, z + 1, by go_num, by omega, rfl, by omega, by omega, hN.out⟩
          case measure => simp [intOf]; omega
        · have hN := Lib.hid (show CountAt S (k + 1) z by unfold CountAt; rw [hst, if_neg h10]; have := hCt.out; unfold CountAt at this; omega)
          have q10 := eq_no (show (S[k].toNat : Int) ≠ 10 by omega)
          clear h10 hst hCt
          go_wp2
          go_round
          case rel => exact ⟨k + 1, z, by go_num, by omega, rfl, by omega, by omega, hN.out⟩
          case measure => simp [intOf]; omega
      · obtain rfl : D = z := by
          have h1 := hCt.out
          unfold CountAt at h1
          rw [h1, hD.out, List.take_of_length_le (by simp; omega)]
        clear hCt
        go_wp2
        obtain ⟨wo, hwo⟩ : ∃ wo : World, wo = w8 := ⟨_, rfl⟩
        go_loopw [18] (fun i wr => ∃ j : Nat, i = .int .i64 j ∧ j ≤ N ∧ Hid (Below w8.heap.size w8 wr)) (fun i _ => N - (intOf i).toNat)
        case atStart => exact ⟨0, rfl, Nat.zero_le _, Below.refl _ _⟩
        case round =>
          obtain ⟨j, rfl, hj, hB⟩ := hrel
          by_cases hlj : j < N
          · have n1 : (0 : Int) ≤ (j : Int) := Int.natCast_nonneg _
            have n2 : (j : Int) < (N : Int) := by omega
            by_cases hjn : j < n0
            · have hjx : j < x0.length := by rw [← hn0.out]; exact hjn
              obtain ⟨x0', x1', x2', x3'⟩ := (hr1.out.below hB.out).left j hjx
              obtain ⟨z0', z1', z2', z3'⟩ := (hr3.out.below hB.out).left j hjx
              simp only [Nat.zero_add] at x0' x1' x2' x3' z0' z1' z2' z3'
              generalize x0[j].k = y0 at x0' z0'
              generalize (⟨x0[j].t.toArray⟩ : ByteArray) = y1 at x1' z1'
              generalize x0[j].n = y2 at x2' z2'
              generalize x0[j].line = y3 at x3' z3'
              have n3 : (j : Int) < (X : Int) := by omega
              have n4 : (j : Int) < (X : Int) - 1 := by omega
              have hd : decide ((j : Int) < (X : Int) - 1) = true := decide_eq_true n4
              have hk1 : (j : Int) - (X : Int) + 1 < 0 := by omega
              clear hjx
              have hw : IntKind.i64.wrap ((X : Int) - 1) = (X : Int) - 1 := IntWalk.i64_in _ (by omega)
              go_wp2_with fail
              go_quiet (fail)
              clear hw
              go_wp2
              go_roundw
              case rel => exact ⟨j + 1, by go_num, by omega, bel_drew hB.out _⟩
              case measure => simp [intOf]; omega
            · obtain ⟨q, hq⟩ : ∃ q : Nat, j = n0 + q := ⟨j - n0, by omega⟩
              have hqy : q < y.length := by rw [← hY.out]; omega
              have hq2 : q < Y := by omega
              obtain ⟨y0', y1', y2', y3'⟩ := (hr2.out.below hB.out) q hqy
              obtain ⟨z0', z1', z2', z3'⟩ := z_right (j := j) (hr3.out.below hB.out) hqy (by have := hn0.out; omega)
              simp only [Nat.zero_add] at y0' y1' y2' y3' z0' z1' z2' z3'
              have hyl := hy.out y[q] (List.getElem_mem _)
              generalize y[q].k = y0 at y0' z0'
              generalize (⟨y[q].t.toArray⟩ : ByteArray) = y1 at y1' z1'
              generalize y[q].n = y2 at y2' z2'
              generalize y[q].line = y3 at y3' z3' hyl
              obtain ⟨hy0, hy1⟩ := hyl
              have n3 : (q : Int) < (Y : Int) := by omega
              have n4 : (0 : Int) ≤ (q : Int) := Int.natCast_nonneg _
              have hd : decide ((j : Int) < (X : Int) - 1) = false := decide_eq_false (by omega)
              have hqe : (j : Int) - (X : Int) + 1 = (q : Int) := by omega
              replace hq := Lib.hid hq
              clear hqy
              have hw : IntKind.i64.wrap ((X : Int) - 1) = (X : Int) - 1 := IntWalk.i64_in _ (by omega)
              have hK := Lib.hid (fun nq : Nat => (show SecAt w8 g2 g3 q j y0 y1 y2 y3 D (wr.drewN nq) from ⟨⟨y0', y1', y2', y3'⟩, ⟨z0', z1', z2', z3'⟩, bel_drew hB.out nq⟩))
              go_wp2_with fail
              go_quiet (fail)
              clear hw y0' y1' y2' y3' z0' z1' z2' z3'
              generalize hw9 : World.drewN wr _ = w9
              have hK9 : SecAt w8 g2 g3 q j y0 y1 y2 y3 D w9 := hw9 ▸ hK.out _
              clear hw9 hK
              obtain ⟨⟨y0', y1', y2', y3'⟩, ⟨z0', z1', z2', z3'⟩, hB9⟩ := hK9
              have hg3 : g3 < w9.heap.size := World.block_lt_of_cell? w9 _ z0'
              replace hB9 := Lib.hid hB9
              have hBz := hB9.out.size
              go_wp2
              go_quiet (fail)
              go_wp2
              go_roundw
              case rel => exact ⟨j + 1, by go_num, by omega, bel_drew (hB9.out.alloc hBz _) _⟩
              case measure => simp [intOf]; omega
          · go_wp2
            go_ret
            exact ⟨rfl, hB8.out.trans (hB.out.mono hB8.out.size)⟩

end Go.Proofs.YtpildefkhlejgaaDoor.lex
