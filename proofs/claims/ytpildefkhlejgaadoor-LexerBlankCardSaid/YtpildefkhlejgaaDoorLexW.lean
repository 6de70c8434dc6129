/- The law LexerBlank: spaces and comments between tokens change nothing, and line feeds only the lines. -/
import Derived.Test.YtpildefkhlejgaaDoorLexU
import Derived.Test.YtpildefkhlejgaaDoorLexV
namespace Go.Proofs.YtpildefkhlejgaaDoor.lex
open Go.RowKit Go.Proofs.YtpildefkhlejgaaDoor.text Go.Proofs.YtpildefkhlejgaaDoor.value Go.Proofs.YtpildefkhlejgaaDoor.draw

theorem toks_in' {w : World} {base : Nat} {v : Value} {ts : List Tok} (h : w.ownsRow base 39 4 v ts.length (rowsT ts)) (hne : ts ≠ []) :
    ∃ g c N, N = ts.length ∧ v = .slice (some ⟨g, 0, none⟩) N c ∧ TokRows w g 0 ts ∧ N ≤ 9223372036854775807 := by
  rcases toks_at h with ⟨h0, _⟩ | ⟨g, c, h1, h2, _, h3⟩
  · exact absurd h0 hne
  · exact ⟨g, c, _, rfl, h1, h2, h3⟩
theorem cell_set_other {w : World} {p q : Addr} (h : q.block ≠ p.block) (v : Value) : (w.setCell p v).cell? q = w.cell? q := World.cell?_of_block (Below.heap_setCell w p v _ h)
theorem TokRows.setOther {w : World} {g o g2 i : Nat} {ts : List Tok} (h : TokRows w g o ts) (hg : g ≠ g2) (v : Value) : TokRows (w.setCell ⟨g2, i, none⟩ v) g o ts := by
  intro k hk
  obtain ⟨h0, h1, h2, h3⟩ := h k hk
  exact ⟨(cell_set_other hg v).trans h0, (cell_set_other hg v).trans h1, (cell_set_other hg v).trans h2, (cell_set_other hg v).trans h3⟩
theorem same_at {ts ts' : List Tok} (h : ts.map (fun t => (t.k, t.t, t.n)) = ts'.map (fun t => (t.k, t.t, t.n))) {j : Nat} (h1 : j < ts.length) (h2 : j < ts'.length) : ts[j].k = ts'[j].k ∧ ts[j].t = ts'[j].t ∧ ts[j].n = ts'[j].n := by
  have := congrArg (fun l : List (Int × List UInt8 × Int) => l[j]?) h
  simp [h1, h2] at this
  exact this
def seps2 : Array Value := #[.string ⟨#[32]⟩, .string ⟨#[9, 32]⟩, .string ⟨#[32, 35, 120, 34, 10]⟩, .string ⟨#[10, 10]⟩]
theorem seps2_at (j : Nat) (h : j < 4) : ∃ q : ByteArray, seps2[j]? = some (.string q) ∧ q.size ≤ 5 ∧ BlankDoes q.data.toList := by
  rcases (show j = 0 ∨ j = 1 ∨ j = 2 ∨ j = 3 by omega) with rfl | rfl | rfl | rfl
  · exact ⟨_, rfl, by decide, blank_0⟩
  · exact ⟨_, rfl, by decide, blank_1⟩
  · exact ⟨_, rfl, by decide, blank_2⟩
  · exact ⟨_, rfl, by decide, blank_3⟩
/-- What a piece is, ahead of the two tests on it. -/
theorem piece_ways {p : ByteArray} {j : Nat} (h : j < piecesL.length) (hp : p = ⟨piecesL[j].toArray⟩) :
    ((p.toList == [35, 99]) = true) ∨ ((p.toList == [35, 99]) = false ∧ (p.toList == [34, 111, 112, 101, 110]) = true) ∨
    ((p.toList == [35, 99]) = false ∧ (p.toList == [34, 111, 112, 101, 110]) = false ∧ Hid (PieceDoes p.data.toList)) := by
  have e : p.toList = piecesL[j] := by rw [ByteArray.toList_eq, hp]
  rw [e]
  by_cases h1 : piecesL[j] = [35, 99]
  · exact Or.inl (by rw [h1]; rfl)
  · by_cases h2 : piecesL[j] = [34, 111, 112, 101, 110]
    · exact Or.inr (Or.inl ⟨beq_eq_false_iff_ne.2 h1, by rw [h2]; rfl⟩)
    · refine Or.inr (Or.inr ⟨beq_eq_false_iff_ne.2 h1, beq_eq_false_iff_ne.2 h2, ?_⟩)
      have : p.data.toList = piecesL[j] := by rw [hp]
      rw [this]
      exact pieces_do j h h1 h2
theorem piece_size {p : ByteArray} {j : Nat} (h : j < piecesL.length) (hp : p = ⟨piecesL[j].toArray⟩) : p.size ≤ 20 := by
  have h1 : ∀ l ∈ piecesL, l.length ≤ 20 := by decide
  have := h1 _ (List.getElem_mem h)
  rw [hp]
  show (piecesL[j].toArray).size ≤ 20
  simpa using this

set_option maxRecDepth 100000 in
set_option maxHeartbeats 2000000 in
theorem lexBlank_walk (a a' : Option Addr) (n c n' c' : Nat) (w : World) (hC : BytesAt w.cell? a n c) (hC' : BytesAt w.cell? a' n' c') (hT : Tabs w) (hP : PiecesX w.cell?) :
    Calls Tryd.prog 5 #[.slice a n c, .slice a' n' c'] w fun e w' => e = .returned (.bool true) ∧ Below w.heap.size w w' := by
  replace hT := Lib.hid hT
  replace hP := Lib.hid hP
  replace hC := Lib.hid hC
  replace hC' := Lib.hid hC'
  go_enter Tryd.func5, Tryd.ntmps5
  go_wp2_with fail
  refine (lex.awake_any _ hT.out).mono ?_
  rintro e w1 ⟨rfl, hb1⟩
  replace hb1 := Lib.hid hb1
  go_wp2_with fail
  refine (new_at a n c 30 _ (by omega) (by omega) (hC.out.mono (sub_of_below hb1.out))).mono ?_
  rintro e w2 ⟨rfl, ⟨cn, cc, hcn, hcm, hH⟩, hb2⟩
  have hB2 := Lib.hid (hb1.out.trans (hb2.mono hb1.out.size))
  have hbl := hb1.out.size
  have hblt := hH.own.lt
  replace hH := Lib.hid hH
  generalize w1.heap.size = b at hH hbl hblt hb2 ⊢
  clear hb2 hb1
  go_wp2_with fail
  refine (new_at a' n' c' 30 _ (by omega) (by omega) (hC'.out.mono (sub_of_below hB2.out))).mono ?_
  rintro e w3 ⟨rfl, ⟨gn, gc, hgn, hgm, hH2⟩, hb3⟩
  have hB3 := Lib.hid (hB2.out.trans (hb3.mono hB2.out.size))
  have hH3 := Lib.hid (headK_kept hH.out (grown_of_below hb3 none) (by simp))
  replace hH2 := Lib.hid hH2
  have hbl2 := hB2.out.size
  have hbb : b < w2.heap.size := hblt
  generalize w2.heap.size = b2 at hH2 hbl2 hbb ⊢
  clear hb3 hH hB2 hblt
  go_wp2
  go_loopw [7, 8] (fun o t wr => ∃ (k k2 : Nat) (O T : ByteArray), o = .string O ∧ t = .string T ∧ O.size ≤ 40 * k ∧ T.size ≤ 40 * k ∧ k ≤ cn ∧ Hid (BRel O.data.toList T.data.toList) ∧ Hid (HeadK b a cn cc wr k) ∧ Hid (HeadK b2 a' gn gc wr k2) ∧ Hid (Below w.heap.size w wr)) (fun _ _ wr => cn - posOf b wr)
  case atStart => exact ⟨0, 0, _, _, rfl, rfl, Nat.zero_le _, Nat.zero_le _, Nat.zero_le _, BRel.start, hH3, hH2, hB3⟩
  case round =>
    clear hH3 hH2 hB3
    obtain ⟨k, k2, O, T, rfl, rfl, hOz, hTz, hk, hBR, hH, hG, hB⟩ := hrel
    have hm0 := Lib.hid (pos_head hH.out)
    go_wp2_with fail
    refine (left_any b _ a cn cc k hH.out (by omega)).mono ?_
    rintro e w4 ⟨rfl, q, rfl⟩
    have hH1 := Lib.hid (show HeadK b a cn cc (wr.drewN q) k from hH.out)
    have hG1 := Lib.hid (show HeadK b2 a' gn gc (wr.drewN q) k2 from hG.out)
    have hB1 := Lib.hid (bel_drew hB.out q)
    clear hH hG hB
    by_cases hlt : k < cn
    · have hL := Lib.hid (show decide (k < cn) = true by simp; omega)
      rw [hL.out]
      go_wp2_with fail
      refine (next_more b _ 32 (by omega) (by omega) a cn cc k hH1.out (codes_at hC.out hcn (by omega) hbl hB1.out hH1.out) hlt).mono ?_
      rintro e w5 ⟨⟨m, rfl, hm0', hm1⟩, hH5, hg5⟩
      obtain ⟨j, rfl⟩ := Int.eq_ofNat_of_zero_le hm0'
      have hj : j < piecesL.length := by show j < 32; omega
      have hB5 := Lib.hid (hB1.out.trans (below_of_grown hg5 hB1.out.size hbl))
      have hG5 := Lib.hid (headK_kept hG1.out hg5 (by simp; omega))
      obtain ⟨p, hp, hpc⟩ : ∃ p : ByteArray, Hid (p = ⟨piecesL[j].toArray⟩) ∧ w5.cell? ⟨0, j, none⟩ = some (.string p) := ⟨⟨piecesL[j].toArray⟩, rfl, sub_of_below hB5.out _ _ (hP.out j hj)⟩
      have hpz := piece_size hj hp.out
      have hk5 := hH5.2
      have hm5 := Lib.hid (pos_head hH5)
      replace hH5 := Lib.hid hH5
      clear hg5 hm0' hH1 hG1 hB1
      rcases piece_ways hj hp.out with q1 | ⟨q1, q2⟩ | ⟨q1, q2, hdo⟩
      · go_wp2
        go_roundw
        case rel => exact ⟨k + 1, k2, O, T, rfl, rfl, by omega, by omega, hk5, hBR, hH5, hG5, hB5⟩
        case measure => rw [hm5.out, hm0.out]; omega
      · go_wp2
        go_roundw
        case rel => exact ⟨k + 1, k2, O, T, rfl, rfl, by omega, by omega, hk5, hBR, hH5, hG5, hB5⟩
        case measure => rw [hm5.out, hm0.out]; omega
      · have hH6 := Lib.hid (headK_kept hH5.out (World.grownBy_alloc w5 (.cells seps2 9) none) (by simp))
        have hG6 := Lib.hid (headK_kept hG5.out (World.grownBy_alloc w5 (.cells seps2 9) none) (by simp))
        have hB6 := Lib.hid (hB5.out.alloc hB5.out.size (.cells seps2 9))
        have hO6 := Lib.hid (Own.new w5 seps2 9)
        have hgl := hG5.out.own.lt
        clear hG5 hH5 hB5
        go_wp2_with fail
        refine (next_any_k b2 _ 4 (by omega) (by omega) a' gn gc k2 hG6.out (codes_at hC'.out hgn (by omega) hbl2 hB6.out hG6.out)).mono ?_
        rintro e w7 ⟨k3, hkk, ⟨m, rfl, hm0', hm1'⟩, hG7, hg7⟩
        obtain ⟨j2, rfl⟩ := Int.eq_ofNat_of_zero_le hm0'
        obtain ⟨sp, hsp, hspz, hblank⟩ := seps2_at j2 (by omega)
        have hsc := ((hO6.out.kept hg7 (by simp; omega)).cell j2).trans hsp
        have hH7 := Lib.hid (headK_kept hH6.out hg7 (by simp; omega))
        have hB7 := Lib.hid (hB6.out.trans (below_of_grown hg7 hB6.out.size hbl2))
        have hm7 := Lib.hid (pos_head hH7.out)
        replace hG7 := Lib.hid hG7
        have hN := Lib.hid (hBR.out.step hdo.out hblank)
        clear hg7 hm0' hH6 hG6 hB6 hsp hblank hO6
        have z1 : (p ++ ⟨#[32]⟩).size ≤ 30 := by rw [ByteArray.size_append]; show p.size + 1 ≤ 30; omega
        have z2 : (O ++ (p ++ ⟨#[32]⟩)).size ≤ 40 * (k + 1) := by rw [ByteArray.size_append]; omega
        have z3 : (p ++ sp).size ≤ 30 := by rw [ByteArray.size_append]; omega
        have z4 : (T ++ (p ++ sp)).size ≤ 40 * (k + 1) := by rw [ByteArray.size_append]; omega
        go_wp2
        go_roundw
        case rel => exact ⟨k + 1, k3, _, _, rfl, rfl, z2, z4, hk5, by have := hN.out; show BRel _ _; simpa [ByteArray.data_append] using this, hH7, hG7, hB7⟩
        case measure => rw [hm7.out, hm0.out]; omega
    · have hL := Lib.hid (show decide (k < cn) = false by simp; omega)
      rw [hL.out]
      have hzO : O.size ≤ 1200 := by omega
      have hzT : T.size ≤ 1200 := by omega
      clear hOz hTz hH1 hG1
      rcases hBR.out.ways (by simp; omega) (by simp; omega) with ⟨q', L, L', h1, h2⟩ | ⟨ts, ts', h1, h2, hne, hsame⟩
      · replace h1 := Lib.hid h1
        replace h2 := Lib.hid h2
        go_wp2_with fail
        refine (tokens_any O _ (by omega) (hT.out.below hB1.out)).mono ?_
        rintro e w5 h5
        obtain ⟨rfl, hb5⟩ := tok_err h5 h1.out
        have hB5 := Lib.hid (hB1.out.trans (hb5.mono hB1.out.size))
        clear h5 hb5
        go_wp2_with fail
        refine (tokens_any T _ (by omega) (hT.out.below hB5.out)).mono ?_
        rintro e w6 h6
        obtain ⟨rfl, hb6⟩ := tok_err h6 h2.out
        have hB6 := Lib.hid (hB5.out.trans (hb6.mono hB5.out.size))
        clear h6 hb6
        go_wp2
        go_loopw [16] (fun i wx => i = .int .i64 0 ∧ wx = w6) (fun _ _ => 0)
        case atStart => exact ⟨rfl, rfl⟩
        case round =>
          obtain ⟨rfl, rfl⟩ := hrel
          go_wp2
          go_ret
          exact ⟨rfl, hB6.out⟩
      · have hlen : ts.length = ts'.length := by have := congrArg List.length hsame; simpa using this
        have hne' : ts' ≠ [] := by intro e; rw [e] at hlen; exact hne (List.eq_nil_of_length_eq_zero hlen)
        replace h1 := Lib.hid h1
        replace h2 := Lib.hid h2
        replace hsame := Lib.hid hsame
        go_wp2_with fail
        refine (tokens_any O _ (by omega) (hT.out.below hB1.out)).mono ?_
        rintro e w5 h5
        obtain ⟨v5, rfl, ho5, hb5⟩ := tok_ok h5 h1.out
        obtain ⟨g1, c1, N, hN, rfl, hr1, hN2⟩ := toks_in' ho5 hne
        have hB5 := Lib.hid (hB1.out.trans (hb5.mono hB1.out.size))
        have hg1 : g1 < w5.heap.size := by
          have h0 : 0 < ts.length := by cases ts with | nil => exact absurd rfl hne | cons _ _ => simp
          exact World.block_lt_of_cell? w5 _ (hr1 0 h0).1
        replace hr1 := Lib.hid hr1
        replace hN := Lib.hid hN
        clear h5 hb5 ho5 hne
        go_wp2_with fail
        refine (tokens_any T _ (by omega) (hT.out.below hB5.out)).mono ?_
        rintro e w6 h6
        obtain ⟨v6, rfl, ho6, hb6⟩ := tok_ok h6 h2.out
        obtain ⟨g2, c2, N', hN', rfl, hr2, hg2, hg2l, hN2'⟩ := bat_of ho6 hne'
        obtain rfl : N' = N := by rw [hN', hN.out, hlen]
        have hB6 := Lib.hid (hB5.out.trans (hb6.mono hB5.out.size))
        replace hr1 := Lib.hid (hr1.out.below hb6)
        replace hr2 := Lib.hid hr2
        have hgg : ¬ g1 = g2 := by omega
        have hgg' : ¬ g2 = g1 := by omega
        have hwg : w.heap.size ≤ g2 := by have := hB5.out.size; omega
        replace hN' := Lib.hid hN'
        clear h6 hb6 ho6 hne' hlen hg2 hg2l hg1
        go_wp2
        go_loopw [16] (fun i wx => ∃ j : Nat, i = .int .i64 j ∧ j ≤ N' ∧ Hid (TokRows wx g1 0 ts) ∧ Hid (BAt wx g2 ts') ∧ Hid (Below w.heap.size w wx)) (fun i _ => N' - (intOf i).toNat)
        case atStart => exact ⟨0, rfl, Nat.zero_le _, hr1, hr2, hB6⟩
        case round =>
          clear hr1 hr2 hB6
          obtain ⟨j, rfl, hj, hr1, hr2, hB⟩ := hrel
          by_cases hlj : j < N'
          · have hj1 : j < ts.length := by rw [← hN.out]; exact hlj
            have hj2 : j < ts'.length := by rw [← hN'.out]; exact hlj
            obtain ⟨s0, s1, s2⟩ := same_at hsame.out hj1 hj2
            have n1 : (0 : Int) ≤ (j : Int) := Int.natCast_nonneg _
            have n2 : (j : Int) < (N' : Int) := by omega
            obtain ⟨x0, x1, x2, x3⟩ := hr1.out j hj1
            obtain ⟨y0, y1, y2, ⟨l, y3⟩, f3⟩ := hr2.out j hj2
            simp only [Nat.zero_add] at x0 x1 x2 x3
            rw [← s0] at y0
            rw [← s1] at y1
            rw [← s2] at y2
            obtain ⟨v, hv⟩ : ∃ v, Hid (v = ts[j].line) := ⟨ts[j].line, rfl⟩
            rw [← hv.out] at x3
            have hset := cell_set_eq y3 (.int .i64 v)
            have hr1' := Lib.hid (hr1.out.setOther hgg (.int .i64 v) (i := j * 4 + 3))
            have hr2' := Lib.hid (hr2.out.set j v)
            have hB' := Lib.hid (hB.out.setCell (p := ⟨g2, j * 4 + 3, none⟩) hwg (.int .i64 v))
            have hz2 := hr2'.out j hj2
            have hz1 := hr1'.out j hj1
            simp only [Nat.zero_add] at hz1
            rw [← s0, ← s1, ← s2] at hz2
            rw [← hv.out] at hz1
            obtain ⟨p0, p1, p2, -, -⟩ := hz2
            obtain ⟨r0, r1, r2, r3⟩ := hz1
            replace hset := Lib.hid hset
            generalize ts[j].k = t0 at x0 y0 p0 r0
            generalize (⟨ts[j].t.toArray⟩ : ByteArray) = t1 at x1 y1 p1 r1
            generalize ts[j].n = t2 at x2 y2 p2 r2
            have hP9 := Lib.hid (And.intro (And.intro p0 (And.intro p1 (And.intro p2 hset.out))) (And.intro r0 (And.intro r1 (And.intro r2 r3))))
            clear s0 s1 s2 p0 p1 p2 r0 r1 r2 r3 hset
            go_wp2
            clear x0 x1 x2 x3 y0 y1 y2 y3 f3
            generalize wr.setCell ⟨g2, j * 4 + 3, none⟩ (.int .i64 v) = w9 at hr1' hr2' hB' hP9 ⊢
            obtain ⟨⟨p0, p1, p2, p3⟩, r0, r1, r2, r3⟩ := hP9.out
            clear hP9
            go_quiet (fail)
            go_wp2
            go_roundw
            case rel => exact ⟨j + 1, by go_num, by omega, hr1'.out.drewN _, hr2'.out, bel_drew hB'.out _⟩
            case measure => simp [intOf]; omega
          · go_wp2
            go_ret
            exact ⟨rfl, hB.out⟩

end Go.Proofs.YtpildefkhlejgaaDoor.lex
