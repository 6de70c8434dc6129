/- The law LexerLong: texts of more bytes than the limit are refused, whatever they contain, and others are not. -/
import Derived.Test.YtpildefkhlejgaaDoorLexH
import Derived.Test.YtpildefkhlejgaaDoorLexP
import Derived.Test.YtpildefkhlejgaaDoorValL
import Derived.Laws.MakeOwn
import Derived.Laws.OwnMore
import Derived.Lib.ConvBytes
import Derived.Laws.IdiomStrings
namespace Go.Proofs.YtpildefkhlejgaaDoor.lex
open Go.RowKit Go.Proofs.YtpildefkhlejgaaDoor.text Go.Proofs.YtpildefkhlejgaaDoor.value

/-- A row of bytes that a conversion has made: its cells may be written. -/
def ByteRow (w : World) (A : Nat) (l : List UInt8) : Prop := ∀ j, (h : j < l.length) → w.cell? ⟨A, j, none⟩ = some (.int .u8 (l[j].toNat : Int)) ∧ w.frozen? ⟨A, j, none⟩ = false
theorem byteRow_set {w : World} {A : Nat} {l : List UInt8} (h : ByteRow w A l) {i : Nat} (_hi : i < l.length) (u : UInt8) : ByteRow (w.setCell ⟨A, i, none⟩ (.int .u8 (u.toNat : Int))) A (l.set i u) := by
  intro j hj
  have hj' : j < l.length := by simpa using hj
  have hs : ∀ (o : Obj), w.heap[A]? = some o → ∃ cs t fr, o = .cells cs t fr ∧ j < cs.size := by
    intro o ho
    have h1 := (h j hj').1
    unfold World.cell? at h1
    simp [ho] at h1
    cases o with
    | cells cs t fr =>
      simp at h1
      exact ⟨cs, t, fr, rfl, (Array.getElem?_eq_some_iff.1 h1).1⟩
    | _ => simp at h1
  have hf : ∀ (v : Value), (w.setCell ⟨A, i, none⟩ v).frozen? ⟨A, j, none⟩ = w.frozen? ⟨A, j, none⟩ := by
    intro v
    unfold World.frozen? World.setCell
    simp only [Array.getElem?_modify]
    cases ho : w.heap[A]? with
    | none => simp
    | some o =>
      obtain ⟨cs, t, fr, rfl, -⟩ := hs o ho
      simp
  refine ⟨?_, (hf _).trans (h j hj').2⟩
  have h1 := (h j hj').1
  unfold World.cell? at h1 ⊢
  unfold World.setCell
  cases ho : w.heap[A]? with
  | none => simp [ho] at h1
  | some o =>
    obtain ⟨cs, t, fr, rfl, hjs⟩ := hs o ho
    simp only [ho] at h1
    simp [Array.getElem?_modify, ho, Array.getElem?_setIfInBounds]
    by_cases hij : i = j
    · subst hij
      simp [hjs]
    · simp [hij]
      simpa using h1

theorem convert_row {w : World} {A : Nat} {l : List UInt8} (h : ByteRow w A l) (n cap : Nat) (hn : n = l.length) : (convert 22 9 (.slice (some ⟨A, 0, none⟩) n cap)).run Tryd.prog w = .ok (.string ⟨l.toArray⟩) w := by
  subst hn
  exact run_convert_bytes_back w _ _ 5 ⟨A, 0, none⟩ cap l Tryd.underlying22 Tryd.underlying5 Tryd.underlying9 (fun j hj => by
    have e : (⟨A, 0, none⟩ : Addr).add j = ⟨A, j, none⟩ := by unfold Addr.add; simp; intro h; omega
    rw [e]
    exact (h j hj).1)

theorem nextS_not4 {l : List UInt8} {q : Int} (h : nextS l = .error q) : q ≠ 4 := by
  cases l with
  | nil => injection h with h; omega
  | cons c r =>
    cases hl : letB c with
    | true => rw [nx_word hl] at h; cases h
    | false =>
      cases hn : numStart c r with
      | true =>
        rcases num_ways hl hn rfl with ⟨_, hx⟩ | ⟨_, _, hx⟩ | ⟨_, _, hx⟩
        · rw [hx] at h; cases h
        · rw [hx] at h; cases h
        · rw [hx] at h
          injection h with h
          have := parse_err ((c :: r).take (1 + spanN numB r))
          omega
      | false =>
        by_cases h34 : c.toNat = 34
        · rcases text_ways (r := r) h34 with ⟨_, hx⟩ | ⟨k, hk, ⟨_, hx⟩ | ⟨_, hx⟩ | ⟨b, _, hx⟩⟩
          · rw [hx] at h; injection h with h; omega
          · rw [hx] at h; injection h with h; omega
          · rw [hx] at h; injection h with h; omega
          · rw [hx] at h; cases h
        · cases hs : signB c with
          | true =>
            rw [nx_sign hs] at h
            split at h <;> cases h
          | false => rw [nx_none hl hn h34 hs] at h; injection h with h; omega
theorem tokF_not4 : ∀ (f : Nat) (l : List UInt8) (L q L' : Int), tokF f l L = .error (q, L') → q ≠ 4
  | 0, l, L, q, L', h => by cases h
  | f + 1, [], L, q, L', h => by cases h
  | f + 1, c :: r, L, q, L', h => by
    rw [tokF_cons] at h
    split at h
    · exact tokF_not4 f _ _ _ _ h
    · split at h
      · exact tokF_not4 f _ _ _ _ h
      · split at h
        · exact tokF_not4 f _ _ _ _ h
        · cases hx : nextS (c :: r) with
          | error e =>
            rw [hx] at h
            simp only at h
            injection h with h
            injection h with h _
            rw [← h]
            exact nextS_not4 hx
          | ok v =>
            obtain ⟨t, n⟩ := v
            rw [hx] at h
            simp only at h
            cases hy : tokF f ((c :: r).drop n) L with
            | error e =>
              rw [hy] at h
              simp only at h
              injection h with h
              obtain ⟨e1, e2⟩ := e
              injection h with h1 h2
              rw [← h1]
              exact tokF_not4 f _ _ _ _ hy
            | ok ts => rw [hy] at h; cases h
/-- How the two programs' answers to a text of a length turn out. -/
theorem long_ways (l : List UInt8) : (∃ q L, Hid (toksS l = .error (q, L)) ∧ ((30000 < l.length ∧ q = 4) ∨ (¬ 30000 < l.length ∧ (q == 4) = false))) ∨ ∃ ts, Hid (toksS l = .ok ts) ∧ ¬ 30000 < l.length := by
  by_cases h : 30000 < l.length
  · exact Or.inl ⟨4, 0, toksS_long h, Or.inl ⟨h, rfl⟩⟩
  · cases hx : toksS l with
    | error p =>
      obtain ⟨q, L⟩ := p
      refine Or.inl ⟨q, L, rfl, Or.inr ⟨h, ?_⟩⟩
      have hy := hx
      rw [toksS_ok h] at hy
      exact eq_no (tokF_not4 _ _ _ _ _ hy)
    | ok ts => exact Or.inr ⟨ts, rfl, h⟩

theorem infoByte : (Tryd.prog.info? 5).map (fun i => (i.zero, i.size, i.bytes)) = some (some (.int .u8 0), 1, 1) := by kernel_rfl
theorem byteRow_made (w : World) (n : Nat) : ByteRow (w.alloc (.cells (madeCells #[.int .u8 0] n) 5)) w.heap.size (List.replicate n 0) := by
  intro j hj
  have hO := Own.new w (madeCells #[.int .u8 0] n) 5
  refine ⟨?_, hO.free j⟩
  rw [hO.cell j]
  rw [List.length_replicate] at hj
  have := toList_madeCells_one (.int .u8 0) n
  rw [← Array.getElem?_toList, this, List.getElem?_replicate, if_pos hj]
  simp
/-- A row of bytes of a known number, whatever they are. -/
def RowN (w : World) (A n : Nat) : Prop := ∃ l : List UInt8, l.length = n ∧ ByteRow w A l
theorem RowN.set {w : World} {A n i : Nat} (h : RowN w A n) (hi : i < n) {c : Int} (h0 : 0 ≤ c) (h1 : c ≤ 255) : RowN (w.setCell ⟨A, i, none⟩ (.int .u8 c)) A n := by
  obtain ⟨l, hl, hr⟩ := h
  obtain ⟨u, hu⟩ : ∃ u : UInt8, c = (u.toNat : Int) := ⟨UInt8.ofNat c.toNat, by simp; omega⟩
  subst hu
  exact ⟨l.set i u, by simpa using hl, byteRow_set hr (i := i) (by omega) u⟩
theorem RowN.convert {w : World} {A n : Nat} (h : RowN w A n) (cap : Nat) : ∃ l : List UInt8, l.length = n ∧ (convert 22 9 (.slice (some ⟨A, 0, none⟩) n cap)).run Tryd.prog w = .ok (.string ⟨l.toArray⟩) w := by
  obtain ⟨l, hl, hr⟩ := h
  exact ⟨l, hl, convert_row hr n cap hl.symm⟩
theorem ByteRow.below {w w' : World} {A : Nat} {l : List UInt8} (h : ByteRow w A l) (hb : Below w.heap.size w w') (hA : A < w.heap.size) : ByteRow w' A l :=
  fun j hj => ⟨(hb.cell (p := ⟨A, j, none⟩) hA).trans (h j hj).1, (hb.frozen (p := ⟨A, j, none⟩) hA).trans (h j hj).2⟩
theorem RowN.below {w w' : World} {A n : Nat} (h : RowN w A n) (hb : Below w.heap.size w w') (hA : A < w.heap.size) : RowN w' A n := by
  obtain ⟨l, hl, hr⟩ := h
  refine ⟨l, hl, fun j hj => ⟨?_, ?_⟩⟩
  · exact (hb.cell (p := ⟨A, j, none⟩) hA).trans (hr j hj).1
  · exact (hb.frozen (p := ⟨A, j, none⟩) hA).trans (hr j hj).2
theorem RowN.at {w : World} {A n i : Nat} (h : RowN w A n) (hi : i < n) : ∃ u : UInt8, w.cell? ⟨A, i, none⟩ = some (.int .u8 (u.toNat : Int)) ∧ w.frozen? ⟨A, i, none⟩ = false := by
  obtain ⟨l, hl, hr⟩ := h
  exact ⟨_, (hr i (by omega)).1, (hr i (by omega)).2⟩

set_option maxRecDepth 100000 in
set_option maxHeartbeats 8000000 in
theorem lexLong_walk (n c : Int) (w : World) (h0 : -9223372036854775808 ≤ n) (h1 : n ≤ 9223372036854775807) (hc0 : 0 ≤ c) (hc1 : c ≤ 255) (hT : Tabs w) :
    Calls Tryd.prog 4 #[.int .i64 n, .int .u8 c] w fun e w' => e = .returned (.bool true) ∧ Below w.heap.size w w' := by
  obtain ⟨i0, hi, hz0, hz1, hz2⟩ := info_parts infoByte
  obtain ⟨m, hm⟩ : ∃ m, Hid (m = n % 7) := ⟨_, rfl⟩
  have hm0 : 0 ≤ m := by rw [hm.out]; omega
  have hm1 : m < 7 := by rw [hm.out]; omega
  obtain ⟨N, hN⟩ : ∃ N : Nat, (29997 + m) = (N : Int) := ⟨(29997 + m).toNat, by omega⟩
  have hN1 : N ≤ 30003 := by omega
  have hN0 : 29997 ≤ N := by omega
  have hmk := Lib.hid (show ∀ u : World, (Instr.makeSlice 22 (.int .i64 (N : Int)) (.int .i64 (N : Int))).run Tryd.prog u =
      .ok (.slice (some ⟨u.heap.size, 0, none⟩) N N) (u.alloc (.cells (madeCells #[.int .u8 0] N) 5)) from fun u => by
    have h := run_make (P := Tryd.prog) u 22 5 i0 (.int .u8 0) Tryd.underlying22 hi hz0 .i64 .i64 (N : Int) (N : Int) (by omega) (Int.le_refl _) (by rw [hz2]; omega) (by omega)
    simpa [hz1, Value.cells] using h)
  replace hT := Lib.hid hT
  clear hi hz0 hz1 hz2
  go_enter Tryd.func4, Tryd.ntmps4
  go_wp2_with fail
  refine (lex.awake_any _ hT.out).mono ?_
  rintro e w1 ⟨rfl, hb1⟩
  have hT1 := Lib.hid (hT.out.below hb1)
  replace hb1 := Lib.hid hb1
  go_wp2_with fail
  refine (mod_eq n 7 _ (by omega) (by omega) h0 h1).mono ?_
  rintro e w2 ⟨rfl, rfl⟩
  rw [← hm.out]
  have hmk2 := hmk.out w2
  have hR := Lib.hid (show RowN (w2.alloc (.cells (madeCells #[.int .u8 0] N) 5)) w2.heap.size N from ⟨_, by simp, byteRow_made w2 N⟩)
  have hB := Lib.hid (hb1.out.alloc hb1.out.size (.cells (madeCells #[.int .u8 0] N) 5))
  have hA1 := Lib.hid hb1.out.size
  have hA2 : w2.heap.size < (w2.alloc (.cells (madeCells #[.int .u8 0] N) 5)).heap.size := by simp
  go_wp2
  clear hmk2 hmk
  replace hN := Lib.hid hN
  generalize w2.alloc (.cells (madeCells #[.int .u8 0] N) 5) = w3 at hR hB hA2 ⊢
  replace hA2 := Lib.hid hA2
  generalize w2.heap.size = A at hR hA1 hA2 ⊢
  go_loopw [22] (fun i wr => ∃ k : Nat, i = .int .i64 k ∧ k ≤ N ∧ Hid (RowN wr A N) ∧ Hid (Below w.heap.size w wr) ∧ Hid (A < wr.heap.size)) (fun i _ => N - (intOf i).toNat)
  case atStart => exact ⟨0, rfl, Nat.zero_le _, hR.out, hB.out, hA2.out⟩
  case round =>
    clear hR hB hA2
    obtain ⟨k, rfl, hk, hR, hB, hA2⟩ := hrel
    by_cases hlt : k < N
    · obtain ⟨u, hc, hf⟩ := hR.out.at hlt
      have hR2 := Lib.hid (hR.out.set hlt (c := 32) (by omega) (by omega))
      have hB2 := Lib.hid (hB.out.setCell (p := ⟨A, k, none⟩) hA1.out (.int .u8 32))
      have hA3 := Lib.hid (show A < (wr.setCell ⟨A, k, none⟩ (.int .u8 32)).heap.size by simp [World.setCell]; exact hA2.out)
      go_wp2
      go_roundw
      case rel => exact ⟨k + 1, by go_num, by omega, hR2.out, hB2.out, hA3.out⟩
      case measure => simp [intOf]; omega
    · obtain ⟨H, hH⟩ : ∃ H : Nat, (N : Int) / 2 = (H : Int) := ⟨N / 2, by omega⟩
      have hHN : H < N := by omega
      obtain ⟨u, hc, hf⟩ := hR.out.at hHN
      have hR2 := Lib.hid (hR.out.set hHN hc0 hc1)
      have hB2 := Lib.hid (hB.out.setCell (p := ⟨A, H, none⟩) hA1.out (.int .u8 c))
      have hA3 := Lib.hid (show A < (wr.setCell ⟨A, H, none⟩ (.int .u8 c)).heap.size by simp [World.setCell]; exact hA2.out)
      obtain ⟨l, hll, hr⟩ := hR2.out
      have hcv := convert_row hr N N hll.symm
      have hr1 := Lib.hid hr
      replace hll := Lib.hid hll
      clear hR2 hr
      go_wp2_with fail
      generalize wr.setCell ⟨A, H, none⟩ (.int .u8 c) = w4 at hr1 hB2 hA3 hcv ⊢
      have hT4 := Lib.hid (hT.out.below hB2.out)
      clear hc hf hcv hR hB hA2 hH
      refine (tokens_any ⟨l.toArray⟩ _ (by show l.toArray.size ≤ _; have := hll.out; simp; omega) hT4.out).mono ?_
      rintro e w5 h5
      rcases long_ways l with ⟨q, L, hx, hw⟩ | ⟨ts, hx, hw⟩
      · obtain ⟨rfl, hb5⟩ := tok_err (l := l) h5 hx.out
        have hr2 := Lib.hid (ByteRow.below hr1.out hb5 hA3.out)
        have hB5 := Lib.hid (hB2.out.trans (hb5.mono hB2.out.size))
        have hcv := convert_row hr2.out N N hll.out.symm
        clear h5 hb5
        rw [hll.out] at hw
        go_wp2_with fail
        clear hcv
        refine (tokens_ref ⟨l.toArray⟩ _ (by show l.toArray.size ≤ _; have := hll.out; simp; omega) (hT.out.below hB5.out)).mono ?_
        rintro e w6 h6
        obtain ⟨rfl, hb6⟩ := tok_err (l := l) h6 hx.out
        have hB6 := Lib.hid (hB5.out.trans (hb6.mono hB5.out.size))
        clear h6 hb6
        go_wp2_with fail
        refine (same_none none none 0 0 _).mono ?_
        rintro e w7 ⟨rfl, q7, rfl⟩
        have hB7 := Lib.hid (bel_drew hB6.out q7)
        rcases hw with ⟨hn, rfl⟩ | ⟨hn, hq⟩
        · have qn := le_yes (show (30000 : Int) + 1 ≤ (N : Int) by omega)
          have qm : decide ((30000 : Int) < (N : Int)) = true := decide_eq_true (by omega)
          go_wp2
          go_ret
          exact ⟨rfl, hB7.out⟩
        · have qm : decide ((30000 : Int) < (N : Int)) = false := decide_eq_false (by omega)
          go_wp2
          go_ret
          exact ⟨rfl, hB7.out⟩
      · obtain ⟨v1, rfl, ho5, hb5⟩ := tok_ok (l := l) h5 hx.out
        have hr2 := Lib.hid (ByteRow.below hr1.out hb5 hA3.out)
        have hB5 := Lib.hid (hB2.out.trans (hb5.mono hB2.out.size))
        have hcv := convert_row hr2.out N N hll.out.symm
        replace ho5 := Lib.hid ho5
        clear h5 hb5
        rw [hll.out] at hw
        go_wp2_with fail
        clear hcv
        refine (tokens_ref ⟨l.toArray⟩ _ (by show l.toArray.size ≤ _; have := hll.out; simp; omega) (hT.out.below hB5.out)).mono ?_
        rintro e w6 h6
        obtain ⟨v2, rfl, ho6, hb6⟩ := tok_ok (l := l) h6 hx.out
        have hB6 := Lib.hid (hB5.out.trans (hb6.mono hB5.out.size))
        have hs := Lib.hid (same_any ho5.out ho6 hb6 (Below.refl _ _))
        clear h6 hb6 ho5 ho6
        go_wp2_with fail
        refine hs.out.mono ?_
        rintro e w7 ⟨rfl, q7, rfl⟩
        have hB7 := Lib.hid (bel_drew hB6.out q7)
        have qm : decide ((30000 : Int) < (N : Int)) = false := decide_eq_false (by omega)
        clear hs
        go_wp2
        go_ret
        exact ⟨rfl, hB7.out⟩

end Go.Proofs.YtpildefkhlejgaaDoor.lex
