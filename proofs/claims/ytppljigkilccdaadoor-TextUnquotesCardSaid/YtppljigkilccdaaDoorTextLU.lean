/- The law TextUnquotes: what any text is without its quotation marks is the reference's answer, and it quotes to the same text. -/
import Derived.Test.YtppljigkilccdaaDoorTextLQ
import Derived.Lib.ConvBytes
import Derived.Laws.IdiomStrings
namespace Go.Proofs.YtppljigkilccdaaDoor.law
open Go.RowKit Go.Proofs.YtppljigkilccdaaDoor.text

theorem esc_unq : ∀ (l b : List UInt8), (unqF false l = some b → escL b = l) ∧ (unqF true l = some b → escL b = 92 :: l)
  | [], b => by
    constructor
    · intro h
      rw [unqF] at h
      injection h with h
      subst h
      rfl
    · intro h
      rw [unqF] at h
      cases h
  | c :: r, b => by
    have hc : ∀ b', escL (c :: b') = esc c ++ escL b' := fun b' => by simp [escL]
    constructor
    · intro h
      rw [unqF] at h
      split at h
      · cases h
      · rename_i h34
        split at h
        · rename_i h92
          have e : c = 92 := UInt8.toNat_inj.1 h92
          rw [e]
          exact (esc_unq r b).2 h
        · rename_i h92
          obtain ⟨b', h1, rfl⟩ := Option.map_eq_some_iff.1 h
          rw [hc, esc_one h34 h92, (esc_unq r b').1 h1]
          rfl
    · intro h
      rw [unqF] at h
      split at h
      · rename_i hq
        obtain ⟨b', h1, rfl⟩ := Option.map_eq_some_iff.1 h
        rw [hc, esc_two hq, (esc_unq r b').1 h1]
        rfl
      · cases h
theorem quote_unquoteS {l b : List UInt8} (h : unquoteS l = some b) : quoteS b = l := by
  unfold unquoteS at h
  split at h
  · cases h
  · rename_i hn
    have e := (esc_unq _ b).1 h
    have h1 : 2 ≤ l.length := by
      rcases Nat.lt_or_ge l.length 2 with h9 | h9
      · exact absurd (Or.inl h9) hn
      · exact h9
    have h2 : l.head? = some 34 := Classical.byContradiction fun h9 => hn (Or.inr (Or.inl h9))
    have h3 : l.getLast? = some 34 := Classical.byContradiction fun h9 => hn (Or.inr (Or.inr h9))
    unfold quoteS
    rw [e]
    obtain ⟨a, r, rfl⟩ : ∃ a r, l = a :: r := by
      cases l with
      | nil => simp at h1
      | cons a r => exact ⟨a, r, rfl⟩
    simp only [List.head?_cons, Option.some.injEq] at h2
    subst h2
    obtain ⟨x, rfl⟩ : ∃ x, r = x ++ [34] := by
      rw [List.length_cons] at h1
      have hr : r ≠ [] := by intro e; rw [e] at h1; simp at h1
      rw [List.getLast?_cons] at h3
      refine ⟨r.dropLast, ?_⟩
      have h4 : r.getLast? = some (r.getLast hr) := List.getLast?_eq_some_getLast hr
      rw [h4] at h3
      simp at h3
      rw [← h3, List.dropLast_concat_getLast]
    simp
theorem unq_ways (t : ByteArray) : Hid (unquoteV t.data.toList = .tuple #[.string ⟨#[]⟩, .int .i64 1]) ∨ Hid (unquoteV t.data.toList = .tuple #[.string ⟨#[]⟩, .int .i64 2]) ∨
    ∃ u : ByteArray, Hid (unquoteV t.data.toList = .tuple #[.string u, .int .i64 0]) ∧ Hid (quoteV u.data.toList = .tuple #[.string t, .int .i64 0]) := by
  unfold unquoteV
  cases h : unquoteS t.data.toList with
  | none => exact Or.inl rfl
  | some b =>
    cases hv : validS b with
    | false => exact Or.inr (Or.inl (by simp [Hid, hv]))
    | true =>
      refine Or.inr (Or.inr ⟨⟨b.toArray⟩, by simp [Hid, hv], ?_⟩)
      show quoteV b = _
      rw [quoteV, hv, quote_unquoteS h]
      rfl

/-- A row of bytes that a conversion has made: its cells may be written. -/
def ByteRow (w : World) (A : Nat) (l : List UInt8) : Prop := ∀ j, (h : j < l.length) → w.cell? ⟨A, j, none⟩ = some (.int .u8 (l[j].toNat : Int)) ∧ w.frozen? ⟨A, j, none⟩ = false
theorem byteRow_new (w : World) (s : ByteArray) : ByteRow (Lib.bytesWorld w 5 s) w.heap.size s.data.toList := by
  intro j hj
  have hj' : j < s.size := by simpa using hj
  constructor
  · rw [Lib.bytesWorld_cell w _ s j hj']
    simp [List.getD, hj']
  · simp [World.frozen?, Lib.bytesWorld_at_new]
    intro h
    have : s.size ≤ (Lib.bytesCells w 5 s).size := by simp [Lib.bytesCells]
    omega
theorem byteRow_set {w : World} {A : Nat} {l : List UInt8} (h : ByteRow w A l) {i : Nat} (_hi : i < l.length) (u : UInt8) : ByteRow (w.setCell ⟨A, i, none⟩ (.int .u8 (u.toNat : Int))) A (l.set i u) := by
  intro j hj
  have hj' : j < l.length := by simpa using hj
  have hs : ∀ (o : Obj), w.heap[A]? = some o → ∃ cs t fr, o = .cells cs t fr ∧ j < cs.size := by
    intro o ho
    have h1 := (h j hj').1
    unfold World.cell? at h1
    simp [ho] at h1
    cases o with
    | cells cs t fr =>
      simp at h1
      exact ⟨cs, t, fr, rfl, (Array.getElem?_eq_some_iff.1 h1).1⟩
    | _ => simp at h1
  have hf : ∀ (v : Value), (w.setCell ⟨A, i, none⟩ v).frozen? ⟨A, j, none⟩ = w.frozen? ⟨A, j, none⟩ := by
    intro v
    unfold World.frozen? World.setCell
    simp only [Array.getElem?_modify]
    cases ho : w.heap[A]? with
    | none => simp
    | some o =>
      obtain ⟨cs, t, fr, rfl, -⟩ := hs o ho
      simp
  refine ⟨?_, (hf _).trans (h j hj').2⟩
  have h1 := (h j hj').1
  unfold World.cell? at h1 ⊢
  unfold World.setCell
  cases ho : w.heap[A]? with
  | none => simp [ho] at h1
  | some o =>
    obtain ⟨cs, t, fr, rfl, hjs⟩ := hs o ho
    simp only [ho] at h1
    simp [Array.getElem?_modify, ho, Array.getElem?_setIfInBounds]
    by_cases hij : i = j
    · subst hij
      simp [hjs]
    · simp [hij]
      simpa using h1

theorem convert_row {w : World} {A : Nat} {l : List UInt8} (h : ByteRow w A l) (n cap : Nat) (hn : n = l.length) : (convert 26 9 (.slice (some ⟨A, 0, none⟩) n cap)).run Tryd.prog w = .ok (.string ⟨l.toArray⟩) w := by
  subst hn
  exact run_convert_bytes_back w _ _ 5 ⟨A, 0, none⟩ cap l Tryd.underlying26 Tryd.underlying5 Tryd.underlying9 (fun j hj => by
    have e : (⟨A, 0, none⟩ : Addr).add j = ⟨A, j, none⟩ := by unfold Addr.add; simp; intro h; omega
    rw [e]
    exact (h j hj).1)
/-- The place of the byte that is changed. -/
theorem place (at' : Int) (n : Nat) (hn : 0 < n) : -(n : Int) < Int.tmod at' n ∧ Int.tmod at' n < n := by
  constructor
  · rcases Int.le_total 0 at' with h | h
    · have := Int.tmod_nonneg (n : Int) h; omega
    · have h1 : Int.tmod at' n = -Int.tmod (-at') n := by rw [Int.neg_tmod]; simp
      have h2 := Int.tmod_lt_of_pos (-at') (show (0 : Int) < n by omega)
      omega
  · exact Int.tmod_lt_of_pos at' (by omega)

/-- What is known when the five texts are there. -/
def FiveAt (w w2 : World) (A : Nat) : Prop := Below w.heap.size w w2 ∧ Texts w2 A 5 140737488355328 ∧ Tabs w2

theorem five_below {w w2 w3 : World} {A : Nat} (h : FiveAt w w2 A) (hb : Below w2.heap.size w2 w3) : FiveAt w w3 A :=
  ⟨h.1.trans (hb.mono h.1.size), h.2.1.below hb, h.2.2.below hb⟩
theorem five_size {w w2 : World} {A A' : Nat} (h : FiveAt w w2 A) (e : A = A') : FiveAt w w2 A' := e ▸ h
/-- A write to a block that the call has made leaves the tables. -/
theorem tabs_set {w2 w3 : World} {p : Addr} (h : Tabs w2) (hb : Below w2.heap.size w2 w3) (hp : w2.heap.size ≤ p.block) (v : Value) : Tabs (w3.setCell p v) := h.below (hb.setCell hp v)

set_option maxRecDepth 100000 in
set_option maxHeartbeats 2000000 in
theorem unquotes_walk (s : ByteArray) (at' c : Int) (w : World) (hs : s.size ≤ 140737488351232) (hc0 : 0 ≤ c) (hc1 : c ≤ 255) (hT : Tabs w) :
    Calls Tryd.prog 9 #[.string s, .int .i64 at', .int .u8 c] w fun e w' => e = .returned (.bool true) ∧ Below w.heap.size w w' := by
  replace hT := Lib.hid hT
  go_enter Tryd.func9, Tryd.ntmps9
  go_wp2_with fail
  refine (awake_any _ hT.out).mono ?_
  rintro e w1 ⟨rfl, hb1⟩
  have hT1 := Lib.hid (hT.out.below hb1)
  replace hb1 := Lib.hid hb1
  clear hT
  go_wp2_with fail
  refine (quote_ref s _ hT1.out.runes).mono ?_
  rintro e w2 ⟨rfl, hb2⟩
  have hT2 := Lib.hid (hT1.out.below hb2)
  replace hb2 := Lib.hid (hb1.out.trans (hb2.mono hb1.out.size))
  clear hT1 hb1
  obtain ⟨q, n, hq, hqs⟩ : ∃ q n, Hid (quoteV s.data.toList = .tuple #[.string q, .int .i64 n]) ∧ q.size ≤ 140737488355328 := by
    cases hv : validS s.data.toList with
    | false => exact ⟨_, _, quoteV_bad hv, by show 0 ≤ _; omega⟩
    | true => exact ⟨_, _, quoteV_good hv, quoteS_size hv⟩
  rw [hq.out]
  clear hq
  have hcv := Lib.run_convert_string_bytes (P := Tryd.prog) w2 9 26 5 q Tryd.underlying9 Tryd.underlying26 Tryd.underlying5
  have hR := Lib.hid (byteRow_new w2 q)
  have hb3 := Lib.hid (Lib.bytesWorld_below w2 5 q)
  have hz3 := Lib.bytesWorld_size w2 5 q
  generalize Lib.bytesWorld w2 5 q = w3 at hcv hR hb3 hz3
  generalize grownCap w2 q.size 0 5 = cap at hcv
  have hT3 := Lib.hid (hT2.out.below hb3.out)
  have hb23 := Lib.hid hb3.out
  replace hb3 := Lib.hid (hb2.out.trans (hb3.out.mono hb2.out.size))
  obtain ⟨A, hA⟩ : ∃ A, A = w2.heap.size := ⟨_, rfl⟩
  rw [← hA] at hcv hR hz3
  have hAw : w.heap.size ≤ A := by rw [hA]; exact hb2.out.size
  have hTs := Lib.hid (fun (p : Addr) (hp : A ≤ p.block) (v : Value) => tabs_set (w3 := w3) hT2.out hb23.out (hA ▸ hp) v)
  clear hT2 hb2 hA hb23
  have hz4 : A < w3.heap.size := by omega
  replace hz3 := Lib.hid hz3
  -- the loop over the five texts, whatever they are
  have key : ∀ (w4 : World) (b : ByteArray), Hid (Below w.heap.size w w4) → Hid (Tabs w4) → b.size ≤ 140737488355328 →
      FiveAt w (w4.alloc (.cells #[.string s, .string (⟨#[34]⟩ ++ s ++ ⟨#[34]⟩), .string q, .string b, .string (⟨#[34]⟩ ++ s ++ ⟨#[92, 34]⟩)] 9)) w4.heap.size := by
    intro w4 b hb4 hT4 hbs
    have hg : Below w4.heap.size w4 (w4.alloc (.cells #[.string s, .string (⟨#[34]⟩ ++ s ++ ⟨#[34]⟩), .string q, .string b, .string (⟨#[34]⟩ ++ s ++ ⟨#[92, 34]⟩)] 9)) := (Below.refl _ _).alloc (Nat.le_refl _) _
    refine ⟨hb4.out.trans (hg.mono hb4.out.size), ?_, hT4.out.below hg⟩
    refine texts_new (ts := [s, ⟨#[34]⟩ ++ s ++ ⟨#[34]⟩, q, b, ⟨#[34]⟩ ++ s ++ ⟨#[92, 34]⟩]) rfl rfl rfl ?_
    intro t ht
    simp at ht
    have e1 : (⟨#[34]⟩ : ByteArray).size = 1 := rfl
    have e2 : (⟨#[92, 34]⟩ : ByteArray).size = 2 := rfl
    rcases ht with rfl | rfl | rfl | rfl | rfl
    · omega
    · rw [ByteArray.size_append, ByteArray.size_append]; omega
    · exact hqs
    · exact hbs
    · rw [ByteArray.size_append, ByteArray.size_append]; omega
  replace key := Lib.hid key
  by_cases hz : 0 < q.size
  · obtain ⟨hp0, hp1⟩ := place at' q.size hz
    have hi0 : 0 ≤ at'.tmod q.size % q.size := Int.emod_nonneg _ (by omega)
    have hi1 : at'.tmod q.size % q.size < q.size := Int.emod_lt_of_pos _ (by omega)
    have hil : (at'.tmod q.size % q.size).toNat < q.data.toList.length := by simp; omega
    have hcell := (hR.out _ hil).1
    have hfree := (hR.out _ hil).2
    obtain ⟨u, hu⟩ : ∃ u : UInt8, c = u.toNat := ⟨UInt8.ofNat c.toNat, by simp; omega⟩
    have hR2 := byteRow_set hR.out hil u
    rw [← hu] at hR2
    have hcv2 := convert_row hR2 q.size cap (by simp)
    have hb5 := Lib.hid (hb3.out.setCell (p := ⟨A, (at'.tmod q.size % q.size).toNat, none⟩) hAw (.int .u8 c))
    have hT5 := Lib.hid (hTs.out ⟨A, (at'.tmod q.size % q.size).toNat, none⟩ (Nat.le_refl _) (.int .u8 c))
    have hF := Lib.hid (five_size (key.out _ ⟨(q.data.toList.set (at'.tmod q.size % q.size).toNat u).toArray⟩ hb5 hT5 (by show (q.data.toList.set _ u).toArray.size ≤ _; simpa using hqs)) (show (w3.setCell ⟨A, (at'.tmod q.size % q.size).toNat, none⟩ (.int .u8 c)).heap.size = w3.heap.size by simp [World.setCell]))
    clear hR2 hu
    go_wp2
    clear hcv hcv2 hi0 hi1 hil hcell hfree hp0 hp1 hz
    generalize (w3.setCell ⟨A, (at'.tmod q.size % q.size).toNat, none⟩ (.int .u8 c)).alloc (.cells #[.string s, .string (⟨#[34]⟩ ++ s ++ ⟨#[34]⟩), .string q, .string ⟨(q.data.toList.set (at'.tmod q.size % q.size).toNat u).toArray⟩, .string (⟨#[34]⟩ ++ s ++ ⟨#[92, 34]⟩)] 9) = w5 at hF ⊢
    generalize (at'.tmod (q.size : Int) + (q.size : Int)) % (q.size : Int) = z1
    generalize at'.tmod (q.size : Int) + (q.size : Int) = z2
    generalize w3.heap.size = A5 at hF ⊢
    replace key : True := trivial
    go_loopw [55] (fun i wr => ∃ k : Nat, k ≤ 5 ∧ i = .int .i64 k ∧ Hid (FiveAt w wr A5)) (fun i _ => 5 - (intOf i).toNat)
    case atStart => exact ⟨0, by omega, rfl, hF.out⟩
    case round =>
      clear hF
      obtain ⟨k, hk, rfl, hF⟩ := hrel
      by_cases hlt : k < 5
      · obtain ⟨t, hcell, hts⟩ := hF.out.2.1 k hlt
        go_wp2_with fail
        refine (unquote_any t _ hts hF.out.2.2.runes).mono ?_
        rintro e w6 ⟨rfl, hb6⟩
        replace hF := Lib.hid (five_below hF.out hb6)
        clear hb6 hcell
        rcases unq_ways t with hq | hq | ⟨u, hq, hr⟩
        · rw [hq.out]
          go_wp2_with fail
          refine (unquote_ref t _ hts hF.out.2.2.runes).mono ?_
          rintro e w7 ⟨rfl, hb7⟩
          replace hF := Lib.hid (five_below hF.out hb7)
          clear hb7
          rw [hq.out]
          go_wp2
          go_roundw
          case rel => exact ⟨k + 1, by omega, by go_num, hF.out⟩
          case measure => simp [intOf]; omega
        · rw [hq.out]
          go_wp2_with fail
          refine (unquote_ref t _ hts hF.out.2.2.runes).mono ?_
          rintro e w7 ⟨rfl, hb7⟩
          replace hF := Lib.hid (five_below hF.out hb7)
          clear hb7
          rw [hq.out]
          go_wp2
          go_roundw
          case rel => exact ⟨k + 1, by omega, by go_num, hF.out⟩
          case measure => simp [intOf]; omega
        · rw [hq.out]
          go_wp2_with fail
          refine (unquote_ref t _ hts hF.out.2.2.runes).mono ?_
          rintro e w7 ⟨rfl, hb7⟩
          replace hF := Lib.hid (five_below hF.out hb7)
          clear hb7
          rw [hq.out]
          go_wp2_with fail
          refine (quote_any u _ hF.out.2.2.runes).mono ?_
          rintro e w8 ⟨rfl, hb8⟩
          replace hF := Lib.hid (five_below hF.out hb8)
          clear hb8
          rw [hr.out]
          go_wp2
          go_roundw
          case rel => exact ⟨k + 1, by omega, by go_num, hF.out⟩
          case measure => simp [intOf]; omega
      · go_wp2
        go_ret
        exact ⟨rfl, hF.out.1⟩
  · have hcv2 := convert_row hR.out q.size cap (by simp)
    have hF := Lib.hid (key.out w3 ⟨q.data.toList.toArray⟩ hb3 hT3 (by show q.data.toList.toArray.size ≤ _; simpa using hqs))
    have hdz : decide ((0 : Int) < q.size) = false := decide_eq_false (by omega)
    have hdz2 : decide (0 < q.size) = false := decide_eq_false (by omega)
    go_wp2
    clear hcv hcv2 hdz hdz2 hz
    generalize w3.alloc (.cells #[.string s, .string (⟨#[34]⟩ ++ s ++ ⟨#[34]⟩), .string q, .string ⟨q.data.toList.toArray⟩, .string (⟨#[34]⟩ ++ s ++ ⟨#[92, 34]⟩)] 9) = w5 at hF ⊢
    generalize w3.heap.size = A5 at hF ⊢
    replace key : True := trivial
    go_loopw [55] (fun i wr => ∃ k : Nat, k ≤ 5 ∧ i = .int .i64 k ∧ Hid (FiveAt w wr A5)) (fun i _ => 5 - (intOf i).toNat)
    case atStart => exact ⟨0, by omega, rfl, hF.out⟩
    case round =>
      clear hF
      obtain ⟨k, hk, rfl, hF⟩ := hrel
      by_cases hlt : k < 5
      · obtain ⟨t, hcell, hts⟩ := hF.out.2.1 k hlt
        go_wp2_with fail
        refine (unquote_any t _ hts hF.out.2.2.runes).mono ?_
        rintro e w6 ⟨rfl, hb6⟩
        replace hF := Lib.hid (five_below hF.out hb6)
        clear hb6 hcell
        rcases unq_ways t with hq | hq | ⟨u, hq, hr⟩
        · rw [hq.out]
          go_wp2_with fail
          refine (unquote_ref t _ hts hF.out.2.2.runes).mono ?_
          rintro e w7 ⟨rfl, hb7⟩
          replace hF := Lib.hid (five_below hF.out hb7)
          clear hb7
          rw [hq.out]
          go_wp2
          go_roundw
          case rel => exact ⟨k + 1, by omega, by go_num, hF.out⟩
          case measure => simp [intOf]; omega
        · rw [hq.out]
          go_wp2_with fail
          refine (unquote_ref t _ hts hF.out.2.2.runes).mono ?_
          rintro e w7 ⟨rfl, hb7⟩
          replace hF := Lib.hid (five_below hF.out hb7)
          clear hb7
          rw [hq.out]
          go_wp2
          go_roundw
          case rel => exact ⟨k + 1, by omega, by go_num, hF.out⟩
          case measure => simp [intOf]; omega
        · rw [hq.out]
          go_wp2_with fail
          refine (unquote_ref t _ hts hF.out.2.2.runes).mono ?_
          rintro e w7 ⟨rfl, hb7⟩
          replace hF := Lib.hid (five_below hF.out hb7)
          clear hb7
          rw [hq.out]
          go_wp2_with fail
          refine (quote_any u _ hF.out.2.2.runes).mono ?_
          rintro e w8 ⟨rfl, hb8⟩
          replace hF := Lib.hid (five_below hF.out hb8)
          clear hb8
          rw [hr.out]
          go_wp2
          go_roundw
          case rel => exact ⟨k + 1, by omega, by go_num, hF.out⟩
          case measure => simp [intOf]; omega
      · go_wp2
        go_ret
        exact ⟨rfl, hF.out.1⟩

end Go.Proofs.YtppljigkilccdaaDoor.law
