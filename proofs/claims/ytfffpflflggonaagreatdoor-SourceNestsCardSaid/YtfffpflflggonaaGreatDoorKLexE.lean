/- The token at a place of a text, or the error: the reference's next, way by way. -/
import Derived.Test.YtfffpflflggonaaGreatDoorKS42
namespace Go.Proofs.YtfffpflflggonaaGreatDoor.lex
open Go.RowKit Go.Proofs.YtfffpflflggonaaGreatDoor.text Go.Proofs.YtfffpflflggonaaGreatDoor.value

set_option maxRecDepth 100000 in
set_option maxHeartbeats 4000000 in
theorem nref_word (s : ByteArray) (i : Nat) (w : World) (h0 : i < s.size) (hs : s.size ≤ 30000) (hT : Tabs w) (hl : letB s[i] = true) :
    Calls Tryz.prog 47 #[.string s, .int .i64 i] w (NextPost (s.data.toList.drop i) i w) := by
  have hcons := Lib.hid (drop_byte s i h0)
  have hx := Lib.hid ((congrArg nextS hcons.out).trans (nx_word (r := s.data.toList.drop (i + 1)) hl))
  rw [← hcons.out] at hx
  replace hT := Lib.hid hT
  have hO := Lib.hid (Own.new w #[.int .i64 0, .string ⟨#[]⟩, .int .i64 0, .int .i64 0] 61)
  have hB := Lib.hid ((Below.refl w.heap.size w).alloc (Nat.le_refl _) (.cells #[.int .i64 0, .string ⟨#[]⟩, .int .i64 0, .int .i64 0] 61))
  go_enter Tryz.func47, Tryz.ntmps47
  go_wp2_with fail
  generalize w.alloc (.cells #[.int .i64 0, .string ⟨#[]⟩, .int .i64 0, .int .i64 0] 61) = w0 at hO hB ⊢
  refine (letter_ref s[i] _).mono ?_
  rintro e w1 ⟨rfl, rfl⟩
  obtain ⟨c0, c1, c2, c3, f0, f1, f2, f3⟩ := own4 hO.out
  rw [hl]
  clear hl
  go_wp2
  go_loop [8] (fun k' => ∃ k : Nat, k' = .int .i64 k ∧ k ≤ s.size ∧ Hid (SpanOff wordB s.data.toList (i + 1) k)) (fun k' => s.size - (intOf k').toNat)
  case atStart => exact ⟨i + 1, by go_num, by omega, SpanOff.start _ _ _⟩
  case round =>
    obtain ⟨k, rfl, hk, hT2⟩ := hrel
    by_cases hlt : k < s.size
    · cases hwb : wordB s[k] with
      | true =>
        have hN := Lib.hid (hT2.out.next hlt hwb)
        go_wp2_with fail
        refine (letter_ref s[k] _).mono ?_
        rintro e w1 ⟨rfl, rfl⟩
        cases hl : letB s[k] with
        | true =>
          clear hwb hT2 hl
          go_wp2
          go_round
          case rel => exact ⟨k + 1, by go_num, by omega, hN.out⟩
          case measure => simp [intOf]; omega
        | false =>
          go_wp2_with fail
          refine (digit_ref s[k] _).mono ?_
          rintro e w1 ⟨rfl, rfl⟩
          cases hd : digB s[k] with
          | true =>
            clear hwb hT2 hl hd
            go_wp2
            go_round
            case rel => exact ⟨k + 1, by go_num, by omega, hN.out⟩
            case measure => simp [intOf]; omega
          | false =>
            by_cases h45 : s[k].toNat = 45
            · have q45 := eq_yes (show (s[k].toNat : Int) = 45 by omega)
              clear hwb hT2 hl hd h45
              go_wp2
              go_round
              case rel => exact ⟨k + 1, by go_num, by omega, hN.out⟩
              case measure => simp [intOf]; omega
            · have q45 := eq_no (show (s[k].toNat : Int) ≠ 45 by omega)
              have h95 : s[k].toNat = 95 := by
                apply Classical.byContradiction
                intro h95
                rw [wordB_no hl hd h45 h95] at hwb
                cases hwb
              have q95 := eq_yes (show (s[k].toNat : Int) = 95 by omega)
              clear hwb hT2 hl hd h45 h95
              go_wp2
              go_round
              case rel => exact ⟨k + 1, by go_num, by omega, hN.out⟩
              case measure => simp [intOf]; omega
      | false =>
        have hE := Lib.hid (hT2.out.stop hlt hwb)
        have hE2 := Lib.hid (show 1 + spanN wordB (s.data.toList.drop (i + 1)) = k - i by have := hE.out; omega)
        have hl : letB s[k] = false := by
          cases hl : letB s[k] with
          | false => rfl
          | true => rw [word_let hl] at hwb; cases hwb
        have hd : digB s[k] = false := by
          cases hd : digB s[k] with
          | false => rfl
          | true => rw [wordB_dig hd] at hwb; cases hwb
        have q45 : ((s[k].toNat : Int) == 45) = false := eq_no (by intro e; rw [wordB_45 (by omega)] at hwb; cases hwb)
        have q95 : ((s[k].toNat : Int) == 95) = false := eq_no (by intro e; rw [wordB_95 (by omega)] at hwb; cases hwb)
        clear hwb hT2
        go_wp2_with fail
        refine (letter_ref s[k] _).mono ?_
        rintro e w1 ⟨rfl, rfl⟩
        rw [hl]
        clear hl
        go_wp2_with fail
        refine (digit_ref s[k] _).mono ?_
        rintro e w1 ⟨rfl, rfl⟩
        rw [hd]
        clear hd
        obtain ⟨t, ht⟩ : ∃ t, Hid (t = s.extract i k) := ⟨_, rfl⟩
        have hik : i ≤ k := by have := hE.out; omega
        go_wp2
        try rw [← ht.out]
        refine bodyPost_ret (v := .tuple #[.agg #[.int .i64 1, .string t, .int .i64 0, .int .i64 0], .int .i64 k, .int .i64 0]) (by simp [results, Tryz.results47, go_sem, c0, c1, c2, c3]) rfl ?_
        exact ⟨_, _, _, _, _, rfl, NextIs.good hx.out rfl (by rw [ht.out, Lib.extract_data, ← hE2.out]) rfl (by have := hE.out; omega), (((hB.out.setCell (by simp) _).setCell (by simp) _).setCell (by simp) _).setCell (by simp) _⟩
    · have hE := Lib.hid (hT2.out.done hlt)
      have hE2 := Lib.hid (show 1 + spanN wordB (s.data.toList.drop (i + 1)) = k - i by have := hE.out; omega)
      clear hT2
      obtain ⟨t, ht⟩ : ∃ t, Hid (t = s.extract i k) := ⟨_, rfl⟩
      have hik : i ≤ k := by have := hE.out; omega
      go_wp2
      try rw [← ht.out]
      refine bodyPost_ret (v := .tuple #[.agg #[.int .i64 1, .string t, .int .i64 0, .int .i64 0], .int .i64 k, .int .i64 0]) (by simp [results, Tryz.results47, go_sem, c0, c1, c2, c3]) rfl ?_
      exact ⟨_, _, _, _, _, rfl, NextIs.good hx.out rfl (by rw [ht.out, Lib.extract_data, ← hE2.out]) rfl (by have := hE.out; omega), (((hB.out.setCell (by simp) _).setCell (by simp) _).setCell (by simp) _).setCell (by simp) _⟩

set_option maxRecDepth 100000 in
set_option maxHeartbeats 4000000 in
theorem nref_digit (s : ByteArray) (i : Nat) (w : World) (h0 : i < s.size) (hs : s.size ≤ 30000) (hT : Tabs w) (hl : letB s[i] = false) (hd : digB s[i] = true) :
    Calls Tryz.prog 47 #[.string s, .int .i64 i] w (NextPost (s.data.toList.drop i) i w) := by
  have hcons := Lib.hid (drop_byte s i h0)
  have hLB := Lib.hid hl
  have hTT := Lib.hid hT
  have hn := Lib.hid (show numStart s[i] (s.data.toList.drop (i + 1)) = true by unfold numStart; rw [hd]; rfl)
  replace hT := Lib.hid hT
  have hO := Lib.hid (Own.new w #[.int .i64 0, .string ⟨#[]⟩, .int .i64 0, .int .i64 0] 61)
  have hB := Lib.hid ((Below.refl w.heap.size w).alloc (Nat.le_refl _) (.cells #[.int .i64 0, .string ⟨#[]⟩, .int .i64 0, .int .i64 0] 61))
  go_enter Tryz.func47, Tryz.ntmps47
  go_wp2_with fail
  generalize w.alloc (.cells #[.int .i64 0, .string ⟨#[]⟩, .int .i64 0, .int .i64 0] 61) = w0 at hO hB ⊢
  refine (letter_ref s[i] _).mono ?_
  rintro e w1 ⟨rfl, rfl⟩
  obtain ⟨c0, c1, c2, c3, f0, f1, f2, f3⟩ := own4 hO.out
  rw [hl]
  clear hl
  go_wp2_with fail
  refine (digit_ref s[i] _).mono ?_
  rintro e w1 ⟨rfl, rfl⟩
  rw [hd]
  clear hd
  go_wp2
  go_loop [8] (fun k' => ∃ k : Nat, k' = .int .i64 k ∧ k ≤ s.size ∧ Hid (SpanOff numB s.data.toList (i + 1) k)) (fun k' => s.size - (intOf k').toNat)
  case atStart => exact ⟨i + 1, by go_num, by omega, SpanOff.start _ _ _⟩
  case round =>
    obtain ⟨k, rfl, hk, hT2⟩ := hrel
    by_cases hlt : k < s.size
    · cases hd : digB s[k] with
      | true =>
        have hN := Lib.hid (hT2.out.next hlt (numB_dig hd))
        go_wp2_with fail
        refine (digit_ref s[k] _).mono ?_
        rintro e w1 ⟨rfl, rfl⟩
        rw [hd]
        clear hT2 hd
        go_wp2
        go_round
        case rel => exact ⟨k + 1, by go_num, by omega, hN.out⟩
        case measure => simp [intOf]; omega
      | false =>
        by_cases h46 : s[k].toNat = 46
        · have hN := Lib.hid (hT2.out.next hlt (numB_46 h46))
          have q46 := eq_yes (show (s[k].toNat : Int) = 46 by omega)
          clear h46 hT2
          go_wp2_with fail
          refine (digit_ref s[k] _).mono ?_
          rintro e w1 ⟨rfl, rfl⟩
          rw [hd]
          clear hd
          go_wp2
          go_round
          case rel => exact ⟨k + 1, by go_num, by omega, hN.out⟩
          case measure => simp [intOf]; omega
        · have hE := Lib.hid (hT2.out.stop hlt (numB_no hd h46))
          have hE2 := Lib.hid (show 1 + spanN numB (s.data.toList.drop (i + 1)) = k - i by have := hE.out; omega)
          have q46 := eq_no (show (s[k].toNat : Int) ≠ 46 by omega)
          clear h46 hT2
          go_wp2_with fail
          refine (digit_ref s[k] _).mono ?_
          rintro e w1 ⟨rfl, rfl⟩
          rw [hd]
          clear hd
          obtain ⟨t, ht⟩ : ∃ t, Hid (t = s.extract i k) := ⟨_, rfl⟩
          have hik : i ≤ k := by have := hE.out; omega
          have htz : t.size ≤ 30000 := by rw [ht.out]; simp; omega
          have htd := Lib.hid (show (s[i] :: s.data.toList.drop (i + 1)).take (1 + spanN numB (s.data.toList.drop (i + 1))) = t.data.toList by rw [← hcons.out, ht.out, Lib.extract_data, ← hE2.out])
          go_wp2_with fail
          try rw [← ht.out]
          refine (number_tok t _ htz (hTT.out.below hB.out)).mono ?_
          rintro e w2 ⟨K, T, X, err, rfl, hN, hb2⟩
          have hx := Lib.hid (show NextIs (s.data.toList.drop i) i K T X k err by rw [hcons.out]; exact NextIs.num hLB.out hn.out htd.out hN _ _ (by have := hE.out; omega))
          have hO2 := Lib.hid (hO.out.below hb2 hO.out.lt)
          have hB2 := Lib.hid (hB.out.trans (hb2.mono hB.out.size))
          have hlt2 : w.heap.size < w2.heap.size := by have := hb2.size; have := hO.out.lt; omega
          clear hb2 hN c0 c1 c2 c3 f0 f1 f2 f3
          obtain ⟨c0, c1, c2, c3, f0, f1, f2, f3⟩ := own4 hO2.out
          go_wp2
          refine bodyPost_ret (v := .tuple #[.agg #[.int .i64 K, .string T, .int .i64 X, .int .i64 0], .int .i64 k, .int .i64 err]) (by simp [results, Tryz.results47, go_sem, c0, c1, c2, c3, hlt2]) rfl ?_
          exact ⟨_, _, _, _, _, rfl, hx.out, ((((hB2.out.setCell (by simp) _).setCell (by simp) _).setCell (by simp) _).setCell (by simp) _).alloc (by simp [World.setCell]; omega) _⟩
    · have hE := Lib.hid (hT2.out.done hlt)
      have hE2 := Lib.hid (show 1 + spanN numB (s.data.toList.drop (i + 1)) = k - i by have := hE.out; omega)
      clear hT2
      obtain ⟨t, ht⟩ : ∃ t, Hid (t = s.extract i k) := ⟨_, rfl⟩
      have hik : i ≤ k := by have := hE.out; omega
      have htz : t.size ≤ 30000 := by rw [ht.out]; simp; omega
      have htd := Lib.hid (show (s[i] :: s.data.toList.drop (i + 1)).take (1 + spanN numB (s.data.toList.drop (i + 1))) = t.data.toList by rw [← hcons.out, ht.out, Lib.extract_data, ← hE2.out])
      go_wp2_with fail
      try rw [← ht.out]
      refine (number_tok t _ htz (hTT.out.below hB.out)).mono ?_
      rintro e w2 ⟨K, T, X, err, rfl, hN, hb2⟩
      have hx := Lib.hid (show NextIs (s.data.toList.drop i) i K T X k err by rw [hcons.out]; exact NextIs.num hLB.out hn.out htd.out hN _ _ (by have := hE.out; omega))
      have hO2 := Lib.hid (hO.out.below hb2 hO.out.lt)
      have hB2 := Lib.hid (hB.out.trans (hb2.mono hB.out.size))
      have hlt2 : w.heap.size < w2.heap.size := by have := hb2.size; have := hO.out.lt; omega
      clear hb2 hN c0 c1 c2 c3 f0 f1 f2 f3
      obtain ⟨c0, c1, c2, c3, f0, f1, f2, f3⟩ := own4 hO2.out
      go_wp2
      refine bodyPost_ret (v := .tuple #[.agg #[.int .i64 K, .string T, .int .i64 X, .int .i64 0], .int .i64 k, .int .i64 err]) (by simp [results, Tryz.results47, go_sem, c0, c1, c2, c3, hlt2]) rfl ?_
      exact ⟨_, _, _, _, _, rfl, hx.out, ((((hB2.out.setCell (by simp) _).setCell (by simp) _).setCell (by simp) _).setCell (by simp) _).alloc (by simp [World.setCell]; omega) _⟩

set_option maxRecDepth 100000 in
set_option maxHeartbeats 4000000 in
theorem nref_minus (s : ByteArray) (i : Nat) (w : World) (h0 : i < s.size) (hs : s.size ≤ 30000) (hT : Tabs w) (hl : letB s[i] = false) (hd : digB s[i] = false) (h45 : s[i].toNat = 45) (h1 : i + 1 < s.size) (hd1 : digB s[i + 1] = true) :
    Calls Tryz.prog 47 #[.string s, .int .i64 i] w (NextPost (s.data.toList.drop i) i w) := by
  have hcons := Lib.hid (drop_byte s i h0)
  have hLB := Lib.hid hl
  have hTT := Lib.hid hT
  have hn := Lib.hid (show numStart s[i] (s.data.toList.drop (i + 1)) = true by unfold numStart; rw [hd, sec_at h1, hd1, h45]; rfl)
  replace h45 := Lib.hid h45
  replace hT := Lib.hid hT
  have hO := Lib.hid (Own.new w #[.int .i64 0, .string ⟨#[]⟩, .int .i64 0, .int .i64 0] 61)
  have hB := Lib.hid ((Below.refl w.heap.size w).alloc (Nat.le_refl _) (.cells #[.int .i64 0, .string ⟨#[]⟩, .int .i64 0, .int .i64 0] 61))
  go_enter Tryz.func47, Tryz.ntmps47
  go_wp2_with fail
  generalize w.alloc (.cells #[.int .i64 0, .string ⟨#[]⟩, .int .i64 0, .int .i64 0] 61) = w0 at hO hB ⊢
  refine (letter_ref s[i] _).mono ?_
  rintro e w1 ⟨rfl, rfl⟩
  obtain ⟨c0, c1, c2, c3, f0, f1, f2, f3⟩ := own4 hO.out
  rw [hl]
  clear hl
  go_wp2_with fail
  refine (digit_ref s[i] _).mono ?_
  rintro e w1 ⟨rfl, rfl⟩
  rw [hd]
  clear hd
  have q45 := eq_yes (show (s[i].toNat : Int) = 45 by rw [h45.out]; rfl)
  go_wp2_with fail
  refine (digit_ref s[i + 1] _).mono ?_
  rintro e w1 ⟨rfl, rfl⟩
  rw [hd1]
  clear hd1 q45
  go_wp2
  go_loop [8] (fun k' => ∃ k : Nat, k' = .int .i64 k ∧ k ≤ s.size ∧ Hid (SpanOff numB s.data.toList (i + 1) k)) (fun k' => s.size - (intOf k').toNat)
  case atStart => exact ⟨i + 1, by go_num, by omega, SpanOff.start _ _ _⟩
  case round =>
    obtain ⟨k, rfl, hk, hT2⟩ := hrel
    by_cases hlt : k < s.size
    · cases hd : digB s[k] with
      | true =>
        have hN := Lib.hid (hT2.out.next hlt (numB_dig hd))
        go_wp2_with fail
        refine (digit_ref s[k] _).mono ?_
        rintro e w1 ⟨rfl, rfl⟩
        rw [hd]
        clear hT2 hd
        go_wp2
        go_round
        case rel => exact ⟨k + 1, by go_num, by omega, hN.out⟩
        case measure => simp [intOf]; omega
      | false =>
        by_cases h46 : s[k].toNat = 46
        · have hN := Lib.hid (hT2.out.next hlt (numB_46 h46))
          have q46 := eq_yes (show (s[k].toNat : Int) = 46 by omega)
          clear h46 hT2
          go_wp2_with fail
          refine (digit_ref s[k] _).mono ?_
          rintro e w1 ⟨rfl, rfl⟩
          rw [hd]
          clear hd
          go_wp2
          go_round
          case rel => exact ⟨k + 1, by go_num, by omega, hN.out⟩
          case measure => simp [intOf]; omega
        · have hE := Lib.hid (hT2.out.stop hlt (numB_no hd h46))
          have hE2 := Lib.hid (show 1 + spanN numB (s.data.toList.drop (i + 1)) = k - i by have := hE.out; omega)
          have q46 := eq_no (show (s[k].toNat : Int) ≠ 46 by omega)
          clear h46 hT2
          go_wp2_with fail
          refine (digit_ref s[k] _).mono ?_
          rintro e w1 ⟨rfl, rfl⟩
          rw [hd]
          clear hd
          obtain ⟨t, ht⟩ : ∃ t, Hid (t = s.extract i k) := ⟨_, rfl⟩
          have hik : i ≤ k := by have := hE.out; omega
          have htz : t.size ≤ 30000 := by rw [ht.out]; simp; omega
          have htd := Lib.hid (show (s[i] :: s.data.toList.drop (i + 1)).take (1 + spanN numB (s.data.toList.drop (i + 1))) = t.data.toList by rw [← hcons.out, ht.out, Lib.extract_data, ← hE2.out])
          go_wp2_with fail
          try rw [← ht.out]
          refine (number_tok t _ htz (hTT.out.below hB.out)).mono ?_
          rintro e w2 ⟨K, T, X, err, rfl, hN, hb2⟩
          have hx := Lib.hid (show NextIs (s.data.toList.drop i) i K T X k err by rw [hcons.out]; exact NextIs.num hLB.out hn.out htd.out hN _ _ (by have := hE.out; omega))
          have hO2 := Lib.hid (hO.out.below hb2 hO.out.lt)
          have hB2 := Lib.hid (hB.out.trans (hb2.mono hB.out.size))
          have hlt2 : w.heap.size < w2.heap.size := by have := hb2.size; have := hO.out.lt; omega
          clear hb2 hN c0 c1 c2 c3 f0 f1 f2 f3
          obtain ⟨c0, c1, c2, c3, f0, f1, f2, f3⟩ := own4 hO2.out
          go_wp2
          refine bodyPost_ret (v := .tuple #[.agg #[.int .i64 K, .string T, .int .i64 X, .int .i64 0], .int .i64 k, .int .i64 err]) (by simp [results, Tryz.results47, go_sem, c0, c1, c2, c3, hlt2]) rfl ?_
          exact ⟨_, _, _, _, _, rfl, hx.out, ((((hB2.out.setCell (by simp) _).setCell (by simp) _).setCell (by simp) _).setCell (by simp) _).alloc (by simp [World.setCell]; omega) _⟩
    · have hE := Lib.hid (hT2.out.done hlt)
      have hE2 := Lib.hid (show 1 + spanN numB (s.data.toList.drop (i + 1)) = k - i by have := hE.out; omega)
      clear hT2
      obtain ⟨t, ht⟩ : ∃ t, Hid (t = s.extract i k) := ⟨_, rfl⟩
      have hik : i ≤ k := by have := hE.out; omega
      have htz : t.size ≤ 30000 := by rw [ht.out]; simp; omega
      have htd := Lib.hid (show (s[i] :: s.data.toList.drop (i + 1)).take (1 + spanN numB (s.data.toList.drop (i + 1))) = t.data.toList by rw [← hcons.out, ht.out, Lib.extract_data, ← hE2.out])
      go_wp2_with fail
      try rw [← ht.out]
      refine (number_tok t _ htz (hTT.out.below hB.out)).mono ?_
      rintro e w2 ⟨K, T, X, err, rfl, hN, hb2⟩
      have hx := Lib.hid (show NextIs (s.data.toList.drop i) i K T X k err by rw [hcons.out]; exact NextIs.num hLB.out hn.out htd.out hN _ _ (by have := hE.out; omega))
      have hO2 := Lib.hid (hO.out.below hb2 hO.out.lt)
      have hB2 := Lib.hid (hB.out.trans (hb2.mono hB.out.size))
      have hlt2 : w.heap.size < w2.heap.size := by have := hb2.size; have := hO.out.lt; omega
      clear hb2 hN c0 c1 c2 c3 f0 f1 f2 f3
      obtain ⟨c0, c1, c2, c3, f0, f1, f2, f3⟩ := own4 hO2.out
      go_wp2
      refine bodyPost_ret (v := .tuple #[.agg #[.int .i64 K, .string T, .int .i64 X, .int .i64 0], .int .i64 k, .int .i64 err]) (by simp [results, Tryz.results47, go_sem, c0, c1, c2, c3, hlt2]) rfl ?_
      exact ⟨_, _, _, _, _, rfl, hx.out, ((((hB2.out.setCell (by simp) _).setCell (by simp) _).setCell (by simp) _).setCell (by simp) _).alloc (by simp [World.setCell]; omega) _⟩

set_option maxRecDepth 100000 in
set_option maxHeartbeats 4000000 in
theorem nref_text (s : ByteArray) (i : Nat) (w : World) (h0 : i < s.size) (hs : s.size ≤ 30000) (hT : Tabs w) (h34 : s[i].toNat = 34) :
    Calls Tryz.prog 47 #[.string s, .int .i64 i] w (NextPost (s.data.toList.drop i) i w) := by
  have hcons := Lib.hid (drop_byte s i h0)
  have hl : letB s[i] = false := letB_low (by omega)
  have hd : digB s[i] = false := digB_low (by omega)
  have hTT := Lib.hid hT
  have hways := text_ways (c := s[i]) (r := s.data.toList.drop (i + 1)) h34
  replace h34 := Lib.hid h34
  replace hways := Lib.hid hways
  replace hT := Lib.hid hT
  have hO := Lib.hid (Own.new w #[.int .i64 0, .string ⟨#[]⟩, .int .i64 0, .int .i64 0] 61)
  have hB := Lib.hid ((Below.refl w.heap.size w).alloc (Nat.le_refl _) (.cells #[.int .i64 0, .string ⟨#[]⟩, .int .i64 0, .int .i64 0] 61))
  go_enter Tryz.func47, Tryz.ntmps47
  go_wp2_with fail
  generalize w.alloc (.cells #[.int .i64 0, .string ⟨#[]⟩, .int .i64 0, .int .i64 0] 61) = w0 at hO hB ⊢
  refine (letter_ref s[i] _).mono ?_
  rintro e w1 ⟨rfl, rfl⟩
  obtain ⟨c0, c1, c2, c3, f0, f1, f2, f3⟩ := own4 hO.out
  rw [hl]
  clear hl
  go_wp2_with fail
  refine (digit_ref s[i] _).mono ?_
  rintro e w1 ⟨rfl, rfl⟩
  rw [hd]
  clear hd
  have q45 := eq_no (show (s[i].toNat : Int) ≠ 45 by rw [h34.out]; decide)
  have q34 := eq_yes (show (s[i].toNat : Int) = 34 by rw [h34.out]; rfl)
  go_wp2_with fail
  refine (quoted_ref s i _ (by omega) h0).mono ?_
  rintro e w1 ⟨rfl, rfl⟩
  replace hways := hways.out
  rcases hways with ⟨hq, hx⟩ | ⟨k, hq, hways⟩
  · rw [lqM_none hq]
    replace hx := Lib.hid ((congrArg nextS hcons.out).trans hx)
    clear hq
    go_wp2
    refine bodyPost_ret (v := .tuple #[.agg #[.int .i64 0, .string ⟨#[]⟩, .int .i64 0, .int .i64 0], .int .i64 0, .int .i64 1]) (by simp [results, Tryz.results47, go_sem, c0, c1, c2, c3]) rfl ?_
    exact ⟨_, _, _, _, _, rfl, NextIs.bad hx.out (by decide) _ _ _ _ _, (((hB.out.setCell (by simp) _).setCell (by simp) _).setCell (by simp) _).setCell (by simp) _⟩
  · have hk := lqS_le _ _ _ hq
    have hkz : i + 1 + k ≤ s.size := by have := hk.2; simp at this; omega
    rw [lqM_some hq]
    obtain ⟨m, hm⟩ : ∃ m, Hid (m = i + 1 + k) := ⟨_, rfl⟩
    have hmz : m ≤ s.size := by rw [hm.out]; exact hkz
    have hm0 : i ≤ m := by rw [hm.out]; omega
    rw [show (((i + 1 : Nat) : Int) + (k : Int)) = (m : Int) by rw [hm.out]; simp]
    obtain ⟨t, ht⟩ : ∃ t, Hid (t = s.extract i m) := ⟨_, rfl⟩
    have htd : (s.data.toList.drop i).take (1 + k) = t.data.toList := by rw [ht.out, hm.out, Lib.extract_data]; congr 1; omega
    rw [← hcons.out, htd] at hways
    have htz : t.size ≤ 30000 := by rw [ht.out]; simp; omega
    clear hk hkz hq htd
    go_wp2_with fail
    try rw [← ht.out]
    refine (unquote_ref t _ (by omega) (hTT.out.below hB.out).runes).mono ?_
    rintro e w2 ⟨rfl, hb2⟩
    have hO2 := Lib.hid (hO.out.below hb2 hO.out.lt)
    have hB2 := Lib.hid (hB.out.trans (hb2.mono hB.out.size))
    clear hb2 c0 c1 c2 c3 f0 f1 f2 f3
    obtain ⟨c0, c1, c2, c3, f0, f1, f2, f3⟩ := own4 hO2.out
    rcases hways with ⟨hu, hx⟩ | ⟨hu, hx⟩ | ⟨b, hu, hx⟩
    · rw [hu]
      replace hx := Lib.hid hx
      clear hu
      go_wp2
      refine bodyPost_ret (v := .tuple #[.agg #[.int .i64 3, .string ⟨#[]⟩, .int .i64 0, .int .i64 0], .int .i64 m, .int .i64 1]) (by simp [results, Tryz.results47, go_sem, c0, c1, c2, c3]) rfl ?_
      exact ⟨_, _, _, _, _, rfl, NextIs.bad hx.out (by decide) _ _ _ _ _, (((hB2.out.setCell (by simp) _).setCell (by simp) _).setCell (by simp) _).setCell (by simp) _⟩
    · rw [hu]
      replace hx := Lib.hid hx
      clear hu
      go_wp2
      refine bodyPost_ret (v := .tuple #[.agg #[.int .i64 3, .string ⟨#[]⟩, .int .i64 0, .int .i64 0], .int .i64 m, .int .i64 2]) (by simp [results, Tryz.results47, go_sem, c0, c1, c2, c3]) rfl ?_
      exact ⟨_, _, _, _, _, rfl, NextIs.bad hx.out (by decide) _ _ _ _ _, (((hB2.out.setCell (by simp) _).setCell (by simp) _).setCell (by simp) _).setCell (by simp) _⟩
    · rw [hu]
      replace hx := Lib.hid hx
      clear hu
      go_wp2
      refine bodyPost_ret (v := .tuple #[.agg #[.int .i64 3, .string ⟨b.toArray⟩, .int .i64 0, .int .i64 0], .int .i64 m, .int .i64 0]) (by simp [results, Tryz.results47, go_sem, c0, c1, c2, c3]) rfl ?_
      exact ⟨_, _, _, _, _, rfl, NextIs.good hx.out rfl rfl rfl (by rw [hm.out]; omega), (((hB2.out.setCell (by simp) _).setCell (by simp) _).setCell (by simp) _).setCell (by simp) _⟩

set_option maxRecDepth 100000 in
set_option maxHeartbeats 4000000 in
theorem nref_sign (s : ByteArray) (i : Nat) (w : World) (h0 : i < s.size) (hs : s.size ≤ 30000) (hT : Tabs w) (hl : letB s[i] = false) (hd : digB s[i] = false) (h34 : s[i].toNat ≠ 34) (h45 : s[i].toNat ≠ 45) (hang : ((decide (s[i].toNat = 60) || decide (s[i].toNat = 62)) && eqB (s.data.toList.drop (i + 1))) = false) :
    Calls Tryz.prog 47 #[.string s, .int .i64 i] w (NextPost (s.data.toList.drop i) i w) := by
  have hcons := Lib.hid (drop_byte s i h0)
  have hLB := Lib.hid hl
  have hn := Lib.hid (show numStart s[i] (s.data.toList.drop (i + 1)) = false by unfold numStart; rw [hd]; simp [h45])
  have hyes := Lib.hid (fun (hs : signB s[i] = true) => show nextS (s.data.toList.drop i) = .ok (⟨5, (s.data.toList.drop i).take 1, 0⟩, 1) from by
    have := nx_sign (r := s.data.toList.drop (i + 1)) hs
    rw [← hcons.out] at this
    rw [this, if_neg (by rw [Bool.not_eq_true]; exact hang)])
  have hno := Lib.hid (fun (hs : signB s[i] = false) => show nextS (s.data.toList.drop i) = .error 1 from (congrArg nextS hcons.out).trans (nx_none hLB.out hn.out h34 hs))
  replace hang := Lib.hid hang
  replace hT := Lib.hid hT
  have hO := Lib.hid (Own.new w #[.int .i64 0, .string ⟨#[]⟩, .int .i64 0, .int .i64 0] 61)
  have hB := Lib.hid ((Below.refl w.heap.size w).alloc (Nat.le_refl _) (.cells #[.int .i64 0, .string ⟨#[]⟩, .int .i64 0, .int .i64 0] 61))
  go_enter Tryz.func47, Tryz.ntmps47
  go_wp2_with fail
  generalize w.alloc (.cells #[.int .i64 0, .string ⟨#[]⟩, .int .i64 0, .int .i64 0] 61) = w0 at hO hB ⊢
  refine (letter_ref s[i] _).mono ?_
  rintro e w1 ⟨rfl, rfl⟩
  obtain ⟨c0, c1, c2, c3, f0, f1, f2, f3⟩ := own4 hO.out
  rw [hl]
  clear hl
  have q45 := eq_no (show (s[i].toNat : Int) ≠ 45 by omega)
  have q34 := eq_no (show (s[i].toNat : Int) ≠ 34 by omega)
  clear h45 h34
  go_wp2_with fail
  refine (digit_ref s[i] _).mono ?_
  rintro e w1 ⟨rfl, rfl⟩
  rw [hd]
  clear hd
  have key : ((((s[i].toNat : Int) == 60) = false ∧ ((s[i].toNat : Int) == 62) = false) ∨ ((((s[i].toNat : Int) == 60) = true ∨ (((s[i].toNat : Int) == 60) = false ∧ ((s[i].toNat : Int) == 62) = true)) ∧ (¬ i + 1 < s.size ∨ ∃ h : i + 1 < s.size, ((s[i + 1].toNat : Int) == 61) = false))) := by
    have h := hang.out
    by_cases h60 : s[i].toNat = 60
    · refine Or.inr ⟨Or.inl (eq_yes (by omega)), ?_⟩
      by_cases h1 : i + 1 < s.size
      · refine Or.inr ⟨h1, eq_no ?_⟩
        intro e
        rw [eq_at h1, decide_eq_true (show s[i + 1].toNat = 61 by omega), h60] at h
        cases h
      · exact Or.inl h1
    · by_cases h62 : s[i].toNat = 62
      · refine Or.inr ⟨Or.inr ⟨eq_no (by omega), eq_yes (by omega)⟩, ?_⟩
        by_cases h1 : i + 1 < s.size
        · refine Or.inr ⟨h1, eq_no ?_⟩
          intro e
          rw [eq_at h1, decide_eq_true (show s[i + 1].toNat = 61 by omega), h62] at h
          cases h
        · exact Or.inl h1
      · exact Or.inl ⟨eq_no (by omega), eq_no (by omega)⟩
  rcases key with ⟨q60, q62⟩ | ⟨q60 | ⟨q60, q62⟩, h1 | ⟨h1, q61⟩⟩
  all_goals
    go_wp2
    try clear q60
    try clear q62
    try clear q61
    try clear q45
    try clear q34
    go_loop [13] (fun j' => ∃ j : Nat, j' = .int .i64 j ∧ j ≤ 10 ∧ Hid (∀ q (hq : q < sgn.size), q < j → sgn[q].toNat ≠ s[i].toNat)) (fun j' => 10 - (intOf j').toNat)
    case atStart => exact ⟨0, rfl, by omega, fun q hq h => by omega⟩
    case round =>
      obtain ⟨j, rfl, hj, hM⟩ := hrel
      by_cases hlt : j < 10
      · have hjs : j < sgn.size := hlt
        by_cases he : (sgn[j].toNat : Int) = (s[i].toNat : Int)
        · have hx := Lib.hid (hyes.out (sgn_hit hjs he))
          have qe : ((((⟨#[123, 125, 40, 41, 91, 93, 44, 46, 60, 62]⟩ : ByteArray)[j]'hjs).toNat : Int) == (s[i].toNat : Int)) = true := eq_yes he
          obtain ⟨t, ht⟩ : ∃ t, Hid (t = s.extract i (i + 1)) := ⟨_, rfl⟩
          clear he hM
          go_wp2
          try rw [← ht.out]
          refine bodyPost_ret (v := .tuple #[.agg #[.int .i64 5, .string t, .int .i64 0, .int .i64 0], .int .i64 (i + 1 : Nat), .int .i64 0]) (by simp [results, Tryz.results47, go_sem, c0, c1, c2, c3]) rfl ?_
          exact ⟨_, _, _, _, _, rfl, NextIs.good hx.out rfl (by rw [ht.out, Lib.extract_data]; congr 1; omega) rfl (by simp), (((hB.out.setCell (by simp) _).setCell (by simp) _).setCell (by simp) _).setCell (by simp) _⟩
        · have hN := Lib.hid (show ∀ q (hq : q < sgn.size), q < j + 1 → sgn[q].toNat ≠ s[i].toNat by
            intro q hq h
            by_cases e : q = j
            · subst e; intro e2; exact he (by rw [e2])
            · exact hM.out q hq (by omega))
          have qe : ((((⟨#[123, 125, 40, 41, 91, 93, 44, 46, 60, 62]⟩ : ByteArray)[j]'hjs).toNat : Int) == (s[i].toNat : Int)) = false := eq_no he
          clear he hM
          go_wp2
          go_round
          case rel => exact ⟨j + 1, by go_num, by omega, hN.out⟩
          case measure => simp [intOf]; omega
      · obtain rfl : j = 10 := by omega
        have hx := Lib.hid (hno.out (sgn_miss hM.out))
        clear hM
        go_wp2
        refine bodyPost_ret (v := .tuple #[.agg #[.int .i64 0, .string ⟨#[]⟩, .int .i64 0, .int .i64 0], .int .i64 0, .int .i64 1]) (by simp [results, Tryz.results47, go_sem, c0, c1, c2, c3]) rfl ?_
        exact ⟨_, _, _, _, _, rfl, NextIs.bad hx.out (by decide) _ _ _ _ _, (((hB.out.setCell (by simp) _).setCell (by simp) _).setCell (by simp) _).setCell (by simp) _⟩

set_option maxRecDepth 100000 in
set_option maxHeartbeats 4000000 in
theorem nref_two (s : ByteArray) (i : Nat) (w : World) (h0 : i < s.size) (hs : s.size ≤ 30000) (hT : Tabs w) (hl : letB s[i] = false) (hd : digB s[i] = false) (h6 : s[i].toNat = 60 ∨ s[i].toNat = 62) (h1 : i + 1 < s.size) (h61 : s[i + 1].toNat = 61) :
    Calls Tryz.prog 47 #[.string s, .int .i64 i] w (NextPost (s.data.toList.drop i) i w) := by
  have hcons := Lib.hid (drop_byte s i h0)
  have hx : nextS (s.data.toList.drop i) = .ok (⟨5, (s.data.toList.drop i).take 2, 0⟩, 2) := by
    have hs : signB s[i] = true := by
      unfold signB
      rcases h6 with h | h <;> rw [h] <;> rfl
    have h := nx_sign (r := s.data.toList.drop (i + 1)) hs
    rw [← hcons.out] at h
    rw [h, if_pos]
    rw [eq_at h1, h61]
    rcases h6 with h | h <;> rw [h] <;> rfl
  replace hx := Lib.hid hx
  replace h6 := Lib.hid h6
  replace hT := Lib.hid hT
  have hO := Lib.hid (Own.new w #[.int .i64 0, .string ⟨#[]⟩, .int .i64 0, .int .i64 0] 61)
  have hB := Lib.hid ((Below.refl w.heap.size w).alloc (Nat.le_refl _) (.cells #[.int .i64 0, .string ⟨#[]⟩, .int .i64 0, .int .i64 0] 61))
  go_enter Tryz.func47, Tryz.ntmps47
  go_wp2_with fail
  generalize w.alloc (.cells #[.int .i64 0, .string ⟨#[]⟩, .int .i64 0, .int .i64 0] 61) = w0 at hO hB ⊢
  refine (letter_ref s[i] _).mono ?_
  rintro e w1 ⟨rfl, rfl⟩
  obtain ⟨c0, c1, c2, c3, f0, f1, f2, f3⟩ := own4 hO.out
  rw [hl]
  clear hl
  go_wp2_with fail
  refine (digit_ref s[i] _).mono ?_
  rintro e w1 ⟨rfl, rfl⟩
  rw [hd]
  clear hd
  have q45 := eq_no (show (s[i].toNat : Int) ≠ 45 by have := h6.out; omega)
  have q34 := eq_no (show (s[i].toNat : Int) ≠ 34 by have := h6.out; omega)
  have q61 := eq_yes (show (s[i + 1].toNat : Int) = 61 by omega)
  clear h61
  obtain ⟨t, ht⟩ : ∃ t, Hid (t = s.extract i (i + 2)) := ⟨_, rfl⟩
  have key : ((s[i].toNat : Int) == 60) = true ∨ (((s[i].toNat : Int) == 60) = false ∧ ((s[i].toNat : Int) == 62) = true) := by
    rcases h6.out with h | h
    · exact Or.inl (eq_yes (by omega))
    · exact Or.inr ⟨eq_no (by omega), eq_yes (by omega)⟩
  rcases key with q60 | ⟨q60, q62⟩
  all_goals
    go_wp2
    try rw [← ht.out]
    refine bodyPost_ret (v := .tuple #[.agg #[.int .i64 5, .string t, .int .i64 0, .int .i64 0], .int .i64 (i + 2 : Nat), .int .i64 0]) (by simp [results, Tryz.results47, go_sem, c0, c1, c2, c3]) rfl ?_
    exact ⟨_, _, _, _, _, rfl, NextIs.good hx.out rfl (by rw [ht.out, Lib.extract_data]; congr 1; omega) rfl (by simp), (((hB.out.setCell (by simp) _).setCell (by simp) _).setCell (by simp) _).setCell (by simp) _⟩

set_option maxRecDepth 100000 in
set_option maxHeartbeats 4000000 in
theorem nref_dash (s : ByteArray) (i : Nat) (w : World) (h0 : i < s.size) (hs : s.size ≤ 30000) (hT : Tabs w) (hl : letB s[i] = false) (hd : digB s[i] = false) (h45 : s[i].toNat = 45) (h1 : ¬ i + 1 < s.size ∨ ∃ h : i + 1 < s.size, digB s[i + 1] = false) :
    Calls Tryz.prog 47 #[.string s, .int .i64 i] w (NextPost (s.data.toList.drop i) i w) := by
  have hcons := Lib.hid (drop_byte s i h0)
  have hLB := Lib.hid hl
  have hn := Lib.hid (show numStart s[i] (s.data.toList.drop (i + 1)) = false by
    unfold numStart
    rw [hd]
    rcases h1 with h1 | ⟨h1, h2⟩
    · rw [sec_end h1]; simp
    · rw [sec_at h1, h2]; simp)
  have h34 : s[i].toNat ≠ 34 := by omega
  have hang : ((decide (s[i].toNat = 60) || decide (s[i].toNat = 62)) && eqB (s.data.toList.drop (i + 1))) = false := by rw [h45]; rfl
  have hyes := Lib.hid (fun (hs : signB s[i] = true) => show nextS (s.data.toList.drop i) = .ok (⟨5, (s.data.toList.drop i).take 1, 0⟩, 1) from by
    have := nx_sign (r := s.data.toList.drop (i + 1)) hs
    rw [← hcons.out] at this
    rw [this, if_neg (by rw [Bool.not_eq_true]; exact hang)])
  have hno := Lib.hid (fun (hs : signB s[i] = false) => show nextS (s.data.toList.drop i) = .error 1 from (congrArg nextS hcons.out).trans (nx_none hLB.out hn.out h34 hs))
  clear hang h34
  replace h45 := Lib.hid h45
  replace hT := Lib.hid hT
  have hO := Lib.hid (Own.new w #[.int .i64 0, .string ⟨#[]⟩, .int .i64 0, .int .i64 0] 61)
  have hB := Lib.hid ((Below.refl w.heap.size w).alloc (Nat.le_refl _) (.cells #[.int .i64 0, .string ⟨#[]⟩, .int .i64 0, .int .i64 0] 61))
  go_enter Tryz.func47, Tryz.ntmps47
  go_wp2_with fail
  generalize w.alloc (.cells #[.int .i64 0, .string ⟨#[]⟩, .int .i64 0, .int .i64 0] 61) = w0 at hO hB ⊢
  refine (letter_ref s[i] _).mono ?_
  rintro e w1 ⟨rfl, rfl⟩
  obtain ⟨c0, c1, c2, c3, f0, f1, f2, f3⟩ := own4 hO.out
  rw [hl]
  clear hl
  go_wp2_with fail
  refine (digit_ref s[i] _).mono ?_
  rintro e w1 ⟨rfl, rfl⟩
  rw [hd]
  clear hd
  have q45 := eq_yes (show (s[i].toNat : Int) = 45 by rw [h45.out]; rfl)
  have q34 := eq_no (show (s[i].toNat : Int) ≠ 34 by rw [h45.out]; decide)
  have q60 := eq_no (show (s[i].toNat : Int) ≠ 60 by rw [h45.out]; decide)
  have q62 := eq_no (show (s[i].toNat : Int) ≠ 62 by rw [h45.out]; decide)
  rcases h1 with h1 | ⟨h1, h2⟩
  · go_wp2
    clear q45 q34 q60 q62
    go_loop [13] (fun j' => ∃ j : Nat, j' = .int .i64 j ∧ j ≤ 10 ∧ Hid (∀ q (hq : q < sgn.size), q < j → sgn[q].toNat ≠ s[i].toNat)) (fun j' => 10 - (intOf j').toNat)
    case atStart => exact ⟨0, rfl, by omega, fun q hq h => by omega⟩
    case round =>
      obtain ⟨j, rfl, hj, hM⟩ := hrel
      by_cases hlt : j < 10
      · have hjs : j < sgn.size := hlt
        by_cases he : (sgn[j].toNat : Int) = (s[i].toNat : Int)
        · have hx := Lib.hid (hyes.out (sgn_hit hjs he))
          have qe : ((((⟨#[123, 125, 40, 41, 91, 93, 44, 46, 60, 62]⟩ : ByteArray)[j]'hjs).toNat : Int) == (s[i].toNat : Int)) = true := eq_yes he
          obtain ⟨t, ht⟩ : ∃ t, Hid (t = s.extract i (i + 1)) := ⟨_, rfl⟩
          clear he hM
          go_wp2
          try rw [← ht.out]
          refine bodyPost_ret (v := .tuple #[.agg #[.int .i64 5, .string t, .int .i64 0, .int .i64 0], .int .i64 (i + 1 : Nat), .int .i64 0]) (by simp [results, Tryz.results47, go_sem, c0, c1, c2, c3]) rfl ?_
          exact ⟨_, _, _, _, _, rfl, NextIs.good hx.out rfl (by rw [ht.out, Lib.extract_data]; congr 1; omega) rfl (by simp), (((hB.out.setCell (by simp) _).setCell (by simp) _).setCell (by simp) _).setCell (by simp) _⟩
        · have hN := Lib.hid (show ∀ q (hq : q < sgn.size), q < j + 1 → sgn[q].toNat ≠ s[i].toNat by
            intro q hq h
            by_cases e : q = j
            · subst e; intro e2; exact he (by rw [e2])
            · exact hM.out q hq (by omega))
          have qe : ((((⟨#[123, 125, 40, 41, 91, 93, 44, 46, 60, 62]⟩ : ByteArray)[j]'hjs).toNat : Int) == (s[i].toNat : Int)) = false := eq_no he
          clear he hM
          go_wp2
          go_round
          case rel => exact ⟨j + 1, by go_num, by omega, hN.out⟩
          case measure => simp [intOf]; omega
      · obtain rfl : j = 10 := by omega
        have hx := Lib.hid (hno.out (sgn_miss hM.out))
        clear hM
        go_wp2
        refine bodyPost_ret (v := .tuple #[.agg #[.int .i64 0, .string ⟨#[]⟩, .int .i64 0, .int .i64 0], .int .i64 0, .int .i64 1]) (by simp [results, Tryz.results47, go_sem, c0, c1, c2, c3]) rfl ?_
        exact ⟨_, _, _, _, _, rfl, NextIs.bad hx.out (by decide) _ _ _ _ _, (((hB.out.setCell (by simp) _).setCell (by simp) _).setCell (by simp) _).setCell (by simp) _⟩
  · go_wp2_with fail
    refine (digit_ref s[i + 1] _).mono ?_
    rintro e w1 ⟨rfl, rfl⟩
    rw [h2]
    clear h2
    go_wp2
    clear q45 q34 q60 q62
    go_loop [13] (fun j' => ∃ j : Nat, j' = .int .i64 j ∧ j ≤ 10 ∧ Hid (∀ q (hq : q < sgn.size), q < j → sgn[q].toNat ≠ s[i].toNat)) (fun j' => 10 - (intOf j').toNat)
    case atStart => exact ⟨0, rfl, by omega, fun q hq h => by omega⟩
    case round =>
      obtain ⟨j, rfl, hj, hM⟩ := hrel
      by_cases hlt : j < 10
      · have hjs : j < sgn.size := hlt
        by_cases he : (sgn[j].toNat : Int) = (s[i].toNat : Int)
        · have hx := Lib.hid (hyes.out (sgn_hit hjs he))
          have qe : ((((⟨#[123, 125, 40, 41, 91, 93, 44, 46, 60, 62]⟩ : ByteArray)[j]'hjs).toNat : Int) == (s[i].toNat : Int)) = true := eq_yes he
          obtain ⟨t, ht⟩ : ∃ t, Hid (t = s.extract i (i + 1)) := ⟨_, rfl⟩
          clear he hM
          go_wp2
          try rw [← ht.out]
          refine bodyPost_ret (v := .tuple #[.agg #[.int .i64 5, .string t, .int .i64 0, .int .i64 0], .int .i64 (i + 1 : Nat), .int .i64 0]) (by simp [results, Tryz.results47, go_sem, c0, c1, c2, c3]) rfl ?_
          exact ⟨_, _, _, _, _, rfl, NextIs.good hx.out rfl (by rw [ht.out, Lib.extract_data]; congr 1; omega) rfl (by simp), (((hB.out.setCell (by simp) _).setCell (by simp) _).setCell (by simp) _).setCell (by simp) _⟩
        · have hN := Lib.hid (show ∀ q (hq : q < sgn.size), q < j + 1 → sgn[q].toNat ≠ s[i].toNat by
            intro q hq h
            by_cases e : q = j
            · subst e; intro e2; exact he (by rw [e2])
            · exact hM.out q hq (by omega))
          have qe : ((((⟨#[123, 125, 40, 41, 91, 93, 44, 46, 60, 62]⟩ : ByteArray)[j]'hjs).toNat : Int) == (s[i].toNat : Int)) = false := eq_no he
          clear he hM
          go_wp2
          go_round
          case rel => exact ⟨j + 1, by go_num, by omega, hN.out⟩
          case measure => simp [intOf]; omega
      · obtain rfl : j = 10 := by omega
        have hx := Lib.hid (hno.out (sgn_miss hM.out))
        clear hM
        go_wp2
        refine bodyPost_ret (v := .tuple #[.agg #[.int .i64 0, .string ⟨#[]⟩, .int .i64 0, .int .i64 0], .int .i64 0, .int .i64 1]) (by simp [results, Tryz.results47, go_sem, c0, c1, c2, c3]) rfl ?_
        exact ⟨_, _, _, _, _, rfl, NextIs.bad hx.out (by decide) _ _ _ _ _, (((hB.out.setCell (by simp) _).setCell (by simp) _).setCell (by simp) _).setCell (by simp) _⟩

theorem next_ref (s : ByteArray) (i : Nat) (w : World) (h0 : i < s.size) (hs : s.size ≤ 30000) (hT : Tabs w) :
    Calls Tryz.prog 47 #[.string s, .int .i64 i] w (NextPost (s.data.toList.drop i) i w) := by
  cases hl : letB s[i] with
  | true => exact nref_word s i w h0 hs hT hl
  | false =>
    cases hd : digB s[i] with
    | true => exact nref_digit s i w h0 hs hT hl hd
    | false =>
      by_cases h34 : s[i].toNat = 34
      · exact nref_text s i w h0 hs hT h34
      by_cases h45 : s[i].toNat = 45
      · by_cases h1 : i + 1 < s.size
        · cases hd1 : digB s[i + 1] with
          | true => exact nref_minus s i w h0 hs hT hl hd h45 h1 hd1
          | false => exact nref_dash s i w h0 hs hT hl hd h45 (Or.inr ⟨h1, hd1⟩)
        · exact nref_dash s i w h0 hs hT hl hd h45 (Or.inl h1)
      · by_cases h6 : s[i].toNat = 60 ∨ s[i].toNat = 62
        · by_cases h1 : i + 1 < s.size
          · by_cases h61 : s[i + 1].toNat = 61
            · exact nref_two s i w h0 hs hT hl hd h6 h1 h61
            · exact nref_sign s i w h0 hs hT hl hd h34 h45 (by rw [eq_at h1, decide_eq_false h61, Bool.and_false])
          · exact nref_sign s i w h0 hs hT hl hd h34 h45 (by rw [eq_end h1, Bool.and_false])
        · exact nref_sign s i w h0 hs hT hl hd h34 h45 (by rw [decide_eq_false (fun e => h6 (Or.inl e)), decide_eq_false (fun e => h6 (Or.inr e))]; rfl)

end Go.Proofs.YtfffpflflggonaaGreatDoor.lex

