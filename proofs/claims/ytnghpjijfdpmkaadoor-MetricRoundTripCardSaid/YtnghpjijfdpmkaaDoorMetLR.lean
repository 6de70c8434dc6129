/- The law MetricRoundTrip: the text of a metric is read as the metric, however its words are separated. -/
import Derived.Test.YtnghpjijfdpmkaaDoorMetBA
import Derived.Test.YtnghpjijfdpmkaaDoorMetAw
import Derived.Test.YtnghpjijfdpmkaaDoorMetJ
import Derived.Test.YtnghpjijfdpmkaaDoorMetEq
namespace Go.Proofs.YtnghpjijfdpmkaaDoor.metric
open Go.RowKit Go.Proofs.YtnghpjijfdpmkaaDoor Go.Proofs.YtnghpjijfdpmkaaDoor.text

theorem bytesIn_below {w w' : World} {a : Option Addr} {n : Nat} (h : BytesIn w.cell? a n) (hb : Below w.heap.size w w') : BytesIn w'.cell? a n := by
  refine ⟨h.1, ?_⟩
  rcases h.2 with h2 | ⟨blk, off, ha, h2⟩
  · exact Or.inl h2
  · refine Or.inr ⟨blk, off, ha, fun i hi => ?_⟩
    obtain ⟨u, h3, h4, h5⟩ := h2 i hi
    exact ⟨u, h3, h4, sub_of_below hb _ _ h5⟩
theorem baSelf (x : ByteArray) : ba x.data.toList = x := ba_ext rfl
theorem wordsGo_mid : ∀ (l w B r : List UInt8), B ≠ [] → (∀ c ∈ B, blankB c = true) → wordsGo w (l ++ (B ++ r)) = wordsGo w (l ++ 32 :: r)
  | [], w, B, r, hB, h => wordsGo_sep B r w hB h
  | c :: l, w, B, r, hB, h => by
    rw [List.cons_append, List.cons_append]
    show (if blankB c = true then _ else _) = (if blankB c = true then _ else _)
    split
    · rw [wordsGo_mid l [] B r hB h]
    · exact wordsGo_mid l (w ++ [c]) B r hB h
/-- What has been made of the first j bytes. -/
def SepR (P : ByteArray) (j : Nat) (T : ByteArray) : Prop := T.size ≤ 1 + 2 * j ∧ ∀ r, wordsW (T.data.toList ++ r) = wordsW (P.data.toList.take j ++ r)
theorem SepR.start (P : ByteArray) : SepR P 0 ⟨#[32]⟩ := by
  refine ⟨Nat.le_refl _, fun r => ?_⟩
  show wordsGo [] (32 :: r) = wordsGo [] r
  rw [wordsGo_blank _ _ 32 rfl, if_pos rfl]
theorem SepR.letter {P T : ByteArray} {j : Nat} (h : SepR P j T) (hj : j < P.size) : SepR P (j + 1) (T ++ P.extract j (j + 1)) := by
  have hd := letter_app P T hj
  refine ⟨?_, fun r => ?_⟩
  · have h1 := congrArg List.length hd
    rw [List.length_append, Array.length_toList, Array.length_toList] at h1
    have h2 : (T ++ P.extract j (j + 1)).size = T.size + 1 := h1
    have := h.1
    omega
  · rw [hd, List.append_assoc, h.2]
    have : P.data.toList.take (j + 1) = P.data.toList.take j ++ [P[j]] := by
      rw [List.take_succ_eq_append_getElem (by rw [Array.length_toList]; exact hj)]
      rfl
    rw [this, List.append_assoc]
theorem SepR.blank {P T B : ByteArray} {j : Nat} (h : SepR P j T) (hj : j < P.size) (hc : P[j] = 32) (hB : B.data.toList ≠ []) (hB2 : ∀ c ∈ B.data.toList, blankB c = true) (hl : B.size ≤ 2) : SepR P (j + 1) (T ++ B) := by
  refine ⟨by rw [ByteArray.size_append]; have := h.1; omega, fun r => ?_⟩
  rw [ByteArray.data_append, Array.toList_append, List.append_assoc, h.2]
  have : P.data.toList.take (j + 1) = P.data.toList.take j ++ [P[j]] := by
    rw [List.take_succ_eq_append_getElem (by rw [Array.length_toList]; exact hj)]
    rfl
  rw [this, hc, List.append_assoc]
  exact wordsGo_mid _ [] _ r hB hB2
theorem SepR.done {P T : ByteArray} (h : SepR P P.size T) : wordsW (T ++ ⟨#[10]⟩).data.toList = wordsW P.data.toList := by
  rw [ByteArray.data_append, Array.toList_append, h.2, List.take_of_length_le (by rw [Array.length_toList]; exact Nat.le_refl _)]
  exact wordsGo_end _ [] _ (fun c hc => by simp at hc; subst hc; rfl)
def sepB : Nat → ByteArray
  | 0 => ⟨#[32]⟩
  | 1 => ⟨#[10]⟩
  | 2 => ⟨#[9, 32]⟩
  | _ => ⟨#[32, 32]⟩
theorem sepB_ok (q : Nat) : (sepB q).data.toList ≠ [] ∧ (∀ c ∈ (sepB q).data.toList, blankB c = true) ∧ (sepB q).size ≤ 2 := by
  match q with
  | 0 => exact ⟨by decide, by decide, by decide⟩
  | 1 => exact ⟨by decide, by decide, by decide⟩
  | 2 => exact ⟨by decide, by decide, by decide⟩
  | q + 3 => exact ⟨by show [32, 32] ≠ []; decide, by show ∀ c ∈ [(32 : UInt8), 32], _; decide, by show 2 ≤ 2; decide⟩
abbrev sepA : Array Value := #[.string ⟨#[32]⟩, .string ⟨#[10]⟩, .string ⟨#[9, 32]⟩, .string ⟨#[32, 32]⟩]
theorem sep_cell (w : World) {q : Nat} (h : q < 4) : (w.alloc (.cells sepA 9)).cell? ⟨w.heap.size, q, none⟩ = some (.string (sepB q)) := by
  rw [(Own.new w sepA 9).cell q]
  rcases (show q = 0 ∨ q = 1 ∨ q = 2 ∨ q = 3 by omega) with rfl | rfl | rfl | rfl <;> rfl

set_option maxRecDepth 100000 in
set_option maxHeartbeats 16000000 in
theorem trip_walk (a : Option Addr) (n c : Nat) (a2 : Option Addr) (n2 c2 : Nat) (w : World) (h : BytesIn w.cell? a n) (h2 : BytesIn w.cell? a2 n2) (hT : NTabs w) :
    Calls Tryd.prog 8 #[.slice a n c, .slice a2 n2 c2] w fun e w' => e = .returned (.bool true) ∧ Below w.heap.size w w' := by
  replace hT := Lib.hid hT
  replace h := Lib.hid h
  replace h2 := Lib.hid h2
  go_enter Tryd.func8, Tryd.ntmps8
  go_wp2_with fail
  refine (awake_m _ hT.out).mono ?_
  rintro e w1 ⟨rfl, hb1⟩
  replace hb1 := Lib.hid hb1
  have hIn := Lib.hid (bytesIn_below h.out hb1.out)
  clear h
  go_wp2_with fail
  refine (made_any a n c w1 hIn.out).mono ?_
  rintro e w2 ⟨k, win, cap, least, before, s, t, rfl, hM, hb2⟩
  have hB2 := Lib.hid (hb1.out.trans (hb2.mono hb1.out.size))
  clear hb1 hb2 hIn
  have hmv := Lib.hid (made_ok hM)
  have hlen := Lib.hid (made_len hM)
  clear hM
  have hX := Lib.hid (Own.new w2 #[.int .i64 k, .string s, .string t, .int .i64 win, .int .i64 cap, .int .i64 least, .int .i64 before] 29)
  have hB3 := Lib.hid (hB2.out.alloc hB2.out.size (.cells #[.int .i64 k, .string s, .string t, .int .i64 win, .int .i64 cap, .int .i64 least, .int .i64 before] 29))
  go_wp2_with fail
  refine (print_m (mvMade k win cap least before s t) s t _ rfl rfl (hT.out.below hB3.out)).mono ?_
  rintro e w3 ⟨rfl, hb3⟩
  rw [printV_ok hmv.out]
  have hX3 := Lib.hid (hX.out.below hb3 hX.out.lt)
  have hB4 := Lib.hid (hB3.out.trans (hb3.mono hB3.out.size))
  have hg := Lib.hid (show w.heap.size ≤ w2.heap.size from hB2.out.size)
  clear hX hB3 hB2 hb3
  generalize w2.heap.size = g at hX3 hg ⊢
  obtain ⟨P, hP⟩ : ∃ P : ByteArray, Hid (P = ⟨(printM (mvMade k win cap least before s t)).toArray⟩) := ⟨_, Lib.hid rfl⟩
  have hPl : P.size ≤ 150 := by rw [hP.out]; exact hlen.out
  have hPw := Lib.hid (show wordsW P.data.toList = wordsM (mvMade k win cap least before s t) by rw [hP.out]; exact words_printed hmv.out)
  rw [← hP.out]
  clear hlen hP
  have hPm : P.size ≤ maxLen := by unfold maxLen; omega
  have hE1 := Lib.hid (show parsePV P = .tuple #[.agg #[.int .i64 k, .string s, .string t, .int .i64 win, .int .i64 cap, .int .i64 least, .int .i64 before], .int .i64 0] by
    rw [parse_of_words hmv.out (by omega) hPw.out]
    unfold rowM mvMade
    rw [baSelf, baSelf])
  replace hPm := Lib.hid hPm
  go_wp2_with fail
  refine (parse_p P _ hPm.out (hT.out.below hB4.out)).mono ?_
  rintro e w4 ⟨rfl, hb4⟩
  rw [hE1.out]
  have hX4 := Lib.hid (hX3.out.below hb4 hX3.out.lt)
  have hB5 := Lib.hid (hB4.out.trans (hb4.mono hB4.out.size))
  have hg4 := Lib.hid (show g < w4.heap.size from hX4.out.lt)
  clear hX3 hB4 hb4
  have hX5 := Lib.hid (hX4.out.alloc (.cells #[.int .i64 k, .string s, .string t, .int .i64 win, .int .i64 cap, .int .i64 least, .int .i64 before] 29))
  have hY5 := Lib.hid (Own.new w4 #[.int .i64 k, .string s, .string t, .int .i64 win, .int .i64 cap, .int .i64 least, .int .i64 before] 29)
  have hB6 := Lib.hid (hB5.out.alloc hB5.out.size (.cells #[.int .i64 k, .string s, .string t, .int .i64 win, .int .i64 cap, .int .i64 least, .int .i64 before] 29))
  go_wp2_with fail
  generalize w4.alloc (.cells _ 29) = w5 at hX5 hY5 hB6 ⊢
  generalize w4.heap.size = y at hY5 hg4 ⊢
  clear hX4 hB5
  have hI5 := Lib.hid (bytesIn_below h2.out hB6.out)
  go_loopw [10, 11, 12] (fun s10 s11 s12 wr => ∃ (j kk : Nat) (T : ByteArray), j ≤ P.size ∧ kk ≤ j ∧ s12 = .int .i64 j ∧ s11 = .int .i64 kk ∧ s10 = .string T ∧ Hid (SepR P j T) ∧ Hid (Below w5.heap.size w5 wr)) (fun _ _ s12 _ => P.size - (intOf s12).toNat)
  case atStart => exact ⟨0, 0, _, Nat.zero_le _, Nat.le_refl _, rfl, rfl, rfl, Lib.hid (SepR.start P), Lib.hid (Below.refl _ _)⟩
  case round =>
    obtain ⟨j, kk, T, hj, hkj, rfl, rfl, rfl, hS, hB⟩ := hrel
    have hTs : T.size ≤ 301 := by have := hS.out.1; omega
    by_cases hlt : j < P.size
    · by_cases hc : (P[j].toNat : Int) = 32
      · have hc2 : P[j] = 32 := by
          have : P[j].toNat = 32 := by omega
          exact UInt8.toNat_inj.1 this
        have hSB := Lib.hid (fun q : Nat => hS.out.blank hlt hc2 (sepB_ok q).1 (sepB_ok q).2.1 (sepB_ok q).2.2)
        have hsz := Lib.hid (fun q : Nat => (sepB_ok q).2.2)
        clear hc2 hS
        have hBA := Lib.hid (hB.out.alloc hB.out.size (.cells sepA 9))
        by_cases hk : kk < n2
        · obtain ⟨-, hbl⟩ := bytesIn_below hI5.out hB.out
          rcases hbl with h0 | ⟨blk, off, ha2, hbl⟩
          · omega
          subst ha2
          obtain ⟨u, u0, u1, hu⟩ := hbl kk hk
          clear hbl
          have hkI : (kk : Int) < (n2 : Int) := by omega
          have hk0 : (0 : Int) ≤ (kk : Int) := Int.natCast_nonneg _
          obtain ⟨q, hq⟩ : ∃ q : Nat, Hid ((q : Int) = u % 4) := ⟨(u % 4).toNat, Lib.hid (by have := Int.emod_nonneg u (show (4 : Int) ≠ 0 by decide); omega)⟩
          have hq4 : q < 4 := by have := Int.emod_lt_of_pos u (show (0 : Int) < 4 by decide); have := hq.out; omega
          have hqm : u.tmod 4 = (q : Int) := by rw [Int.tmod_eq_emod_of_nonneg u0]; exact hq.out.symm
          have hqm2 : u % 4 = (q : Int) := hq.out.symm
          have hcell := sep_cell wr hq4
          have hszq : (sepB q).size ≤ 2 := hsz.out q
          have hq0 : (0 : Int) ≤ (q : Int) := Int.natCast_nonneg _
          have hq5 : (q : Int) < 4 := by omega
          clear hq
          go_wp2
          go_roundw
          case rel => exact ⟨j + 1, kk + 1, _, by omega, by omega, by go_num, by go_num, rfl, Lib.hid (hSB.out q), hBA⟩
          case measure => (first | (simp [intOf]; omega) | simp [intOf])
        · have hkI : ¬ (kk : Int) < (n2 : Int) := by omega
          have hcell := sep_cell wr (show 0 < 4 by omega)
          have hszq : (sepB 0).size ≤ 2 := hsz.out 0
          go_wp2
          go_roundw
          case rel => exact ⟨j + 1, kk + 1, _, by omega, by omega, by go_num, by go_num, rfl, Lib.hid (hSB.out 0), hBA⟩
          case measure => (first | (simp [intOf]; omega) | simp [intOf])
      · have hSL := Lib.hid (hS.out.letter hlt)
        have hc1 : ((P[j].toNat : Int) == 32) = false := by simpa using hc
        clear hc
        go_wp2
        go_roundw
        case rel => exact ⟨j + 1, kk, _, by omega, by omega, by go_num, rfl, rfl, hSL, hB⟩
        case measure => (first | (simp [intOf]; omega) | simp [intOf])
    · obtain rfl : j = P.size := by omega
      have hw := hS.out.done
      have hX6 := Lib.hid (hX5.out.below hB.out hX5.out.lt)
      have hY6 := Lib.hid (hY5.out.below hB.out hY5.out.lt)
      have hB7 := Lib.hid (hB6.out.trans (hB.out.mono hB6.out.size))
      obtain ⟨T2, hT2⟩ : ∃ T2 : ByteArray, Hid (T2 = T ++ ⟨#[10]⟩) := ⟨_, Lib.hid rfl⟩
      have hsz2 : T2.size = T.size + 1 := by rw [hT2.out, ByteArray.size_append]; rfl
      have hms := Lib.hid (show T2.size ≤ maxLen by rw [hsz2]; unfold maxLen; omega)
      rw [← hT2.out] at hw
      obtain ⟨rz, hrz⟩ : ∃ rz, Hid (parsePV T2 = rz) := ⟨_, Lib.hid rfl⟩
      have hways : (decide ((200 : Int) ≤ (T.size : Int)) = true ∧ ∃ (k' win' cap' least' before' e' : Int) (s' t' : ByteArray), Hid (rz = .tuple #[.agg #[.int .i64 k', .string s', .string t', .int .i64 win', .int .i64 cap', .int .i64 least', .int .i64 before'], .int .i64 e'])) ∨ (decide ((200 : Int) ≤ (T.size : Int)) = false ∧ Hid (rz = .tuple #[.agg #[.int .i64 k, .string s, .string t, .int .i64 win, .int .i64 cap, .int .i64 least, .int .i64 before], .int .i64 0])) := by
        by_cases h200 : 200 ≤ T.size
        · refine Or.inl ⟨by simp; omega, 0, 0, 0, 0, 0, 4, ⟨#[]⟩, ⟨#[]⟩, Lib.hid ?_⟩
          rw [← hrz.out]
          unfold parsePV
          rw [if_pos (by omega)]
        · refine Or.inr ⟨by simp; omega, Lib.hid ?_⟩
          rw [← hrz.out, parse_of_words hmv.out (by omega) (by rw [hw, hPw.out])]
          unfold rowM mvMade
          rw [baSelf, baSelf]
      clear hsz2 hX5 hY5 hB hS hw
      have hgr := Lib.hid hX6.out.lt
      have hyr := Lib.hid hY6.out.lt
      go_wp2_with fail
      rw [← hT2.out]
      refine (parse_p T2 _ hms.out (hT.out.below hB7.out)).mono ?_
      rintro e w6 ⟨rfl, hb6⟩
      rw [hrz.out]
      have hX7 := Lib.hid ((hX6.out.below hb6 hX6.out.lt))
      have hY7 := Lib.hid ((hY6.out.below hb6 hY6.out.lt))
      have hB8 := Lib.hid (hB7.out.trans (hb6.mono hB7.out.size))
      clear hb6 hX6 hY6 hB7 hgr hyr
      obtain ⟨p0, p1, p2, p3, p4, p5, p6⟩ := box7 hX7.out
      obtain ⟨q0, q1, q2, q3, q4, q5, q6⟩ := box7 hY7.out
      have hgl : g < w6.heap.size := hX7.out.lt
      have hyl : y < w6.heap.size := hY7.out.lt
      have heq := eql_metric k win cap least before s t
      rcases hways with ⟨h200, k', win', cap', least', before', e', s', t', hr⟩ | ⟨h200, hr⟩
      · rw [hr.out]
        go_wp2
        go_ret
        exact ⟨rfl, hB8.out.alloc hB8.out.size _⟩
      · rw [hr.out]
        go_wp2
        go_ret
        exact ⟨rfl, hB8.out.alloc hB8.out.size _⟩

end Go.Proofs.YtnghpjijfdpmkaaDoor.metric

