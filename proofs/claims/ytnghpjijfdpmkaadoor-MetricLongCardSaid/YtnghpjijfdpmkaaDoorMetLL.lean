/- The law MetricLong: a text of api.MaxText bytes may be read and a longer one may not. -/
import Derived.Test.YtnghpjijfdpmkaaDoorMetBA
import Derived.Test.YtnghpjijfdpmkaaDoorMetAw
import Derived.Test.YtnghpjijfdpmkaaDoorMetG
import Derived.Test.YtnghpjijfdpmkaaDoorMetEq
namespace Go.Proofs.YtnghpjijfdpmkaaDoor.metric
open Go.RowKit Go.Proofs.YtnghpjijfdpmkaaDoor Go.Proofs.YtnghpjijfdpmkaaDoor.text

theorem BytesIn.below {w w' : World} {a : Option Addr} {n : Nat} (h : BytesIn w.cell? a n) (hb : Below w.heap.size w w') : BytesIn w'.cell? a n := by
  refine ⟨h.1, ?_⟩
  rcases h.2 with h2 | ⟨blk, off, ha, h2⟩
  · exact Or.inl h2
  · refine Or.inr ⟨blk, off, ha, fun i hi => ?_⟩
    obtain ⟨u, h3, h4, h5⟩ := h2 i hi
    exact ⟨u, h3, h4, sub_of_below hb _ _ h5⟩
theorem ba_self (x : ByteArray) : ba x.data.toList = x := ba_ext rfl
theorem spaces_words (s : List UInt8) (n : Nat) : wordsW (s ++ List.replicate n 32) = wordsW s := wordsGo_end s [] _ (fun c hc => by rw [List.eq_of_mem_replicate hc]; rfl)

set_option maxRecDepth 100000 in
set_option maxHeartbeats 16000000 in
theorem long_walk (a : Option Addr) (n c : Nat) (x : Int) (w : World) (h : BytesIn w.cell? a n) (hx0 : 0 ≤ x) (hx1 : x ≤ 255) (hT : NTabs w) :
    Calls Tryd.prog 4 #[.slice a n c, .int .u8 x] w fun e w' => e = .returned (.bool true) ∧ Below w.heap.size w w' := by
  replace hT := Lib.hid hT
  replace h := Lib.hid h
  go_enter Tryd.func4, Tryd.ntmps4
  go_wp2_with fail
  refine (awake_m _ hT.out).mono ?_
  rintro e w1 ⟨rfl, hb1⟩
  replace hb1 := Lib.hid hb1
  have hIn := Lib.hid (h.out.below hb1.out)
  clear h
  go_wp2_with fail
  refine (made_any a n c w1 hIn.out).mono ?_
  rintro e w2 ⟨k, win, cap, least, before, s, t, rfl, hM, hb2⟩
  have hB2 := Lib.hid (hb1.out.trans (hb2.mono hb1.out.size))
  clear hb1 hb2 hIn
  have hmv := Lib.hid (made_ok hM)
  have hlen := Lib.hid (made_len hM)
  have hns : s.size ≤ 5 ∧ t.size ≤ 5 := by
    have h1 := (name_key hM.2.2.2.2.2.2.2.2.2.2.1).2
    rw [Array.length_toList] at h1
    refine ⟨h1, ?_⟩
    by_cases hk : k = 4
    · have h2 := (name_key (hM.2.2.2.2.2.2.2.2.2.2.2.1 hk)).2
      rw [Array.length_toList] at h2
      exact h2
    · rw [hM.2.2.2.2.2.2.2.2.2.2.2.2 hk]; exact Nat.zero_le _
  replace hM := Lib.hid hM
  replace hns := Lib.hid hns
  have hX := Lib.hid (Own.new w2 #[.int .i64 k, .string s, .string t, .int .i64 win, .int .i64 cap, .int .i64 least, .int .i64 before] 29)
  have hB3 := Lib.hid (hB2.out.alloc hB2.out.size (.cells #[.int .i64 k, .string s, .string t, .int .i64 win, .int .i64 cap, .int .i64 least, .int .i64 before] 29))
  go_wp2_with fail
  refine (print_mr (mvMade k win cap least before s t) s t _ rfl rfl (by have := hns.out; unfold maxLen; omega) (by have := hns.out; unfold maxLen; omega)).mono ?_
  rintro e w3 ⟨rfl, hb3⟩
  rw [printV_ok hmv.out]
  have hX3 := Lib.hid (hX.out.below hb3 hX.out.lt)
  have hB4 := Lib.hid (hB3.out.trans (hb3.mono hB3.out.size))
  have hg := Lib.hid (show w.heap.size ≤ w2.heap.size from hB2.out.size)
  clear hX hB3 hB2 hb3
  generalize w2.heap.size = g at hX3 hg ⊢
  obtain ⟨P, hP⟩ : ∃ P, Hid (P = printM (mvMade k win cap least before s t)) := ⟨_, Lib.hid rfl⟩
  have hPl : P.length ≤ 150 := by rw [hP.out]; exact hlen.out
  rw [← hP.out]
  clear hlen
  obtain ⟨z, hz⟩ : ∃ z : Nat, Hid ((z : Int) = x % 5) := ⟨(x % 5).toNat, Lib.hid (by have := Int.emod_nonneg x (show (5 : Int) ≠ 0 by decide); omega)⟩
  have hz5 : z < 5 := by have := Int.emod_lt_of_pos x (show (0 : Int) < 5 by decide); have := hz.out; omega
  have hmod : x.tmod 5 = (z : Int) := by rw [Int.tmod_eq_emod_of_nonneg hx0]; exact hz.out.symm
  have hmod2 : x % 5 = (z : Int) := hz.out.symm
  clear hz
  go_wp2_with fail
  go_loopw [6] (fun s6 wr => ∃ (j : Nat) (S : ByteArray), s6 = .string S ∧ Hid (S.data.toList = P ++ List.replicate j 32) ∧ S.size = P.length + j ∧ S.size ≤ 198 + z ∧ wr = w3) (fun s6 _ => 300 - (match s6 with | .string S => S.size | _ => 0))
  case atStart => exact ⟨0, _, rfl, Lib.hid (by simp), by simp [ByteArray.size], by simp [ByteArray.size]; omega, rfl⟩
  case round =>
    obtain ⟨j, S, rfl, hS, hs1, hs2, rfl⟩ := hrel
    by_cases hlt : S.size < 198 + z
    · have hlt3 : S.size < 203 := by omega
      go_wp2
      go_roundw
      case rel => exact ⟨j + 1, S ++ ⟨#[32]⟩, rfl, Lib.hid (by rw [ByteArray.data_append, Array.toList_append, hS.out, List.append_assoc, List.replicate_succ']), by rw [ByteArray.size_append]; show S.size + 1 = _; omega, by rw [ByteArray.size_append]; show S.size + 1 ≤ _; omega, by first | rfl | trivial⟩
      case measure =>
        show 300 - (S ++ ⟨#[32]⟩ : ByteArray).size < 300 - S.size
        rw [ByteArray.size_append]
        show 300 - (S.size + 1) < 300 - S.size
        omega
    · have hsz : S.size = 198 + z := by omega
      have hwords := Lib.hid (show wordsW S.data.toList = wordsM (mvMade k win cap least before s t) by rw [hS.out, spaces_words, hP.out, words_printed hmv.out])
      have hsm : S.size ≤ maxLen := by unfold maxLen; omega
      have hB5 := Lib.hid (hB4.out)
      obtain ⟨p0, p1, p2, p3, p4, p5, p6⟩ := box7 hX3.out
      by_cases hz2 : 2 < z
      · have hE := Lib.hid (show parsePV S = .tuple #[.agg Z7, .int .i64 4] by unfold parsePV; rw [if_pos (by omega)])
        go_wp2_with fail
        refine (parse_p S _ hsm (hT.out.below hB4.out)).mono ?_
        rintro e w4 ⟨rfl, hb4⟩
        rw [hE.out]
        unfold Z7
        have hB6 := Lib.hid (hB4.out.trans (hb4.mono hB4.out.size))
        clear hb4
        have hq := eql_metric 0 0 0 0 0 ⟨#[]⟩ ⟨#[]⟩
        go_wp2
        go_ret
        exact ⟨rfl, hB6.out.alloc hB6.out.size _⟩
      · have hE := Lib.hid (show parsePV S = .tuple #[.agg #[.int .i64 k, .string s, .string t, .int .i64 win, .int .i64 cap, .int .i64 least, .int .i64 before], .int .i64 0] by
          rw [parse_of_words hmv.out (by omega) hwords.out]
          unfold rowM mvMade
          rw [ba_self, ba_self])
        have hz3 : ¬ (2 : Int) < (z : Int) := by omega
        go_wp2_with fail
        refine (parse_p S _ hsm (hT.out.below hB4.out)).mono ?_
        rintro e w4 ⟨rfl, hb4⟩
        rw [hE.out]
        have hB6 := Lib.hid (hB4.out.trans (hb4.mono hB4.out.size))
        have hX4 := hX3.out.below hb4 hX3.out.lt
        clear hb4 p0 p1 p2 p3 p4 p5 p6
        obtain ⟨p0, p1, p2, p3, p4, p5, p6⟩ := box7 hX4
        have hgl := hX4.lt
        replace hX4 := Lib.hid hX4
        have hq := eql_metric k win cap least before s t
        go_wp2
        go_ret
        exact ⟨rfl, hB6.out.alloc hB6.out.size _⟩

end Go.Proofs.YtnghpjijfdpmkaaDoor.metric

