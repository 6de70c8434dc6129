/- The source form of a value: the reference's Format. -/
import Derived.Test.YtnghpjijfdpmkaaGreatDoorValK
import Derived.Test.YtnghpjijfdpmkaaGreatDoorTextG
namespace Go.Proofs.YtnghpjijfdpmkaaGreatDoor.value
open Go.RowKit Go.Proofs.YtnghpjijfdpmkaaGreatDoor.text

/-- What stands there when k texts have been written. -/
def openF (ls : List ByteArray) (k : Nat) : List UInt8 := 91 :: joinC (((lsL ls).take k).map quoteS)
theorem openF_zero (ls : List ByteArray) : openF ls 0 = [91] := by simp [openF, joinC]
theorem openF_one {ls : List ByteArray} (h : 0 < ls.length) : openF ls 1 = openF ls 0 ++ quoteS ls[0].data.toList := by
  cases ls with
  | nil => simp at h
  | cons a r => simp [openF, joinC, lsL]
theorem openF_more {ls : List ByteArray} {k : Nat} (h0 : 1 ≤ k) (h : k < ls.length) : openF ls (k + 1) = openF ls k ++ [44, 32] ++ quoteS ls[k].data.toList := by
  have e : (lsL ls).take (k + 1) = (lsL ls).take k ++ [ls[k].data.toList] := by
    rw [List.take_succ_eq_append_getElem (by simpa [lsL] using h)]
    simp [lsL]
  have hne : ((lsL ls).take k).map quoteS ≠ [] := by
    intro e
    have := congrArg List.length e
    have e3 : (lsL ls).length = ls.length := by simp [lsL]
    rw [List.length_map, List.length_take, List.length_nil] at this
    omega
  unfold openF
  rw [e, List.map_append, List.map_cons, List.map_nil, joinC_snoc _ _ hne]
  simp
theorem openF_len {ls : List ByteArray} (k : Nat) (hk : k ≤ ls.length) (hl : ls.length ≤ 20) (hv : ∀ x ∈ lsL ls, (quoteS x).length ≤ 1000) : (openF ls k).length ≤ 100001 := by
  have h1 := join_small ((lsL ls).take k) (by simp [lsL]; omega) (fun x hx => hv x (List.mem_of_mem_take hx))
  simp only [openF, List.length_cons]
  omega

set_option maxRecDepth 100000 in
set_option maxHeartbeats 4000000 in
theorem format_ref (v : VV) (t : ByteArray) (la : Option Addr) (lc : Nat) (ls : List ByteArray) (w : World) (hV : VOk w v t la ls) (ht : t.size ≤ 140737488355328) (hT : Tabs w) :
    Calls Tryz.prog 17 #[.agg #[.int .i64 v.k, .int .i64 v.n, .string t, .slice la ls.length lc]] w fun e w' => e = .returned (formR v) ∧ Below w.heap.size w w' := by
  replace hT := Lib.hid hT
  replace hV := Lib.hid hV
  have hO := Lib.hid (Own.new w #[.int .i64 v.k, .int .i64 v.n, .string t, .slice la ls.length lc] 24)
  have hB := Lib.hid (show Below w.heap.size w (w.alloc (.cells #[.int .i64 v.k, .int .i64 v.n, .string t, .slice la ls.length lc] 24)) from (Below.refl _ _).alloc (Nat.le_refl _) _)
  go_enter Tryz.func17, Tryz.ntmps17
  go_wp2_with fail
  refine (check_ref v t la lc ls _ (hV.out.below hB.out) ht (hT.out.below hB.out)).mono ?_
  rintro e w1 ⟨rfl, hb1⟩
  have hO1 := Lib.hid (hO.out.below hb1 hO.out.lt)
  have hV1 := Lib.hid ((hV.out.below hB.out).below hb1)
  have hB1 := Lib.hid (hB.out.trans (hb1.mono hB.out.size))
  clear hO hB hb1
  obtain ⟨a0, a1, a2, a3⟩ := box4 hO1.out
  by_cases ea : checkS v = 0
  case neg =>
    have hQ := Lib.hid (formR_bad ea)
    have e1 : (checkS v != 0) = true := by simp [ea]
    clear ea
    generalize checkS v = c at e1 hQ ⊢
    go_wp2
    go_ret2
    exact ⟨ret_v hQ.out, hB1.out⟩
  rw [ea]
  have hways := form_ways hV.out.text ea
  clear ea
  rcases hways with ⟨hk, hn, hQ⟩ | ⟨hk, hn, hQ⟩ | ⟨hk, hn, hQ⟩ | ⟨hk, hQ⟩ | ⟨hk, hQ⟩ | ⟨hk, h20, hval, hQ⟩
  · rw [hk] at a0
    rw [hn] at a1
    go_wp2
    go_ret2
    exact ⟨ret_v hQ.out, hB1.out⟩
  · rw [hk] at a0
    rw [hn] at a1
    go_wp2
    go_ret2
    exact ⟨ret_v hQ.out, hB1.out⟩
  · rw [hk] at a0
    go_wp2_with fail
    refine (number_ref v.n _ (by have := hn.out; omega) (by have := hn.out; omega)).mono ?_
    rintro e w2 ⟨rfl, rfl⟩
    go_wp2
    go_ret2
    exact ⟨ret_v hQ.out, hB1.out⟩
  · rw [hk] at a0
    go_wp2_with fail
    refine (quote_ref t _ (hT.out.below hB1.out).runes).mono ?_
    rintro e w2 ⟨rfl, hb2⟩
    rw [hV.out.text]
    replace hb2 := Lib.hid (hB1.out.trans (hb2.mono hB1.out.size))
    have hqv : ∃ x y, quoteV v.t = .tuple #[.string x, .int .i64 y] := by unfold quoteV; split <;> exact ⟨_, _, rfl⟩
    obtain ⟨x, y, hq⟩ := hqv
    rw [hq] at hQ ⊢
    clear hq
    go_wp2
    go_ret2
    exact ⟨ret_v hQ.out, hb2.out⟩
  · rw [hk] at a0
    go_wp2
    go_ret2
    exact ⟨ret_v hQ.out, hB1.out⟩
  · rw [hk] at a0
    have hls : ls.length ≤ 20 := by
      have h1 := h20.out
      rw [← hV.out.list] at h1
      simpa [lsL] using h1
    have hva := Lib.hid (show ∀ k (h : k < ls.length), validS ls[k].data.toList = true from fun k h => by
      have h1 := hval.out
      rw [← hV.out.list] at h1
      exact List.all_eq_true.1 h1 _ (List.mem_map.2 ⟨ls[k], List.getElem_mem h, rfl⟩))
    have hq1 := Lib.hid (show ∀ x ∈ lsL ls, (quoteS x).length ≤ 1000 from fun x hx => by
      have h1 := hval.out
      rw [← hV.out.list] at h1
      have h2 := valid_size (List.all_eq_true.1 h1 x hx)
      have h3 := escL_len x
      simp only [quoteS, List.length_cons, List.length_append, List.length_nil]
      omega)
    have hQ2 := Lib.hid (show formR v = .tuple #[.string ⟨(openF ls ls.length ++ [93]).toArray⟩, .int .i64 0] by
      rw [hQ.out, ← hV.out.list, openF, List.take_of_length_le (by simp [lsL])]
      rfl)
    clear hQ h20 hval hV
    go_wp2
    go_loopw [5, 6] (fun s i wr => ∃ (k : Nat) (x : ByteArray), k ≤ ls.length ∧ i = .int .i64 k ∧ s = .string x ∧ Hid (x = ⟨(openF ls k).toArray⟩) ∧ Hid (Own wr w.heap.size #[.int .i64 v.k, .int .i64 v.n, .string t, .slice la ls.length lc] 24) ∧ Hid (LIn wr la ls) ∧ Hid (Below w.heap.size w wr)) (fun _ i _ => ls.length - (intOf i).toNat)
    case atStart => exact ⟨0, ⟨#[91]⟩, Nat.zero_le _, rfl, rfl, by show _ = _; rw [openF_zero], hO1.out, hV1.out.rows, hB1.out⟩
    case round =>
      clear hO1 hV1 hB1 a0 a1 a2 a3
      obtain ⟨k, x, hk1, rfl, rfl, hx, hO, hL, hB⟩ := hrel
      obtain ⟨a0, a1, a2, a3⟩ := box4 hO.out
      have hlen := Lib.hid (openF_len k hk1 hls hq1.out)
      have hxs : x.size ≤ 100001 := by
        rw [hx.out]
        show (openF ls k).toArray.size ≤ _
        simpa using hlen.out
      by_cases hlt : k < ls.length
      · rcases hL.out with h0 | ⟨blk, off, rfl, hc⟩
        · rw [h0] at hlt; simp at hlt
        have hcell := hc k hlt
        clear hc
        have hv := hva.out k hlt
        have hqz := hq1.out ls[k].data.toList (List.mem_map.2 ⟨ls[k], List.getElem_mem hlt, rfl⟩)
        go_wp2_with fail
        refine (quote_ref ls[k] _ (hT.out.below hB.out).runes).mono ?_
        rintro e w2 ⟨rfl, hb2⟩
        rw [quote_ok hv]
        have hO2 := Lib.hid (hO.out.below hb2 hO.out.lt)
        have hL2 := Lib.hid (hL.out.below hb2)
        have hB2 := Lib.hid (hB.out.trans (hb2.mono hB.out.size))
        obtain ⟨y, hy⟩ : ∃ y : ByteArray, Hid (y = ⟨(quoteS ls[k].data.toList).toArray⟩) := ⟨⟨(quoteS ls[k].data.toList).toArray⟩, rfl⟩
        rw [← hy.out]
        have hys : y.size ≤ 1000 := by
          rw [hy.out]
          show (quoteS ls[k].data.toList).toArray.size ≤ _
          simpa using hqz
        clear hb2 hO hL hB a0 a1 a2 a3 hcell hv hqz
        obtain ⟨a0, a1, a2, a3⟩ := box4 hO2.out
        have s1 : ¬ 9223372036854775807 < x.size + y.size := by omega
        have s2 : ¬ 9223372036854775807 < x.size + 2 := by omega
        have s3 : ¬ 9223372036854775807 < x.size + 2 + y.size := by omega
        by_cases hk0 : k = 0
        · have hX := Lib.hid (show x ++ y = ⟨(openF ls (k + 1)).toArray⟩ by
            subst hk0
            rw [openF_one hlt, hx.out, hy.out]
            apply ByteArray.ext
            simp [ByteArray.data_append])
          subst hk0
          go_wp2
          go_roundw
          case rel => exact ⟨1, _, by omega, by go_num, rfl, hX.out, hO2.out, hL2.out, hB2.out⟩
          case measure => simp [intOf]; omega
        · have hX := Lib.hid (show x ++ ⟨#[44, 32]⟩ ++ y = ⟨(openF ls (k + 1)).toArray⟩ by
            rw [openF_more (by omega) hlt, hx.out, hy.out]
            apply ByteArray.ext
            simp [ByteArray.data_append])
          go_wp2
          go_roundw
          case rel => exact ⟨k + 1, _, by omega, by go_num, rfl, hX.out, hO2.out, hL2.out, hB2.out⟩
          case measure => simp [intOf]; omega
      · obtain rfl : k = ls.length := by omega
        have hX := Lib.hid (show x ++ ⟨#[93]⟩ = ⟨(openF ls ls.length ++ [93]).toArray⟩ by
          rw [hx.out]
          apply ByteArray.ext
          simp [ByteArray.data_append])
        have s1 : ¬ 9223372036854775807 < x.size + 1 := by omega
        have hF := Lib.hid (show Ending.returned (.tuple #[.string (x ++ ⟨#[93]⟩), .int .i64 0]) = .returned (formR v) by rw [hX.out, hQ2.out])
        go_wp2
        go_ret2
        exact ⟨hF.out, hB.out⟩

end Go.Proofs.YtnghpjijfdpmkaaGreatDoor.value
