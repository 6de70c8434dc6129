/- What the laws of chapter 34 find in memory: the tables of strconv, its sentinel, the table of blanks; numbers and keys over them. -/
import Derived.Test.YtnghpjijfdpmkaaDoorTextH
import Derived.Test.YtnghpjijfdpmkaaDoorTextB
namespace Go.Proofs.YtnghpjijfdpmkaaDoor.metric
open Go.RowKit Go.Lib Go.Proofs.YtnghpjijfdpmkaaDoor Go.Proofs.YtnghpjijfdpmkaaDoor.text

structure NTabs (w : World) : Prop where
  pow : Lib.TabIs Tryd.prog w "internal/strconv.uint64pow10" .u64 Lib.pow10Tab
  range : ∃ tp p, w.var? Tryd.prog "strconv.ErrRange" = some #[.iface tp p]
  space : SpaceTab w
theorem NTabs.below {w w' : World} (h : NTabs w) (hb : Below w.heap.size w w') : NTabs w' :=
  ⟨var_below hb h.pow, let ⟨tp, p, hr⟩ := h.range; ⟨tp, p, var_below hb hr⟩, var_below hb h.space⟩

set_option maxHeartbeats 400000 in
theorem number_m (n : Int) (w : World) (h0 : -9223372036854775808 ≤ n) (h1 : n ≤ 9223372036854775807) (hT : NTabs w) :
    Calls Tryd.prog 53 #[.int .i64 n] w fun e w' => e = .returned (.string ⟨(Lib.itoa n).toArray⟩) ∧ Below w.heap.size w w' := by
  have hT := hT.pow
  go_enter Tryd.func53, Tryd.ntmps53
  go_wp2_with fail
  refine (Tryd.strconv_Itoa n h0 h1 _ hT).mono ?_
  rintro e w1 ⟨rfl, k, os, rfl⟩
  have hb := Lib.hid (Lib.below_grow w.heap.size w (Nat.le_refl _) k os)
  go_wp2
  go_ret
  exact ⟨rfl, hb.out⟩

theorem atoi_range_m (s : ByteArray) (hs : s.size ≤ 140737488355328) (h : Lib.atoiAll s.data.toList = .range) (w : World) (hT : NTabs w) :
    Calls Tryd.prog 85 #[.string s] w fun e w' => (∃ N, e = .returned (.tuple #[.int .i64 (Lib.atoiSat s.data.toList), .iface 144 (.pointer (some ⟨N, 0, none⟩))])) ∧ Below w.heap.size w w' := by
  obtain ⟨tp, p, hv⟩ := hT.range
  refine (Tryd.strconv_Atoi_range_var s (by omega) h tp p w hv).mono ?_
  rintro e w' ⟨N, rfl, -, -, hb⟩
  exact ⟨⟨N, rfl⟩, hb⟩

set_option maxRecDepth 100000 in
set_option maxHeartbeats 4000000 in
theorem parse_m (s : ByteArray) (w : World) (hs : s.size ≤ 140737488355328) (hT : NTabs w) :
    Calls Tryd.prog 66 #[.string s] w fun e w' => e = .returned (parseV s.data.toList) ∧ Below w.heap.size w w' := by
  go_enter Tryd.func66, Tryd.ntmps66
  replace hT := Lib.hid hT
  go_wp2_with fail
  refine (cut_any s _ rfl _).mono ?_
  rintro e w' ⟨⟨t, b, rfl, hC⟩, rfl⟩
  have hts := cut_size hC.out
  by_cases hz : t.size = 0
  · have hE := Lib.hid (parse_empty hC.out.1 hz)
    have hz1 : t.toList = [] := by rw [ByteArray.toList_eq]; exact List.eq_nil_of_length_eq_zero (by simpa using hz)
    have hz2 : t.toList.isEmpty = true := by rw [hz1]; rfl
    go_wp2
    go_ret2
    exact ⟨ret_two hE.out, Below.refl _ _⟩
  have hpos : 0 < t.size := by omega
  have hz1 : ¬ t.toList = [] := by rw [ByteArray.toList_eq, cons_byte hpos]; simp
  have hz2 : t.toList.isEmpty = false := by rw [ByteArray.toList_eq, cons_byte hpos]; rfl
  by_cases hq : t[0].toNat = 48 ∧ ¬ (t.size ≤ 1 ∧ b = false)
  · have hE := Lib.hid (parse_zero hC.out.1 hpos hq.1 (fun e => hq.2 ((cut_zero hC.out hpos hq.1).1 e)))
    obtain ⟨hq1, hq2⟩ := hq
    have hq3 : 1 < t.size ∨ (t.size = 1 ∧ b = true) := by
      rcases Nat.lt_or_ge 1 t.size with h1 | h1
      · exact Or.inl h1
      · refine Or.inr ⟨by omega, ?_⟩
        cases b with
        | true => rfl
        | false => exact absurd ⟨h1, rfl⟩ hq2
    clear hq2
    rcases hq3 with h1 | ⟨h1, rfl⟩
    all_goals
      go_wp2
      go_ret2
      exact ⟨ret_two hE.out, Below.refl _ _⟩
  have hZ := Lib.hid (show t[0].toNat = 48 → s.data.toList = [48] from fun h1 => (cut_zero hC.out hpos h1).2 (Classical.byContradiction fun h2 => hq ⟨h1, h2⟩))
  have hU : ((t[0].toNat : Int) == 48) = false ∨ (t[0].toNat = 48 ∧ t.size = 1 ∧ b = false) := by
    by_cases h1 : t[0].toNat = 48
    · have h2 : t.size ≤ 1 ∧ b = false := Classical.byContradiction fun h2 => hq ⟨h1, h2⟩
      exact Or.inr ⟨h1, by omega, h2.2⟩
    · exact Or.inl (by simp; omega)
  clear hq
  rcases hU with hU | ⟨hU, hU2, rfl⟩
  all_goals
    go_wp2
    go_loopw [7] (fun _ wr => ∃ k : Nat, k ≤ t.size ∧ wr = w.iter t k ∧ Hid ((t.data.toList.drop k).all digB = t.data.toList.all digB)) (fun _ wr => t.size - wr.iterPos w.heap.size)
    case atStart => exact ⟨0, Nat.zero_le _, rfl, rfl⟩
    case round =>
      obtain ⟨k, hk, rfl, hA⟩ := hrel
      by_cases hlt : k < t.size
      · have hnx : ∀ ty, (Instr.next (.pointer (some ⟨w.heap.size, 0, none⟩)) true ty).run Tryd.prog (w.iter t k) = _ := fun ty => run_next_any w t k ty hlt
        by_cases ha : t[k].toNat < 128
        · simp only [decode_ascii t k hlt ha] at hnx
          rcases Nat.lt_or_ge t[k].toNat 48 with h1 | h1
          · have hE := Lib.hid (parse_bad hC.out.1 hlt (digB_low h1))
            go_wp2
            all_goals first
              | (go_ret2; exact ⟨ret_two hE.out, (Below.refl _ _).alloc (Nat.le_refl _) _⟩)
              | (exfalso; clear hA hE; simp at *; omega)
          · by_cases h2 : 57 < t[k].toNat
            · have hE := Lib.hid (parse_bad hC.out.1 hlt (digB_high h2))
              go_wp2
              all_goals first
                | (go_ret2; exact ⟨ret_two hE.out, (Below.refl _ _).alloc (Nat.le_refl _) _⟩)
                | (exfalso; clear hA hE; simp at *; omega)
            · have hE := Lib.hid (dig_go hlt (digB_yes h1 (by omega)) hA.out)
              go_wp2
              all_goals first
                | (go_roundw
                   case rel => exact ⟨k + 1, by omega, rfl, hE.out⟩
                   case measure => simp; omega)
                | (exfalso; clear hA hE; simp at *; omega)
        · have hd := (decode_high t k hlt (by omega)).1
          have hE := Lib.hid (parse_bad hC.out.1 hlt (digB_high (by omega)))
          generalize (Utf8.decode t k).1 = r at hd hnx
          generalize (Utf8.decode t k).2 = q at hnx
          go_wp2
          all_goals first
            | (go_ret2; exact ⟨ret_two hE.out, (Below.refl _ _).alloc (Nat.le_refl _) _⟩)
            | (exfalso; clear hA hE; simp at *; omega)
      · have hnx : ∀ ty, (Instr.next (.pointer (some ⟨w.heap.size, 0, none⟩)) true ty).run Tryd.prog (w.iter t k) = _ := fun ty => run_next_end w t k ty hlt
        have hall := dig_end hlt hA.out
        rcases cut_way hC.out hpos hall hZ.out with ⟨n, h1, h2, h3, h4⟩ | ⟨n, h1, h2, h4⟩ | ⟨n, h1, h2, h4⟩ | ⟨h1, h4⟩
        · replace h1 := Lib.hid h1
          replace h4 := Lib.hid h4
          clear hall
          go_wp2_with fail
          refine (atoi_ok s hs n h1.out _).mono ?_
          rintro e w2 ⟨rfl, hb2⟩
          have hb2' := Lib.hid (iter_below hb2)
          clear hb2
          go_wp2
          go_ret2
          exact ⟨ret_two h4.out, hb2'.out⟩
        · replace h1 := Lib.hid h1
          replace h4 := Lib.hid h4
          clear hall
          go_wp2_with fail
          refine (atoi_ok s hs n h1.out _).mono ?_
          rintro e w2 ⟨rfl, hb2⟩
          have hb2' := Lib.hid (iter_below hb2)
          clear hb2
          go_wp2
          go_ret2
          exact ⟨ret_two h4.out, hb2'.out⟩
        · replace h1 := Lib.hid h1
          replace h4 := Lib.hid h4
          clear hall
          go_wp2_with fail
          refine (atoi_ok s hs n h1.out _).mono ?_
          rintro e w2 ⟨rfl, hb2⟩
          have hb2' := Lib.hid (iter_below hb2)
          clear hb2
          go_wp2
          go_ret2
          exact ⟨ret_two h4.out, hb2'.out⟩
        · replace h1 := Lib.hid h1
          replace h4 := Lib.hid h4
          clear hall
          have hb1 : Below w.heap.size w (w.iter t k) := (Below.refl _ _).alloc (Nat.le_refl _) _
          have hT1 := Lib.hid (hT.out.below hb1)
          clear hb1
          go_wp2_with fail
          refine (atoi_range_m s hs h1.out _ hT1.out).mono ?_
          rintro e w2 ⟨⟨N, rfl⟩, hb2⟩
          have hb2' := Lib.hid (iter_below hb2)
          clear hb2
          go_wp2
          go_ret2
          exact ⟨ret_two h4.out, hb2'.out⟩


end Go.Proofs.YtnghpjijfdpmkaaDoor.metric

