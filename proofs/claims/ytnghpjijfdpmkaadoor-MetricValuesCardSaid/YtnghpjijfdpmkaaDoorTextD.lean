/- The quoted form of a text: the program's, by a builder. -/
import Derived.Test.YtnghpjijfdpmkaaDoorTextC
import Derived.Test.YtnghpjijfdpmkaaDoorTextW
namespace Go.Proofs.YtnghpjijfdpmkaaDoor.text
open Go.RowKit

def esc (c : UInt8) : List UInt8 := if c.toNat = 34 ∨ c.toNat = 92 then [92, c] else [c]
def escL (l : List UInt8) : List UInt8 := l.flatMap esc
def quoteS (l : List UInt8) : List UInt8 := 34 :: (escL l ++ [34])
/-- What both Quote give. -/
def quoteV (l : List UInt8) : Value := if validS l then .tuple #[.string ⟨(quoteS l).toArray⟩, .int .i64 0] else .tuple #[.string ⟨#[]⟩, .int .i64 2]

theorem esc_len (c : UInt8) : (esc c).length ≤ 2 := by unfold esc; split <;> simp
theorem escL_len : ∀ l : List UInt8, (escL l).length ≤ 2 * l.length
  | [] => by simp [escL]
  | c :: r => by have := escL_len r; have := esc_len c; simp only [escL, List.flatMap_cons, List.length_append, List.length_cons] at *; omega
theorem take_byte (s : ByteArray) (k : Nat) (h : k < s.size) : s.data.toList.take (k + 1) = s.data.toList.take k ++ [s[k]] := by
  rw [List.take_succ_eq_append_getElem (by simpa using h)]; rfl
theorem escL_take (s : ByteArray) (k : Nat) (h : k < s.size) : escL (s.data.toList.take (k + 1)) = escL (s.data.toList.take k) ++ esc s[k] := by
  rw [take_byte s k h]; simp [escL]
theorem valid_size {l : List UInt8} (h : validS l = true) : l.length ≤ 200 := by
  unfold validS at h
  simp at h
  exact h.1.1

theorem esc_two {c : UInt8} (h : c.toNat = 34 ∨ c.toNat = 92) : esc c = [92, c] := by unfold esc; rw [if_pos h]
theorem esc_one {c : UInt8} (h : c.toNat ≠ 34) (h2 : c.toNat ≠ 92) : esc c = [c] := by unfold esc; rw [if_neg (by omega)]
theorem quote_len (s : ByteArray) (k : Nat) (h : k ≤ s.size) (hs : s.size ≤ 200) : (34 :: escL (s.data.toList.take k)).length ≤ 401 := by
  have h1 := escL_len (s.data.toList.take k)
  have h2 : (s.data.toList.take k).length ≤ k := by simp [List.length_take]; omega
  simp only [List.length_cons]
  omega
theorem isB_eq {B b : Nat} {l l' : List UInt8} {w : World} (h : IsB B b l w) (e : l = l') : IsB B b l' w := e ▸ h
theorem quote_bad {l : List UInt8} (h : validS l = false) : Ending.returned (.tuple #[.string ⟨#[]⟩, .int .i64 2]) = .returned (quoteV l) := by rw [quoteV, h]; rfl
theorem quote_good {l L : List UInt8} (h : validS l = true) (e : 34 :: escL l = L) : Ending.returned (.tuple #[.string ⟨(L ++ [34]).toArray⟩, .int .i64 0]) = .returned (quoteV l) := by rw [quoteV, h, ← e]; rfl

set_option maxHeartbeats 1000000 in
theorem quote_any (s : ByteArray) (w : World) (hT : RuneTabs w) :
    Calls Tryd.prog 77 #[.string s] w fun e w' => e = .returned (quoteV s.data.toList) ∧ Below w.heap.size w w' := by
  go_enter Tryd.func77, Tryd.ntmps77
  go_wp2_with fail
  refine (valid_any s _ hT).mono ?_
  rintro e w1 ⟨rfl, hb⟩
  have hb := Lib.hid hb
  clear hT
  cases hv : validS s.data.toList with
  | false =>
    have hQ := Lib.hid (quote_bad hv)
    clear hv
    go_wp2
    go_ret2
    exact ⟨hQ.out, hb.out⟩
  | true =>
    have hV := Lib.hid hv
    have hs : s.size ≤ 200 := by simpa using valid_size hv
    have hs1 := hb.out.size
    clear hv
    go_wp2_with fail
    refine (writeByte_any w1.heap.size w1.heap.size [] 34 34 (by decide) _ (fresh_any w1) (by simp) (by simp)).mono ?_
    rintro e w2 ⟨rfl, hB, hb2⟩
    have hB := Lib.hid hB
    have hb2 := Lib.hid ((Below.refl w1.heap.size w1).alloc (Nat.le_refl _) _ |>.trans hb2)
    go_wp2
    go_loopw [5] (fun i wr => ∃ k : Nat, k ≤ s.size ∧ i = .int .i64 k ∧ Hid (IsB w1.heap.size w1.heap.size (34 :: escL (s.data.toList.take k)) wr) ∧ Hid (Below w1.heap.size w1 wr)) (fun i _ => s.size - (intOf i).toNat)
    case atStart => exact ⟨0, Nat.zero_le _, rfl, hB.out, hb2.out⟩
    case round =>
      clear hB hb2
      obtain ⟨k, hk, rfl, hB, hb2⟩ := hrel
      have hz2 := hb2.out.size
      have hlen := quote_len s k hk hs
      obtain ⟨L, hL⟩ : ∃ L, Hid (34 :: escL (s.data.toList.take k) = L) := ⟨_, rfl⟩
      rw [hL.out] at hlen
      have hB := Lib.hid (isB_eq hB.out hL.out)
      by_cases hlt : k < s.size
      · have hT := Lib.hid (escL_take s k hlt)
        by_cases hq : s[k].toNat = 34 ∨ s[k].toNat = 92
        · have hE := Lib.hid (esc_two hq)
          rcases hq with hq | hq
          all_goals
            go_wp2_with fail
            refine (writeByte_any w1.heap.size w1.heap.size L 92 92 (by decide) _ hB.out (by omega) (by omega)).mono ?_
            rintro e w3 ⟨rfl, hB3, hb3⟩
            have hB3 := Lib.hid hB3
            have hz3 := hb3.size
            have hb3 := Lib.hid (hb2.out.trans hb3)
            have hl3 : (L ++ [92]).length + 1 ≤ 140737488355328 := by simp; omega
            go_wp2_with fail
            refine (writeByte_any w1.heap.size w1.heap.size (L ++ [92]) s[k] _ (by rw [hq]; rfl) _ hB3.out hl3 (by omega)).mono ?_
            rintro e w4 ⟨rfl, hB4, hb4⟩
            have hB4 := Lib.hid (isB_eq hB4 (l' := 34 :: escL (s.data.toList.take (k + 1))) (by rw [hT.out, hE.out, ← hL.out]; simp))
            have hb4 := Lib.hid (hb3.out.trans hb4)
            clear hl3
            go_wp2
            go_roundw
            case rel => exact ⟨k + 1, by omega, by go_num, hB4.out, hb4.out⟩
            case measure => simp [intOf]; omega
        · have hq1 : s[k].toNat ≠ 34 := by omega
          have hq2 : s[k].toNat ≠ 92 := by omega
          clear hq
          have hE := Lib.hid (esc_one hq1 hq2)
          have hn1 : ((s[k].toNat : Int) == 34) = false := by simp; omega
          have hn2 : ((s[k].toNat : Int) == 92) = false := by simp; omega
          go_wp2_with fail
          refine (writeByte_any w1.heap.size w1.heap.size L s[k] _ rfl _ hB.out (by omega) (by omega)).mono ?_
          rintro e w4 ⟨rfl, hB4, hb4⟩
          have hB4 := Lib.hid (isB_eq hB4 (l' := 34 :: escL (s.data.toList.take (k + 1))) (by rw [hT.out, hE.out, ← hL.out]; simp))
          have hb4 := Lib.hid (hb2.out.trans hb4)
          go_wp2
          go_roundw
          case rel => exact ⟨k + 1, by omega, by go_num, hB4.out, hb4.out⟩
          case measure => simp [intOf]; omega
      · have hk2 : s.data.toList.take k = s.data.toList := List.take_of_length_le (by simp; omega)
        have hQ := Lib.hid (quote_good hV.out (hk2 ▸ hL.out))
        clear hk2
        go_wp2_with fail
        refine (writeByte_any w1.heap.size w1.heap.size L 34 34 (by decide) _ hB.out (by omega) (by omega)).mono ?_
        rintro e w4 ⟨rfl, hB4, hb4⟩
        have hz4 := hb4.size
        have hB4 := Lib.hid hB4
        have hb4 := Lib.hid (hb2.out.trans hb4)
        go_wp2_with fail
        refine (Tryd.Builder_String_any w1.heap.size w1.heap.size (L ++ [34]) _ hB4.out (by omega)).mono ?_
        rintro e w5 ⟨rfl, hb5⟩
        have hb5 := Lib.hid (hb4.out.trans hb5)
        go_wp2
        go_ret2
        exact ⟨hQ.out, hb.out.trans (hb5.out.mono hs1)⟩

end Go.Proofs.YtnghpjijfdpmkaaDoor.text

