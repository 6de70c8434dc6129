/- Which texts are valid: the reference's Valid, by bytes, and the program's, by runes, give the same. -/
import Derived.Test.YtlohdmghaeabjaaGreatDoorTextZ
import Derived.Test.YtlohdmghaeabjaaGreatDoorShelf
import Derived.WalkSmall
namespace Go.Proofs.YtlohdmghaeabjaaGreatDoor.text
open Go.RowKit

/-- A byte that may stand in a text. -/
def okT (c : UInt8) : Bool := decide (32 ≤ c.toNat) && decide (c.toNat ≠ 127)
def validS (l : List UInt8) : Bool := decide (l.length ≤ 200) && Lib.validD l && l.all okT

theorem all_skip (s : ByteArray) (k : Nat) : ∀ q, k + q ≤ s.size → (∀ j (h : k + j < s.size), j < q → okT s[k + j] = true) → (s.data.toList.drop k).all okT = (s.data.toList.drop (k + q)).all okT
  | 0, _, _ => rfl
  | q + 1, hq, h => by
    rw [all_skip s k q (by omega) fun j hj hlt => h j hj (by omega), drop_byte s (k + q) (by omega), List.all_cons, h q (by omega) (by omega)]
    rfl

/-- The bytes of a rune that is not of one byte. -/
theorem decode_bytes (s : ByteArray) (pos : Nat) (h : pos < s.size) (ha : 128 ≤ (s[pos]'h).toNat) :
    pos + (Utf8.decode s pos).2 ≤ s.size ∧ ∀ j (h : pos + j < s.size), j < (Utf8.decode s pos).2 → 128 ≤ s[pos + j].toNat := by
  have hn : ¬ (s[pos]'h).toNat < 128 := by omega
  have hg : ∀ j (hj : pos + j < s.size), s[pos + j].toNat = (s.get! (pos + j)).toNat := by
    intro j hj
    have := get_at s (pos + j) hj
    rw [Nat.add_zero] at this
    rw [this]
  have key : (Utf8.decode s pos).2 = 1 ∨ ((Utf8.decode s pos).2 = 2 ∧ pos + 1 < s.size ∧ 128 ≤ (s.get! (pos + 1)).toNat) ∨ ((Utf8.decode s pos).2 = 3 ∧ pos + 2 < s.size ∧ 128 ≤ (s.get! (pos + 1)).toNat ∧ 128 ≤ (s.get! (pos + 2)).toNat) ∨
      ((Utf8.decode s pos).2 = 4 ∧ pos + 3 < s.size ∧ 128 ≤ (s.get! (pos + 1)).toNat ∧ 128 ≤ (s.get! (pos + 2)).toNat ∧ 128 ≤ (s.get! (pos + 3)).toNat) := by
    simp only [Utf8.decode, get_at s pos h, hn, if_false]
    repeat' split
    all_goals simp_all
    all_goals omega
  have h0 : s[pos + 0].toNat = s[pos].toNat := rfl
  rcases key with hk | ⟨hk, h1, h2⟩ | ⟨hk, h1, h2, h3⟩ | ⟨hk, h1, h2, h3, h4⟩
  all_goals rw [hk]
  all_goals refine ⟨by omega, ?_⟩
  all_goals
    intro j hj hlt
    rw [hg j hj]
    have hz := hg 0 h
    rcases j with _ | _ | _ | _ | j
    all_goals first | omega | (simp only [Nat.zero_add]; omega)

abbrev RuneTabs (w : World) : Prop := Lib.Utf8Tabs (Tryz.laysValid_ren.g 3) (Tryz.laysValid_ren.g 4) w

theorem utf8_any (s : ByteArray) (w : World) (hs : s.size ≤ 200) (hT : RuneTabs w) :
    Calls Tryz.prog 108 #[.string s] w fun e w' => e = .returned (.bool (Lib.validD s.data.toList)) ∧ Below w.heap.size w w' :=
  Any.utf8_ValidString Tryz.laysValid s w (by omega) hT

theorem valid_long {s : ByteArray} (h : 200 < s.size) : false = validS s.data.toList := by
  unfold validS
  have h' : ¬ s.data.toList.length ≤ 200 := by simpa using h
  simp only [h', decide_false, Bool.false_and]
theorem valid_bad8 {l : List UInt8} (h : Lib.validD l = false) : false = validS l := by unfold validS; simp [h]
theorem valid_byte {s : ByteArray} {k : Nat} (h : k < s.size) (ho : okT s[k] = false) (T : (s.data.toList.drop k).all okT = s.data.toList.all okT) : false = validS s.data.toList := by
  unfold validS
  rw [← T, drop_byte s k h, List.all_cons, ho]
  simp
theorem valid_end {s : ByteArray} {k : Nat} (h : ¬ k < s.size) (hl : ¬ 200 < s.size) (hv : Lib.validD s.data.toList = true) (T : (s.data.toList.drop k).all okT = s.data.toList.all okT) : true = validS s.data.toList := by
  unfold validS
  have h' : s.data.toList.length ≤ 200 := by simpa using hl
  rw [← T, List.drop_eq_nil_of_le (by simp; omega), hv]
  simp only [h', decide_true, List.all_nil, Bool.and_self]
theorem valid_go {s : ByteArray} {k : Nat} (h : k < s.size) (ho : okT s[k] = true) (T : (s.data.toList.drop k).all okT = s.data.toList.all okT) : (s.data.toList.drop (k + 1)).all okT = s.data.toList.all okT := by
  rw [← T, drop_byte s k h, List.all_cons, ho]
  rfl
theorem okT_of {c : UInt8} (h : 32 ≤ c.toNat) (h2 : c.toNat ≠ 127) : okT c = true := by unfold okT; simp [h, h2]
theorem okT_low {c : UInt8} (h : c.toNat < 32) : okT c = false := by unfold okT; simp; omega
theorem okT_del {c : UInt8} (h : c.toNat = 127) : okT c = false := by unfold okT; simp [h]

set_option maxHeartbeats 1000000 in
theorem valid_ref (s : ByteArray) (w : World) (hT : RuneTabs w) :
    Calls Tryz.prog 98 #[.string s] w fun e w' => e = .returned (.bool (validS s.data.toList)) ∧ Below w.heap.size w w' := by
  go_enter Tryz.func98, Tryz.ntmps98
  by_cases hl : 200 < s.size
  · go_wp2
    go_ret
    exact ⟨ret_bool (valid_long hl), Below.refl _ _⟩
  go_wp2_with fail
  refine (utf8_any s _ (by omega) hT).mono ?_
  rintro e w1 ⟨rfl, hb⟩
  have hb := Lib.hid hb
  clear hT
  cases hv : Lib.validD s.data.toList with
  | false =>
    go_wp2
    go_ret
    exact ⟨ret_bool (valid_bad8 hv), hb.out⟩
  | true =>
    have hV := Lib.hid hv
    clear hv
    go_wp2
    go_loop [3] (fun i => ∃ k : Nat, k ≤ s.size ∧ i = .int .i64 k ∧ Hid ((s.data.toList.drop k).all okT = s.data.toList.all okT)) (fun i => s.size - (intOf i).toNat)
    case atStart => exact ⟨0, Nat.zero_le _, rfl, rfl⟩
    case round =>
      obtain ⟨k, hk, rfl, hT⟩ := hrel
      by_cases hlt : k < s.size
      · rcases Nat.lt_or_ge s[k].toNat 32 with h1 | h1
        · have hE := Lib.hid (valid_byte hlt (okT_low h1) hT.out)
          go_wp2
          all_goals first
            | (go_ret; exact ⟨ret_bool hE.out, hb.out⟩)
            | (exfalso; clear hT hE; simp at *; omega)
        · by_cases h2 : s[k].toNat = 127
          · have hE := Lib.hid (valid_byte hlt (okT_del h2) hT.out)
            go_wp2
            all_goals first
              | (go_ret; exact ⟨ret_bool hE.out, hb.out⟩)
              | (exfalso; clear hT hE; simp at *; omega)
          · have hE := Lib.hid (valid_go hlt (okT_of h1 h2) hT.out)
            go_wp2
            all_goals first
              | (go_round
                 case rel => exact ⟨k + 1, by omega, by go_num, hE.out⟩
                 case measure => simp [intOf]; omega)
              | (exfalso; clear hT hE; simp at *; omega)
      · have hE := Lib.hid (valid_end hlt hl hV.out hT.out)
        go_wp2
        go_ret
        exact ⟨ret_bool hE.out, hb.out⟩

set_option maxHeartbeats 1000000 in
theorem valid_any (s : ByteArray) (w : World) (hT : RuneTabs w) :
    Calls Tryz.prog 92 #[.string s] w fun e w' => e = .returned (.bool (validS s.data.toList)) ∧ Below w.heap.size w w' := by
  go_enter Tryz.func92, Tryz.ntmps92
  by_cases hl : 200 < s.size
  · go_wp2
    go_ret
    exact ⟨ret_bool (valid_long hl), Below.refl _ _⟩
  go_wp2_with fail
  refine (utf8_any s _ (by omega) hT).mono ?_
  rintro e w1 ⟨rfl, hb⟩
  have hb := Lib.hid hb
  clear hT
  cases hv : Lib.validD s.data.toList with
  | false =>
    go_wp2
    go_ret
    exact ⟨ret_bool (valid_bad8 hv), hb.out⟩
  | true =>
    have hV := Lib.hid hv
    have hs1 := hb.out.size
    clear hv
    go_wp2
    go_loopw [4] (fun _ wr => ∃ k : Nat, k ≤ s.size ∧ wr = w1.iter s k ∧ Hid ((s.data.toList.drop k).all okT = s.data.toList.all okT)) (fun _ wr => s.size - wr.iterPos w1.heap.size)
    case atStart => exact ⟨0, Nat.zero_le _, rfl, rfl⟩
    case round =>
      obtain ⟨k, hk, rfl, hT⟩ := hrel
      by_cases hlt : k < s.size
      · have hnx : ∀ ty, (Instr.next (.pointer (some ⟨w1.heap.size, 0, none⟩)) true ty).run Tryz.prog (w1.iter s k) = _ := fun ty => run_next_any w1 s k ty hlt
        by_cases ha : s[k].toNat < 128
        · simp only [decode_ascii s k hlt ha] at hnx
          rcases Nat.lt_or_ge s[k].toNat 32 with h1 | h1
          · have hE := Lib.hid (valid_byte hlt (okT_low h1) hT.out)
            go_wp2
            all_goals first
              | (go_ret; exact ⟨ret_bool hE.out, hb.out.alloc (by omega) _⟩)
              | (exfalso; clear hT hE; simp at *; omega)
          · by_cases h2 : s[k].toNat = 127
            · have hE := Lib.hid (valid_byte hlt (okT_del h2) hT.out)
              go_wp2
              all_goals first
                | (go_ret; exact ⟨ret_bool hE.out, hb.out.alloc (by omega) _⟩)
                | (exfalso; clear hT hE; simp at *; omega)
            · have hE := Lib.hid (valid_go hlt (okT_of h1 h2) hT.out)
              go_wp2
              all_goals first
                | (go_roundw
                   case rel => exact ⟨k + 1, by omega, rfl, hE.out⟩
                   case measure => simp; omega)
                | (exfalso; clear hT hE; simp at *; omega)
        · have hd := decode_high s k hlt (by omega)
          have hB := decode_bytes s k hlt (by omega)
          have hE := Lib.hid ((all_skip s k (Utf8.decode s k).2 hB.1 (fun j hj hq => okT_of (by have := hB.2 j hj hq; omega) (by have := hB.2 j hj hq; omega))).symm.trans hT.out)
          have hB1 := hB.1
          clear hB
          generalize (Utf8.decode s k).1 = r at hd hnx
          generalize (Utf8.decode s k).2 = q at hd hnx hE hB1
          go_wp2
          all_goals first
            | (go_roundw
               case rel => exact ⟨k + q, by omega, rfl, hE.out⟩
               case measure => simp; omega)
            | (exfalso; clear hT hE; simp at *; omega)
      · have hE := Lib.hid (valid_end hlt hl hV.out hT.out)
        have hnx : ∀ ty, (Instr.next (.pointer (some ⟨w1.heap.size, 0, none⟩)) true ty).run Tryz.prog (w1.iter s k) = _ := fun ty => run_next_end w1 s k ty hlt
        go_wp2
        go_ret
        exact ⟨ret_bool hE.out, hb.out.alloc (by omega) _⟩

end Go.Proofs.YtlohdmghaeabjaaGreatDoor.text

