/- The small functions of both lexers: kinds of bytes, and how many bytes at the beginning of a text belong to a set. -/
import Derived.Test.YtfffpflflggonaaGreatDoorKS5
import Derived.Test.YtfffpflflggonaaGreatDoorKS0
import Derived.Test.YtfffpflflggonaaGreatDoorKValA
import Derived.IntWalk
namespace Go.Proofs.YtfffpflflggonaaGreatDoor.lex
open Go.RowKit Go.Proofs.YtfffpflflggonaaGreatDoor.text Go.Proofs.YtfffpflflggonaaGreatDoor.value

theorem letB_low {c : UInt8} (h : c.toNat < 97) : letB c = false := by unfold letB; simp; omega
theorem letB_high {c : UInt8} (h : 122 < c.toNat) : letB c = false := by unfold letB; simp; omega
theorem letB_yes {c : UInt8} (h0 : 97 ≤ c.toNat) (h1 : c.toNat ≤ 122) : letB c = true := by unfold letB; simp [h0, h1]
theorem le_no {a b : Int} (h : b < a) : decide (a ≤ b) = false := decide_eq_false (by omega)
theorem le_yes {a b : Int} (h : a ≤ b) : decide (a ≤ b) = true := decide_eq_true h
theorem eq_no {a b : Int} (h : a ≠ b) : (a == b) = false := by simp [h]
theorem eq_yes {a b : Int} (h : a = b) : (a == b) = true := by simp [h]
theorem ne_no {a b : Int} (h : a = b) : (a != b) = false := by simp [h]
theorem ne_yes {a b : Int} (h : a ≠ b) : (a != b) = true := by simp [h]

set_option maxHeartbeats 1000000 in
theorem letter_any (c : UInt8) (w : World) : Calls Tryz.prog 179 #[.int .u8 (c.toNat : Int)] w fun e w' => e = .returned (.bool (letB c)) ∧ w' = w := by
  rcases (show c.toNat < 97 ∨ 122 < c.toNat ∨ (97 ≤ c.toNat ∧ c.toNat ≤ 122) by omega) with h1 | h1 | ⟨h1, h2⟩
  · rw [letB_low h1]
    have q0 := le_no (show (c.toNat : Int) < 97 by omega)
    clear h1
    go_enter Tryz.func179, Tryz.ntmps179
    go_wp2
    go_ret
    exact ⟨rfl, rfl⟩
  · rw [letB_high h1]
    have q0 := le_yes (show (97 : Int) ≤ c.toNat by omega)
    have q1 := le_no (show (122 : Int) < c.toNat by omega)
    clear h1
    go_enter Tryz.func179, Tryz.ntmps179
    go_wp2
    go_ret
    exact ⟨rfl, rfl⟩
  · rw [letB_yes h1 h2]
    have q0 := le_yes (show (97 : Int) ≤ c.toNat by omega)
    have q1 := le_yes (show (c.toNat : Int) ≤ 122 by omega)
    clear h1
    clear h2
    go_enter Tryz.func179, Tryz.ntmps179
    go_wp2
    go_ret
    exact ⟨rfl, rfl⟩

set_option maxHeartbeats 1000000 in
theorem letter_ref (c : UInt8) (w : World) : Calls Tryz.prog 112 #[.int .u8 (c.toNat : Int)] w fun e w' => e = .returned (.bool (letB c)) ∧ w' = w := by
  rcases (show c.toNat < 97 ∨ 122 < c.toNat ∨ (97 ≤ c.toNat ∧ c.toNat ≤ 122) by omega) with h1 | h1 | ⟨h1, h2⟩
  · rw [letB_low h1]
    have q0 := le_no (show (c.toNat : Int) < 97 by omega)
    clear h1
    go_enter Tryz.func112, Tryz.ntmps112
    go_wp2
    go_ret
    exact ⟨rfl, rfl⟩
  · rw [letB_high h1]
    have q0 := le_yes (show (97 : Int) ≤ c.toNat by omega)
    have q1 := le_no (show (122 : Int) < c.toNat by omega)
    clear h1
    go_enter Tryz.func112, Tryz.ntmps112
    go_wp2
    go_ret
    exact ⟨rfl, rfl⟩
  · rw [letB_yes h1 h2]
    have q0 := le_yes (show (97 : Int) ≤ c.toNat by omega)
    have q1 := le_yes (show (c.toNat : Int) ≤ 122 by omega)
    clear h1
    clear h2
    go_enter Tryz.func112, Tryz.ntmps112
    go_wp2
    go_ret
    exact ⟨rfl, rfl⟩

set_option maxHeartbeats 1000000 in
theorem digit_any (c : UInt8) (w : World) : Calls Tryz.prog 181 #[.int .u8 (c.toNat : Int)] w fun e w' => e = .returned (.bool (digB c)) ∧ w' = w := by
  rcases (show c.toNat < 48 ∨ 57 < c.toNat ∨ (48 ≤ c.toNat ∧ c.toNat ≤ 57) by omega) with h1 | h1 | ⟨h1, h2⟩
  · rw [digB_low h1]
    have q0 := le_no (show (c.toNat : Int) < 48 by omega)
    clear h1
    go_enter Tryz.func181, Tryz.ntmps181
    go_wp2
    go_ret
    exact ⟨rfl, rfl⟩
  · rw [digB_high h1]
    have q0 := le_yes (show (48 : Int) ≤ c.toNat by omega)
    have q1 := le_no (show (57 : Int) < c.toNat by omega)
    clear h1
    go_enter Tryz.func181, Tryz.ntmps181
    go_wp2
    go_ret
    exact ⟨rfl, rfl⟩
  · rw [digB_yes h1 h2]
    have q0 := le_yes (show (48 : Int) ≤ c.toNat by omega)
    have q1 := le_yes (show (c.toNat : Int) ≤ 57 by omega)
    clear h1
    clear h2
    go_enter Tryz.func181, Tryz.ntmps181
    go_wp2
    go_ret
    exact ⟨rfl, rfl⟩

set_option maxHeartbeats 1000000 in
theorem digit_ref (c : UInt8) (w : World) : Calls Tryz.prog 113 #[.int .u8 (c.toNat : Int)] w fun e w' => e = .returned (.bool (digB c)) ∧ w' = w := by
  rcases (show c.toNat < 48 ∨ 57 < c.toNat ∨ (48 ≤ c.toNat ∧ c.toNat ≤ 57) by omega) with h1 | h1 | ⟨h1, h2⟩
  · rw [digB_low h1]
    have q0 := le_no (show (c.toNat : Int) < 48 by omega)
    clear h1
    go_enter Tryz.func113, Tryz.ntmps113
    go_wp2
    go_ret
    exact ⟨rfl, rfl⟩
  · rw [digB_high h1]
    have q0 := le_yes (show (48 : Int) ≤ c.toNat by omega)
    have q1 := le_no (show (57 : Int) < c.toNat by omega)
    clear h1
    go_enter Tryz.func113, Tryz.ntmps113
    go_wp2
    go_ret
    exact ⟨rfl, rfl⟩
  · rw [digB_yes h1 h2]
    have q0 := le_yes (show (48 : Int) ≤ c.toNat by omega)
    have q1 := le_yes (show (c.toNat : Int) ≤ 57 by omega)
    clear h1
    clear h2
    go_enter Tryz.func113, Tryz.ntmps113
    go_wp2
    go_ret
    exact ⟨rfl, rfl⟩

set_option maxHeartbeats 1000000 in
theorem line_fn (c : UInt8) (w : World) : Calls Tryz.prog 107 #[.int .u8 (c.toNat : Int)] w fun e w' => e = .returned (.bool (lineB c)) ∧ w' = w := by
  by_cases h : c.toNat = 10
  · have e : lineB c = false := by unfold lineB; simp [h]
    rw [e]
    have q := ne_no (show (c.toNat : Int) = 10 by omega)
    clear h e
    go_enter Tryz.func107, Tryz.ntmps107
    go_wp2
    go_ret
    exact ⟨rfl, rfl⟩
  · have e : lineB c = true := by unfold lineB; simp [h]
    rw [e]
    have q := ne_yes (show (c.toNat : Int) ≠ 10 by omega)
    clear h e
    go_enter Tryz.func107, Tryz.ntmps107
    go_wp2
    go_ret
    exact ⟨rfl, rfl⟩

set_option maxHeartbeats 1000000 in
theorem word_fn (c : UInt8) (w : World) : Calls Tryz.prog 180 #[.int .u8 (c.toNat : Int)] w fun e w' => e = .returned (.bool (wordB c)) ∧ w' = w := by
  have hW : wordB c = (letB c || digB c || decide (c.toNat = 45) || decide (c.toNat = 95)) := rfl
  replace hW := Lib.hid hW
  go_enter Tryz.func180, Tryz.ntmps180
  go_wp2_with fail
  refine (letter_any c _).mono ?_
  rintro e w1 ⟨rfl, rfl⟩
  cases hl : letB c with
  | true =>
    have hE := Lib.hid (show true = wordB c by rw [hW.out, hl]; rfl)
    clear hW hl
    go_wp2
    go_ret
    exact ⟨ret_b hE.out, rfl⟩
  | false =>
    go_wp2_with fail
    refine (digit_any c _).mono ?_
    rintro e w1 ⟨rfl, rfl⟩
    cases hd : digB c with
    | true =>
      have hE := Lib.hid (show true = wordB c by rw [hW.out, hl, hd]; rfl)
      clear hW hl hd
      go_wp2
      go_ret
      exact ⟨ret_b hE.out, rfl⟩
    | false =>
      by_cases h45 : c.toNat = 45
      · have hE := Lib.hid (show true = wordB c by rw [hW.out, hl, hd]; simp [h45])
        have q := eq_yes (show (c.toNat : Int) = 45 by omega)
        clear hW hl hd h45
        go_wp2
        go_ret
        exact ⟨ret_b hE.out, rfl⟩
      · have q := eq_no (show (c.toNat : Int) ≠ 45 by omega)
        by_cases h95 : c.toNat = 95
        · have hE := Lib.hid (show true = wordB c by rw [hW.out, hl, hd]; simp [h95])
          have q2 := eq_yes (show (c.toNat : Int) = 95 by omega)
          clear hW hl hd h45 h95
          go_wp2
          go_ret
          exact ⟨ret_b hE.out, rfl⟩
        · have hE := Lib.hid (show false = wordB c by rw [hW.out, hl, hd]; simp [h45, h95])
          have q2 := eq_no (show (c.toNat : Int) ≠ 95 by omega)
          clear hW hl hd h45 h95
          go_wp2
          go_ret
          exact ⟨ret_b hE.out, rfl⟩

set_option maxHeartbeats 1000000 in
theorem num_fn (c : UInt8) (w : World) : Calls Tryz.prog 182 #[.int .u8 (c.toNat : Int)] w fun e w' => e = .returned (.bool (numB c)) ∧ w' = w := by
  have hW : numB c = (digB c || decide (c.toNat = 46)) := rfl
  replace hW := Lib.hid hW
  go_enter Tryz.func182, Tryz.ntmps182
  go_wp2_with fail
  refine (digit_any c _).mono ?_
  rintro e w1 ⟨rfl, rfl⟩
  cases hd : digB c with
  | true =>
    have hE := Lib.hid (show true = numB c by rw [hW.out, hd]; rfl)
    clear hW hd
    go_wp2
    go_ret
    exact ⟨ret_b hE.out, rfl⟩
  | false =>
    by_cases h46 : c.toNat = 46
    · have hE := Lib.hid (show true = numB c by rw [hW.out, hd]; simp [h46])
      have q := eq_yes (show (c.toNat : Int) = 46 by omega)
      clear hW hd h46
      go_wp2
      go_ret
      exact ⟨ret_b hE.out, rfl⟩
    · have hE := Lib.hid (show false = numB c by rw [hW.out, hd]; simp [h46])
      have q := eq_no (show (c.toNat : Int) ≠ 46 by omega)
      clear hW hd h46
      go_wp2
      go_ret
      exact ⟨ret_b hE.out, rfl⟩

/-- How far the counting has come. -/
def SpanAt (p : UInt8 → Bool) (l : List UInt8) (k : Nat) : Prop := spanN p l = k + spanN p (l.drop k)
theorem SpanAt.next {p : UInt8 → Bool} {s : ByteArray} {k : Nat} (h : SpanAt p s.data.toList k) (hk : k < s.size) (hp : p s[k] = true) : SpanAt p s.data.toList (k + 1) := by
  unfold SpanAt at *
  rw [drop_byte s k hk, spanN, if_pos hp] at h
  omega
theorem SpanAt.stop {p : UInt8 → Bool} {s : ByteArray} {k : Nat} (h : SpanAt p s.data.toList k) (hk : k < s.size) (hp : p s[k] = false) : spanN p s.data.toList = k := by
  unfold SpanAt at *
  rw [drop_byte s k hk, spanN, if_neg (by simp [hp])] at h
  omega
theorem SpanAt.done {p : UInt8 → Bool} {s : ByteArray} {k : Nat} (h : SpanAt p s.data.toList k) (hk : ¬ k < s.size) : spanN p s.data.toList = k := by
  unfold SpanAt at *
  rw [List.drop_eq_nil_of_le (by simp; omega)] at h
  simpa [spanN] using h

set_option maxHeartbeats 1000000 in
theorem span_line (s : ByteArray) (w : World) (hs : s.size ≤ maxLen) : Calls Tryz.prog 106 #[.string s, .func (.func 107) #[] #[]] w fun e w' => e = .returned (.int .i64 (spanN lineB s.data.toList)) ∧ w' = w := by
  unfold maxLen at hs
  go_enter Tryz.func106, Tryz.ntmps106
  go_wp2
  go_loop [8] (fun i => ∃ k : Nat, k ≤ s.size ∧ i = .int .i64 k ∧ Hid (SpanAt lineB s.data.toList k)) (fun i => s.size - (intOf i).toNat)
  case atStart => exact ⟨0, Nat.zero_le _, rfl, by show _ = _; simp⟩
  case round =>
    obtain ⟨k, hk, rfl, hT⟩ := hrel
    by_cases hlt : k < s.size
    · go_wp2_with fail
      refine (line_fn s[k] _).mono ?_
      rintro e w1 ⟨rfl, rfl⟩
      cases hp : lineB s[k] with
      | true =>
        have hN := Lib.hid (hT.out.next hlt hp)
        clear hp hT
        go_wp2
        go_round
        case rel => exact ⟨k + 1, by omega, by go_num, hN.out⟩
        case measure => simp [intOf]; omega
      | false =>
        have hE := Lib.hid (hT.out.stop hlt hp)
        clear hp hT
        go_wp2
        go_ret
        exact ⟨ret_int (by rw [hE.out]), rfl⟩
    · have hE := Lib.hid (hT.out.done hlt)
      obtain rfl : k = s.size := by omega
      go_wp2
      go_ret
      exact ⟨ret_int (by rw [hE.out]), rfl⟩

set_option maxHeartbeats 1000000 in
theorem span_word (s : ByteArray) (w : World) (hs : s.size ≤ maxLen) : Calls Tryz.prog 106 #[.string s, .func (.func 180) #[] #[]] w fun e w' => e = .returned (.int .i64 (spanN wordB s.data.toList)) ∧ w' = w := by
  unfold maxLen at hs
  go_enter Tryz.func106, Tryz.ntmps106
  go_wp2
  go_loop [8] (fun i => ∃ k : Nat, k ≤ s.size ∧ i = .int .i64 k ∧ Hid (SpanAt wordB s.data.toList k)) (fun i => s.size - (intOf i).toNat)
  case atStart => exact ⟨0, Nat.zero_le _, rfl, by show _ = _; simp⟩
  case round =>
    obtain ⟨k, hk, rfl, hT⟩ := hrel
    by_cases hlt : k < s.size
    · go_wp2_with fail
      refine (word_fn s[k] _).mono ?_
      rintro e w1 ⟨rfl, rfl⟩
      cases hp : wordB s[k] with
      | true =>
        have hN := Lib.hid (hT.out.next hlt hp)
        clear hp hT
        go_wp2
        go_round
        case rel => exact ⟨k + 1, by omega, by go_num, hN.out⟩
        case measure => simp [intOf]; omega
      | false =>
        have hE := Lib.hid (hT.out.stop hlt hp)
        clear hp hT
        go_wp2
        go_ret
        exact ⟨ret_int (by rw [hE.out]), rfl⟩
    · have hE := Lib.hid (hT.out.done hlt)
      obtain rfl : k = s.size := by omega
      go_wp2
      go_ret
      exact ⟨ret_int (by rw [hE.out]), rfl⟩

set_option maxHeartbeats 1000000 in
theorem span_num (s : ByteArray) (w : World) (hs : s.size ≤ maxLen) : Calls Tryz.prog 106 #[.string s, .func (.func 182) #[] #[]] w fun e w' => e = .returned (.int .i64 (spanN numB s.data.toList)) ∧ w' = w := by
  unfold maxLen at hs
  go_enter Tryz.func106, Tryz.ntmps106
  go_wp2
  go_loop [8] (fun i => ∃ k : Nat, k ≤ s.size ∧ i = .int .i64 k ∧ Hid (SpanAt numB s.data.toList k)) (fun i => s.size - (intOf i).toNat)
  case atStart => exact ⟨0, Nat.zero_le _, rfl, by show _ = _; simp⟩
  case round =>
    obtain ⟨k, hk, rfl, hT⟩ := hrel
    by_cases hlt : k < s.size
    · go_wp2_with fail
      refine (num_fn s[k] _).mono ?_
      rintro e w1 ⟨rfl, rfl⟩
      cases hp : numB s[k] with
      | true =>
        have hN := Lib.hid (hT.out.next hlt hp)
        clear hp hT
        go_wp2
        go_round
        case rel => exact ⟨k + 1, by omega, by go_num, hN.out⟩
        case measure => simp [intOf]; omega
      | false =>
        have hE := Lib.hid (hT.out.stop hlt hp)
        clear hp hT
        go_wp2
        go_ret
        exact ⟨ret_int (by rw [hE.out]), rfl⟩
    · have hE := Lib.hid (hT.out.done hlt)
      obtain rfl : k = s.size := by omega
      go_wp2
      go_ret
      exact ⟨ret_int (by rw [hE.out]), rfl⟩

end Go.Proofs.YtfffpflflggonaaGreatDoor.lex

