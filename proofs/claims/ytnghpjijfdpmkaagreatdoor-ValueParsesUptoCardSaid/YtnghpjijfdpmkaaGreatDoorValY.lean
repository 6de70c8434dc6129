/- How many bytes a quoted text at the beginning of a list takes: the program's quoted of chapter 3. -/
import Derived.Test.YtnghpjijfdpmkaaGreatDoorValK
import Derived.Test.YtnghpjijfdpmkaaGreatDoorValQ
namespace Go.Proofs.YtnghpjijfdpmkaaGreatDoor.value
open Go.RowKit Go.Proofs.YtnghpjijfdpmkaaGreatDoor.text

/-- How far the scan has come: k bytes behind the first one. -/
def QsAt (l : List UInt8) (k : Nat) (e : Bool) : Prop := qScan false (l.drop 1) = k + qScan e (l.drop (1 + k))
theorem QsAt.start (l : List UInt8) : QsAt l 0 false := by unfold QsAt; simp
theorem QsAt.step {s : ByteArray} {k : Nat} {e e2 : Bool} (h : QsAt s.data.toList k e) (h2 : qScan e (s.data.toList.drop (1 + k)) = 1 + qScan e2 (s.data.toList.drop (1 + (k + 1)))) : QsAt s.data.toList (k + 1) e2 := by
  unfold QsAt at *; rw [h, h2]; omega
theorem qs_any {s : ByteArray} {j : Nat} (h : j < s.size) : qScan true (s.data.toList.drop j) = 1 + qScan false (s.data.toList.drop (j + 1)) := by rw [drop_byte s j h, qScan]
theorem qs_esc {s : ByteArray} {j : Nat} (h : j < s.size) (hc : s[j].toNat = 92) : qScan false (s.data.toList.drop j) = 1 + qScan true (s.data.toList.drop (j + 1)) := by rw [drop_byte s j h, qScan, if_pos hc]
theorem qs_quote {s : ByteArray} {j : Nat} (h : j < s.size) (hc : s[j].toNat = 34) : qScan false (s.data.toList.drop j) = 1 := by rw [drop_byte s j h, qScan, if_neg (by omega), if_pos hc]
theorem qs_plain {s : ByteArray} {j : Nat} (h : j < s.size) (h1 : s[j].toNat ≠ 92) (h2 : s[j].toNat ≠ 34) : qScan false (s.data.toList.drop j) = 1 + qScan false (s.data.toList.drop (j + 1)) := by rw [drop_byte s j h, qScan, if_neg h1, if_neg h2]
theorem qs_end {s : ByteArray} {j : Nat} (e : Bool) (h : ¬ j < s.size) : qScan e (s.data.toList.drop j) = 0 := by
  rw [List.drop_eq_nil_of_le (by simp; omega)]; cases e <;> rfl
theorem quotedN_of {s : ByteArray} (h : 0 < s.size) : quotedN s.data.toList = 1 + qScan false (s.data.toList.drop 1) := by
  have e : s.data.toList = s[0] :: s.data.toList.drop 1 := cons_byte h
  rw [e, quotedN]
  rfl
theorem quotedN_le (l : List UInt8) : quotedN l ≤ l.length := by
  have key : ∀ (l : List UInt8) (e : Bool), qScan e l ≤ l.length := by
    intro l
    induction l with
    | nil => intro e; cases e <;> exact Nat.le_refl _
    | cons c r ih =>
      intro e
      have h1 := ih false
      have h2 := ih true
      rw [List.length_cons]
      cases e with
      | true => rw [qScan]; omega
      | false => rw [qScan]; split <;> (try split) <;> omega
  cases l with
  | nil => exact Nat.le_refl _
  | cons c r => rw [quotedN, List.length_cons]; have := key r false; omega
theorem teq_yes {a b : Int} (h : a = b) : (a == b) = true := by simp [h]
theorem teq_no {a b : Int} (h : a ≠ b) : (a == b) = false := by simp [h]

set_option maxHeartbeats 2000000 in
theorem quotedV_any (s : ByteArray) (w : World) (hs : s.size ≤ 140737488355328) : Calls Tryz.prog 72 #[.string s] w fun e w' => e = .returned (.int .i64 (quotedN s.data.toList)) ∧ w' = w := by
  go_enter Tryz.func72, Tryz.ntmps72
  by_cases h0 : s.size = 0
  · have hE := Lib.hid (show (0 : Int) = quotedN s.data.toList by
      have : s.data.toList = [] := List.eq_nil_of_length_eq_zero (by simpa using h0)
      rw [this]; rfl)
    go_wp2
    go_loop [4] (fun i => i = .int .i64 1) (fun _ => 0)
    case atStart => rfl
    case round =>
      obtain rfl := hrel
      go_wp2
      go_ret
      exact ⟨ret_i hE.out.symm, rfl⟩
  have hp : 0 < s.size := by omega
  have hQ := Lib.hid (quotedN_of hp)
  go_wp2
  go_loop [3, 4] (fun m i => ∃ (k : Nat) (e : Bool), i = .int .i64 (k + 1 : Nat) ∧ k + 1 ≤ s.size ∧ m = .bool e ∧ Hid (QsAt s.data.toList k e)) (fun _ i => s.size + 1 - (intOf i).toNat)
  case atStart => exact ⟨0, false, rfl, hp, rfl, QsAt.start _⟩
  case round =>
    obtain ⟨k, e, rfl, hk, rfl, hT⟩ := hrel
    rw [Nat.add_comm k 1]
    by_cases hlt : 1 + k < s.size
    · cases e with
      | true =>
        have hN := Lib.hid (hT.out.step (qs_any hlt))
        clear hT
        go_wp2
        go_round
        case rel => exact ⟨k + 1, false, by go_num, by omega, rfl, hN.out⟩
        case measure => simp [intOf]; omega
      | false =>
        by_cases h92 : s[1 + k].toNat = 92
        · have hN := Lib.hid (hT.out.step (qs_esc hlt h92))
          have q1 := teq_yes (show (s[1 + k].toNat : Int) = 92 by omega)
          clear h92 hT
          go_wp2
          go_round
          case rel => exact ⟨k + 1, true, by go_num, by omega, rfl, hN.out⟩
          case measure => simp [intOf]; omega
        · have q1 := teq_no (show (s[1 + k].toNat : Int) ≠ 92 by omega)
          by_cases h34 : s[1 + k].toNat = 34
          · have hE := Lib.hid (show ((1 + k : Nat) : Int) + 1 = quotedN s.data.toList by
              have h1 := hT.out
              unfold QsAt at h1
              rw [qs_quote hlt h34] at h1
              rw [hQ.out, h1]
              omega)
            have q2 := teq_yes (show (s[1 + k].toNat : Int) = 34 by omega)
            clear h92 h34 hT
            go_wp2
            go_ret
            exact ⟨ret_i (by rw [← hE.out]; simp), rfl⟩
          · have hN := Lib.hid (hT.out.step (qs_plain hlt h92 h34))
            have q2 := teq_no (show (s[1 + k].toNat : Int) ≠ 34 by omega)
            clear h92 h34 hT
            go_wp2
            go_round
            case rel => exact ⟨k + 1, false, by go_num, by omega, rfl, hN.out⟩
            case measure => simp [intOf]; omega
    · have hE := Lib.hid (show (s.size : Int) = quotedN s.data.toList by
        have h1 := hT.out
        unfold QsAt at h1
        rw [qs_end e hlt] at h1
        rw [hQ.out, h1]
        omega)
      clear hT
      go_wp2
      go_ret
      exact ⟨ret_i hE.out.symm, rfl⟩

end Go.Proofs.YtnghpjijfdpmkaaGreatDoor.value
