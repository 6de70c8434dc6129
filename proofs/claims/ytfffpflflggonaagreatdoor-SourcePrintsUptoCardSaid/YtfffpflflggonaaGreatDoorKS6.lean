/- The small functions of both lexers: kinds of bytes, and how many bytes at the beginning of a text belong to a set. How many bytes a quoted text at the beginning takes: the lexer's quoted and the reference's. What a row's list of variables gives the walks: the tables of utf8 and strconv, strconv's sentinel, and that bytealg's limit holds some number; that they stay where a call makes memory only. -/
import Derived.Test.YtfffpflflggonaaGreatDoorKS4
import Derived.Test.YtfffpflflggonaaGreatDoorKS0
import Derived.Test.YtfffpflflggonaaGreatDoorKValA
import Derived.IntWalk
import Derived.Test.YtfffpflflggonaaGreatDoorKS2
import Derived.Lib.LaidU8T
import Derived.Lib.LaidTab
import Derived.LaidMore
import Derived.Lib.ItoaNum
namespace Go.Proofs.YtfffpflflggonaaGreatDoor.lex
open Go.RowKit text value
theorem letB_low {c : UInt8} (h : c.toNat < 97) : letB c = false:=by unfold letB; simp; omega
theorem letB_high {c : UInt8} (h : 122 < c.toNat) : letB c = false:=by unfold letB; simp; omega
theorem letB_yes {c : UInt8} (h0 : 97≤c.toNat) (h1 : c.toNat≤122) : letB c = true:=by unfold letB; simp [h0,h1]
theorem le_no {a b : Int} (h : b < a) : decide (a≤b) = false:=decide_eq_false (by omega)
theorem le_yes {a b : Int} (h : a≤b) : decide (a≤b) = true:=decide_eq_true h
theorem eq_no {a b : Int} (h : a ≠ b) : (a == b) = false:=by simp [h]
theorem eq_yes {a b : Int} (h : a = b) : (a == b) = true:=by simp [h]
theorem ne_no {a b : Int} (h : a = b) : (a != b) = false:=by simp [h]
theorem ne_yes {a b : Int} (h : a ≠ b) : (a != b) = true:=by simp [h]
set_option maxHeartbeats 1000000 in
theorem letter_any (c : UInt8) (w : World) : Calls Tryz.prog 179 #[.int .u8 (c.toNat : Int)] w fun e w'=>e = .returned (.bool (letB c))∧w' = w:=by
  rcases (show c.toNat < 97∨122 < c.toNat∨(97≤c.toNat∧c.toNat≤122) by omega) with h1 | h1 | ⟨h1,h2⟩
  · rw [letB_low h1]
    have q0:=le_no (show (c.toNat : Int) < 97 by omega)
    clear h1
    go_enter Tryz.func179,Tryz.ntmps179
    go_wp2
    go_ret
    exact ⟨rfl,rfl⟩
  · rw [letB_high h1]
    have q0:=le_yes (show (97 : Int)≤c.toNat by omega)
    have q1:=le_no (show (122 : Int) < c.toNat by omega)
    clear h1
    go_enter Tryz.func179,Tryz.ntmps179
    go_wp2
    go_ret
    exact ⟨rfl,rfl⟩
  · rw [letB_yes h1 h2]
    have q0:=le_yes (show (97 : Int)≤c.toNat by omega)
    have q1:=le_yes (show (c.toNat : Int)≤122 by omega)
    clear h1
    clear h2
    go_enter Tryz.func179,Tryz.ntmps179
    go_wp2
    go_ret
    exact ⟨rfl,rfl⟩
set_option maxHeartbeats 1000000 in
theorem digit_any (c : UInt8) (w : World) : Calls Tryz.prog 181 #[.int .u8 (c.toNat : Int)] w fun e w'=>e = .returned (.bool (digB c))∧w' = w:=by
  rcases (show c.toNat < 48∨57 < c.toNat∨(48≤c.toNat∧c.toNat≤57) by omega) with h1 | h1 | ⟨h1,h2⟩
  · rw [digB_low h1]
    have q0:=le_no (show (c.toNat : Int) < 48 by omega)
    clear h1
    go_enter Tryz.func181,Tryz.ntmps181
    go_wp2
    go_ret
    exact ⟨rfl,rfl⟩
  · rw [digB_high h1]
    have q0:=le_yes (show (48 : Int)≤c.toNat by omega)
    have q1:=le_no (show (57 : Int) < c.toNat by omega)
    clear h1
    go_enter Tryz.func181,Tryz.ntmps181
    go_wp2
    go_ret
    exact ⟨rfl,rfl⟩
  · rw [digB_yes h1 h2]
    have q0:=le_yes (show (48 : Int)≤c.toNat by omega)
    have q1:=le_yes (show (c.toNat : Int)≤57 by omega)
    clear h1
    clear h2
    go_enter Tryz.func181,Tryz.ntmps181
    go_wp2
    go_ret
    exact ⟨rfl,rfl⟩
set_option maxHeartbeats 1000000 in
theorem line_fn (c : UInt8) (w : World) : Calls Tryz.prog 107 #[.int .u8 (c.toNat : Int)] w fun e w'=>e = .returned (.bool (lineB c))∧w' = w:=by
  by_cases h : c.toNat = 10
  · have e : lineB c = false:=by unfold lineB; simp [h]
    rw [e]
    have q:=ne_no (show (c.toNat : Int) = 10 by omega)
    clear h e
    go_enter Tryz.func107,Tryz.ntmps107
    go_wp2
    go_ret
    exact ⟨rfl,rfl⟩
  · have e : lineB c = true:=by unfold lineB; simp [h]
    rw [e]
    have q:=ne_yes (show (c.toNat : Int) ≠ 10 by omega)
    clear h e
    go_enter Tryz.func107,Tryz.ntmps107
    go_wp2
    go_ret
    exact ⟨rfl,rfl⟩
set_option maxHeartbeats 1000000 in
theorem word_fn (c : UInt8) (w : World) : Calls Tryz.prog 180 #[.int .u8 (c.toNat : Int)] w fun e w'=>e = .returned (.bool (wordB c))∧w' = w:=by
  have hW : wordB c = (letB c || digB c || decide (c.toNat = 45) || decide (c.toNat = 95)):=rfl
  replace hW:=Lib.hid hW
  go_enter Tryz.func180,Tryz.ntmps180
  go_wp2_with fail
  refine (letter_any c _).mono ?_
  rintro e w1 ⟨rfl,rfl⟩
  cases hl : letB c with
  | true =>
    have hE:=Lib.hid (show true = wordB c by rw [hW.out,hl]; rfl)
    clear hW hl
    go_wp2
    go_ret
    exact ⟨ret_b hE.out,rfl⟩
  | false =>
    go_wp2_with fail
    refine (digit_any c _).mono ?_
    rintro e w1 ⟨rfl,rfl⟩
    cases hd : digB c with
    | true =>
      have hE:=Lib.hid (show true = wordB c by rw [hW.out,hl,hd]; rfl)
      clear hW hl hd
      go_wp2
      go_ret
      exact ⟨ret_b hE.out,rfl⟩
    | false =>
      by_cases h45 : c.toNat = 45
      · have hE:=Lib.hid (show true = wordB c by rw [hW.out,hl,hd]; simp [h45])
        have q:=eq_yes (show (c.toNat : Int) = 45 by omega)
        clear hW hl hd h45
        go_wp2
        go_ret
        exact ⟨ret_b hE.out,rfl⟩
      · have q:=eq_no (show (c.toNat : Int) ≠ 45 by omega)
        by_cases h95 : c.toNat = 95
        · have hE:=Lib.hid (show true = wordB c by rw [hW.out,hl,hd]; simp [h95])
          have q2:=eq_yes (show (c.toNat : Int) = 95 by omega)
          clear hW hl hd h45 h95
          go_wp2
          go_ret
          exact ⟨ret_b hE.out,rfl⟩
        · have hE:=Lib.hid (show false = wordB c by rw [hW.out,hl,hd]; simp [h45,h95])
          have q2:=eq_no (show (c.toNat : Int) ≠ 95 by omega)
          clear hW hl hd h45 h95
          go_wp2
          go_ret
          exact ⟨ret_b hE.out,rfl⟩
set_option maxHeartbeats 1000000 in
theorem num_fn (c : UInt8) (w : World) : Calls Tryz.prog 182 #[.int .u8 (c.toNat : Int)] w fun e w'=>e = .returned (.bool (numB c))∧w' = w:=by
  have hW : numB c = (digB c || decide (c.toNat = 46)):=rfl
  replace hW:=Lib.hid hW
  go_enter Tryz.func182,Tryz.ntmps182
  go_wp2_with fail
  refine (digit_any c _).mono ?_
  rintro e w1 ⟨rfl,rfl⟩
  cases hd : digB c with
  | true =>
    have hE:=Lib.hid (show true = numB c by rw [hW.out,hd]; rfl)
    clear hW hd
    go_wp2
    go_ret
    exact ⟨ret_b hE.out,rfl⟩
  | false =>
    by_cases h46 : c.toNat = 46
    · have hE:=Lib.hid (show true = numB c by rw [hW.out,hd]; simp [h46])
      have q:=eq_yes (show (c.toNat : Int) = 46 by omega)
      clear hW hd h46
      go_wp2
      go_ret
      exact ⟨ret_b hE.out,rfl⟩
    · have hE:=Lib.hid (show false = numB c by rw [hW.out,hd]; simp [h46])
      have q:=eq_no (show (c.toNat : Int) ≠ 46 by omega)
      clear hW hd h46
      go_wp2
      go_ret
      exact ⟨ret_b hE.out,rfl⟩
def SpanAt (p : UInt8→Bool) (l : List UInt8) (k : Nat) : Prop:=spanN p l = k + spanN p (l.drop k)
theorem SpanAt.next {p : UInt8→Bool} {s : ByteArray} {k : Nat} (h : SpanAt p s.data.toList k) (hk : k < s.size) (hp : p s[k] = true) : SpanAt p s.data.toList (k + 1):=by
  unfold SpanAt at *
  rw [drop_byte s k hk,spanN,if_pos hp] at h
  omega
theorem SpanAt.stop {p : UInt8→Bool} {s : ByteArray} {k : Nat} (h : SpanAt p s.data.toList k) (hk : k < s.size) (hp : p s[k] = false) : spanN p s.data.toList = k:=by
  unfold SpanAt at *
  rw [drop_byte s k hk,spanN,if_neg (by simp [hp])] at h
  omega
theorem SpanAt.done {p : UInt8→Bool} {s : ByteArray} {k : Nat} (h : SpanAt p s.data.toList k) (hk : ¬ k < s.size) : spanN p s.data.toList = k:=by
  unfold SpanAt at *
  rw [List.drop_eq_nil_of_le (by simp; omega)] at h
  simpa [spanN] using h
set_option maxHeartbeats 1000000 in
theorem span_line (s : ByteArray) (w : World) (hs : s.size≤maxLen) : Calls Tryz.prog 106 #[.string s,.func (.func 107) #[] #[]] w fun e w'=>e = .returned (.int .i64 (spanN lineB s.data.toList))∧w' = w:=by
  unfold maxLen at hs
  go_enter Tryz.func106,Tryz.ntmps106
  go_wp2
  go_loop [8] (fun i=>∃ k : Nat,k≤s.size∧i = .int .i64 k∧Hid (SpanAt lineB s.data.toList k)) (fun i=>s.size - (intOf i).toNat)
  case atStart=>exact ⟨0,Nat.zero_le _,rfl,by show _ = _; simp⟩
  case round =>
    obtain ⟨k,hk,rfl,hT⟩:=hrel
    by_cases hlt : k < s.size
    · go_wp2_with fail
      refine (line_fn s[k] _).mono ?_
      rintro e w1 ⟨rfl,rfl⟩
      cases hp : lineB s[k] with
      | true =>
        have hN:=Lib.hid (hT.out.next hlt hp)
        clear hp hT
        go_wp2
        go_round
        case rel=>exact ⟨k + 1,by omega,by go_num,hN.out⟩
        case measure=>simp [intOf]; omega
      | false =>
        have hE:=Lib.hid (hT.out.stop hlt hp)
        clear hp hT
        go_wp2
        go_ret
        exact ⟨ret_int (by rw [hE.out]),rfl⟩
    · have hE:=Lib.hid (hT.out.done hlt)
      obtain rfl : k = s.size:=by omega
      go_wp2
      go_ret
      exact ⟨ret_int (by rw [hE.out]),rfl⟩
set_option maxHeartbeats 1000000 in
theorem span_word (s : ByteArray) (w : World) (hs : s.size≤maxLen) : Calls Tryz.prog 106 #[.string s,.func (.func 180) #[] #[]] w fun e w'=>e = .returned (.int .i64 (spanN wordB s.data.toList))∧w' = w:=by
  unfold maxLen at hs
  go_enter Tryz.func106,Tryz.ntmps106
  go_wp2
  go_loop [8] (fun i=>∃ k : Nat,k≤s.size∧i = .int .i64 k∧Hid (SpanAt wordB s.data.toList k)) (fun i=>s.size - (intOf i).toNat)
  case atStart=>exact ⟨0,Nat.zero_le _,rfl,by show _ = _; simp⟩
  case round =>
    obtain ⟨k,hk,rfl,hT⟩:=hrel
    by_cases hlt : k < s.size
    · go_wp2_with fail
      refine (word_fn s[k] _).mono ?_
      rintro e w1 ⟨rfl,rfl⟩
      cases hp : wordB s[k] with
      | true =>
        have hN:=Lib.hid (hT.out.next hlt hp)
        clear hp hT
        go_wp2
        go_round
        case rel=>exact ⟨k + 1,by omega,by go_num,hN.out⟩
        case measure=>simp [intOf]; omega
      | false =>
        have hE:=Lib.hid (hT.out.stop hlt hp)
        clear hp hT
        go_wp2
        go_ret
        exact ⟨ret_int (by rw [hE.out]),rfl⟩
    · have hE:=Lib.hid (hT.out.done hlt)
      obtain rfl : k = s.size:=by omega
      go_wp2
      go_ret
      exact ⟨ret_int (by rw [hE.out]),rfl⟩
set_option maxHeartbeats 1000000 in
theorem span_num (s : ByteArray) (w : World) (hs : s.size≤maxLen) : Calls Tryz.prog 106 #[.string s,.func (.func 182) #[] #[]] w fun e w'=>e = .returned (.int .i64 (spanN numB s.data.toList))∧w' = w:=by
  unfold maxLen at hs
  go_enter Tryz.func106,Tryz.ntmps106
  go_wp2
  go_loop [8] (fun i=>∃ k : Nat,k≤s.size∧i = .int .i64 k∧Hid (SpanAt numB s.data.toList k)) (fun i=>s.size - (intOf i).toNat)
  case atStart=>exact ⟨0,Nat.zero_le _,rfl,by show _ = _; simp⟩
  case round =>
    obtain ⟨k,hk,rfl,hT⟩:=hrel
    by_cases hlt : k < s.size
    · go_wp2_with fail
      refine (num_fn s[k] _).mono ?_
      rintro e w1 ⟨rfl,rfl⟩
      cases hp : numB s[k] with
      | true =>
        have hN:=Lib.hid (hT.out.next hlt hp)
        clear hp hT
        go_wp2
        go_round
        case rel=>exact ⟨k + 1,by omega,by go_num,hN.out⟩
        case measure=>simp [intOf]; omega
      | false =>
        have hE:=Lib.hid (hT.out.stop hlt hp)
        clear hp hT
        go_wp2
        go_ret
        exact ⟨ret_int (by rw [hE.out]),rfl⟩
    · have hE:=Lib.hid (hT.out.done hlt)
      obtain rfl : k = s.size:=by omega
      go_wp2
      go_ret
      exact ⟨ret_int (by rw [hE.out]),rfl⟩
end Go.Proofs.YtfffpflflggonaaGreatDoor.lex
namespace Go.Proofs.YtfffpflflggonaaGreatDoor.lex
open Go.RowKit text value
def LqAt (l : List UInt8) (p k : Nat) (e : Bool) : Prop:=lqS false (l.drop p) = (lqS e (l.drop (p + k))).map (k + ·)
theorem LqAt.start (l : List UInt8) (p : Nat) : LqAt l p 0 false:=by
  unfold LqAt
  rw [Nat.add_zero]
  cases lqS false (l.drop p) <;> simp
theorem LqAt.step {l : List UInt8} {p k : Nat} {e e2 : Bool} (h : LqAt l p k e) (h2 : lqS e (l.drop (p + k)) = (lqS e2 (l.drop (p + (k + 1)))).map (1 + ·)) : LqAt l p (k + 1) e2:=by
  unfold LqAt at *
  rw [h,h2,Option.map_map]
  congr 1
  funext x
  simp
  omega
theorem LqAt.found {l : List UInt8} {p k : Nat} {e : Bool} (h : LqAt l p k e) (h2 : lqS e (l.drop (p + k)) = some 1) : lqS false (l.drop p) = some (k + 1):=by
  unfold LqAt at h
  rw [h,h2]; rfl
theorem LqAt.none {l : List UInt8} {p k : Nat} {e : Bool} (h : LqAt l p k e) (h2 : lqS e (l.drop (p + k)) = none) : lqS false (l.drop p) = none:=by
  unfold LqAt at h
  rw [h,h2]; rfl
theorem lq_end {s : ByteArray} {j : Nat} (e : Bool) (h : ¬ j < s.size) : lqS e (s.data.toList.drop j) = none:=by
  rw [List.drop_eq_nil_of_le (by simp; omega)]
  cases e <;> rfl
theorem lq_line {s : ByteArray} {j : Nat} (e : Bool) (h : j < s.size) (hc : s[j].toNat = 10) : lqS e (s.data.toList.drop j) = none:=by
  rw [drop_byte s j h]
  cases e <;> rw [lqS,if_pos hc]
theorem lq_quote {s : ByteArray} {j : Nat} (h : j < s.size) (hc : s[j].toNat = 34) : lqS false (s.data.toList.drop j) = some 1:=by
  rw [drop_byte s j h,lqS,if_neg (by omega),if_pos hc]
theorem lq_esc {s : ByteArray} {j : Nat} (h : j < s.size) (hc : s[j].toNat = 92) : lqS false (s.data.toList.drop j) = (lqS true (s.data.toList.drop (j + 1))).map (1 + ·):=by
  rw [drop_byte s j h,lqS,if_neg (by omega),if_neg (by omega),if_pos hc]
theorem lq_plain {s : ByteArray} {j : Nat} (h : j < s.size) (h1 : s[j].toNat ≠ 10) (h2 : s[j].toNat ≠ 34) (h3 : s[j].toNat ≠ 92) : lqS false (s.data.toList.drop j) = (lqS false (s.data.toList.drop (j + 1))).map (1 + ·):=by
  rw [drop_byte s j h,lqS,if_neg h1,if_neg h2,if_neg h3]
theorem lq_any {s : ByteArray} {j : Nat} (h : j < s.size) (h1 : s[j].toNat ≠ 10) : lqS true (s.data.toList.drop j) = (lqS false (s.data.toList.drop (j + 1))).map (1 + ·):=by
  rw [drop_byte s j h,lqS,if_neg h1]
def lqN (l : List UInt8) (p : Nat) : Int:=match lqS false (l.drop p) with | none=>0 | some k=>(p : Int) + k
theorem lqN_none {l : List UInt8} {p : Nat} (h : lqS false (l.drop p) = none) : lqN l p = 0:=by rw [lqN,h]
theorem lqN_some {l : List UInt8} {p k : Nat} (h : lqS false (l.drop p) = some k) : lqN l p = p + k:=by rw [lqN,h]
set_option maxHeartbeats 2000000 in
theorem quoted_any (s : ByteArray) (w : World) (hs : s.size≤140737488355328) : Calls Tryz.prog 184 #[.string s] w fun e w'=>e = .returned (.int .i64 (lqN s.data.toList 1))∧w' = w:=by
  go_enter Tryz.func184,Tryz.ntmps184
  go_wp2
  go_loop [3,4] (fun m i=>∃ (k q : Nat) (e : Bool),i = .int .i64 (k + 1 : Nat)∧k≤s.size∧m = .int .i64 q∧q≤k∧q % 2 = (if e then 1 else 0)∧Hid (LqAt s.data.toList 1 k e)) (fun _ i=>s.size + 1 - (intOf i).toNat)
  case atStart=>exact ⟨0,0,false,rfl,Nat.zero_le _,rfl,Nat.le_refl _,rfl,LqAt.start _ _⟩
  case round =>
    obtain ⟨k,q,e,rfl,hk,rfl,hq,hpar,hT⟩:=hrel
    rw [Nat.add_comm k 1]
    by_cases hlt : 1 + k < s.size
    · by_cases h10 : s[1 + k].toNat = 10
      · have hE:=Lib.hid (lqN_none (hT.out.none (lq_line e hlt h10)))
        have t1:=ne_no (show (s[1 + k].toNat : Int) = 10 by omega)
        clear h10 hT hpar
        go_wp2
        go_ret
        exact ⟨ret_int hE.out.symm,rfl⟩
      · have t1:=ne_yes (show (s[1 + k].toNat : Int) ≠ 10 by omega)
        cases e with
        | true =>
          have hN:=Lib.hid (hT.out.step (lq_any hlt h10))
          have t3 : (((q : Int) % 2) == 0) = false:=eq_no (by simp at hpar; omega)
          by_cases h92 : s[1 + k].toNat = 92
          · have t2:=eq_no (show (s[1 + k].toNat : Int) ≠ 34 by omega)
            have t4:=eq_yes (show (s[1 + k].toNat : Int) = 92 by omega)
            clear h92 h10 hT
            replace hpar:=Lib.hid (show (q + 1) % 2 = 0 by simp at hpar; omega)
            go_wp2
            go_round
            case rel=>exact ⟨k + 1,q + 1,false,by go_num,by omega,by go_num,by omega,hpar.out,hN.out⟩
            case measure=>simp [intOf]; omega
          · by_cases h34 : s[1 + k].toNat = 34
            · have t2:=eq_yes (show (s[1 + k].toNat : Int) = 34 by omega)
              have t4:=eq_no (show (s[1 + k].toNat : Int) ≠ 92 by omega)
              clear h34 h92 h10 hT hpar
              go_wp2
              go_round
              case rel=>exact ⟨k + 1,0,false,by go_num,by omega,rfl,by omega,rfl,hN.out⟩
              case measure=>simp [intOf]; omega
            · have t2:=eq_no (show (s[1 + k].toNat : Int) ≠ 34 by omega)
              have t4:=eq_no (show (s[1 + k].toNat : Int) ≠ 92 by omega)
              clear h34 h92 h10 hT hpar
              go_wp2
              go_round
              case rel=>exact ⟨k + 1,0,false,by go_num,by omega,rfl,by omega,rfl,hN.out⟩
              case measure=>simp [intOf]; omega
        | false =>
          have t3 : (((q : Int) % 2) == 0) = true:=eq_yes (by simp at hpar; omega)
          by_cases h34 : s[1 + k].toNat = 34
          · have hE:=Lib.hid (lqN_some (hT.out.found (lq_quote hlt h34)))
            have t2:=eq_yes (show (s[1 + k].toNat : Int) = 34 by omega)
            clear h34 h10 hT hpar
            go_wp2
            go_ret
            exact ⟨ret_int (by rw [hE.out]; omega),rfl⟩
          · have t2:=eq_no (show (s[1 + k].toNat : Int) ≠ 34 by omega)
            by_cases h92 : s[1 + k].toNat = 92
            · have hN:=Lib.hid (hT.out.step (lq_esc hlt h92))
              have t4:=eq_yes (show (s[1 + k].toNat : Int) = 92 by omega)
              clear h34 h92 h10 hT
              replace hpar:=Lib.hid (show (q + 1) % 2 = 1 by simp at hpar; omega)
              go_wp2
              go_round
              case rel=>exact ⟨k + 1,q + 1,true,by go_num,by omega,by go_num,by omega,hpar.out,hN.out⟩
              case measure=>simp [intOf]; omega
            · have hN:=Lib.hid (hT.out.step (lq_plain hlt h10 h34 h92))
              have t4:=eq_no (show (s[1 + k].toNat : Int) ≠ 92 by omega)
              clear h34 h92 h10 hT hpar
              go_wp2
              go_round
              case rel=>exact ⟨k + 1,0,false,by go_num,by omega,rfl,by omega,rfl,hN.out⟩
              case measure=>simp [intOf]; omega
    · have hE:=Lib.hid (lqN_none (hT.out.none (lq_end e hlt)))
      clear hT hpar
      go_wp2
      go_ret
      exact ⟨ret_int hE.out.symm,rfl⟩
end Go.Proofs.YtfffpflflggonaaGreatDoor.lex
namespace Go.Proofs.YtfffpflflggonaaGreatDoor.text
open Go.RowKit Go.Lib
structure Tabs (w : World) : Prop where
  runes : RuneTabs w
  pow : Lib.TabIs Tryz.prog w "internal/strconv.uint64pow10" .u64 Lib.pow10Tab
  range : ∃ tp p,w.var? Tryz.prog "strconv.ErrRange" = some #[.iface tp p]
  lim : ∃ m,w.cell? ⟨4,0,none⟩ = some (.int .i64 m)
theorem var_below {n : String} {cs : Array Value} {w w' : World} (h : Below w.heap.size w w') (hv : w.var? Tryz.prog n = some cs) : w'.var? Tryz.prog n = some cs:=by
  cases hg : Tryz.prog.globalNamed n with
  | none=>unfold World.var? at hv; simp [hg] at hv
  | some g =>
    refine Go.var?_below h hg ?_ hv
    rcases Nat.lt_or_ge g w.heap.size with hl | hl
    · exact hl
    · unfold World.var? at hv
      rw [hg,Option.bind_some,Array.getElem?_eq_none (by omega)] at hv
      cases hv
theorem Tabs.below {w w' : World} (h : Tabs w) (hb : Below w.heap.size w w') : Tabs w' :=
  ⟨Utf8Tabs_below h.runes hb,var_below hb h.pow,let ⟨tp,p,hr⟩:=h.range; ⟨tp,p,var_below hb hr⟩,let ⟨m,hm⟩:=h.lim; ⟨m,sub_of_below hb _ _ hm⟩⟩
theorem tab_of_reads {name : String} {k : IntKind} {zs : List Int} {g : Nat} {t e : TypeId} {n : Nat} {w : World}
    (hg : Tryz.prog.globalNamed name = some g) (hty : (Tryz.prog.globals[g]?).map (·.type) = some t) (ht : Tryz.prog.underlying t = some (.array n e)) (he : Tryz.prog.underlying e = some (.int k)) (hce : Tryz.prog.cellsOf e = 1) (hct : Tryz.prog.cellsOf t = n)
    (h : VarReads Tryz.prog w name (tabData k zs)) : TabIs Tryz.prog w name k zs:=by
  obtain ⟨g',t',cs,fuel,p,hg',ht',hvar,hd⟩:=h
  obtain rfl:=Option.some.inj (hg.symm.trans hg')
  obtain rfl:=Option.some.inj (hty.symm.trans ht')
  unfold TabIs
  rw [hvar,← cells_of_tab ht he hce hct hd]
end Go.Proofs.YtfffpflflggonaaGreatDoor.text
