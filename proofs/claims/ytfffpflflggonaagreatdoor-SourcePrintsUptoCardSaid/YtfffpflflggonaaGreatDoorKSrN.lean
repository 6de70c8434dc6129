/- The form of a part: the program's shape. -/
import Derived.Test.YtfffpflflggonaaGreatDoorKS21
import Derived.Test.YtfffpflflggonaaGreatDoorKSrS
import Derived.BigQuiet
namespace Go.Proofs.YtfffpflflggonaaGreatDoor.src
open Go.RowKit lex value text schema draw clause
theorem test_is (op : Int) (w : World) : Calls Tryz.prog 190 #[.int .i64 op] w fun e w'=>e = .returned (.bool (tstB op))∧w' = w:=by
  unfold tstB
  by_cases h1 : 6≤op
  · by_cases h2 : op≤15
    · have b1 : decide (6≤op) = true:=by simpa using h1
      have b2 : decide (op≤15) = true:=by simpa using h2
      rw [b1,b2]
      go_enter Tryz.func190,Tryz.ntmps190
      go_wp2
      go_ret
      exact ⟨rfl,rfl⟩
    · have b1 : decide (6≤op) = true:=by simpa using h1
      have b2 : decide (op≤15) = false:=by simpa using h2
      rw [b1,b2]
      go_enter Tryz.func190,Tryz.ntmps190
      go_wp2
      go_ret
      exact ⟨rfl,rfl⟩
  · have b1 : decide (6≤op) = false:=by simpa using h1
    rw [b1]
    go_enter Tryz.func190,Tryz.ntmps190
    go_wp2
    go_ret
    exact ⟨rfl,rfl⟩
theorem empty_size {s : ByteArray} (h : s.size = 0) : s = ⟨#[]⟩:=by
  cases s with
  | mk d =>
    have : d.size = 0:=h
    rw [Array.eq_empty_of_size_eq_zero this]
theorem empty_not {s : ByteArray} (h : s.size ≠ 0) :
    s.data.toList.isEmpty = false∧s.toList ≠ []∧(s.toList == []) = false∧(s.toList != []) = true:=by
  have h1 : s.data.toList ≠ []:=fun e=>h (by have:=congrArg List.length e; simpa using this)
  have h2 : s.toList ≠ []:=by rw [ByteArray.toList_eq]; exact h1
  exact ⟨by cases hs : s.data.toList with | nil=>exact absurd hs h1 | cons a l=>rfl,h2,
    by cases hs : s.toList with | nil=>exact absurd hs h2 | cons a l=>rfl,
    by cases hs : s.toList with | nil=>exact absurd hs h2 | cons a l=>rfl⟩
set_option maxRecDepth 100000 in
set_option maxHeartbeats 4000000 in
theorem form_1 (kd nm : ByteArray) (va : Option Addr) (vn vc : Nat) (ka : Option Addr) (kn kc : Nat) (w : World) :
    Calls Tryz.prog 189 #[.agg #[.int .i64 1,.string kd,.string nm,.slice va vn vc,.slice ka kn kc]] w fun e w'=>e = .returned (.bool (formB 1 kd.data.toList nm.data.toList vn kn))∧Below w.heap.size w w':=by
  have hO:=Own.new w #[.int .i64 1,.string kd,.string nm,.slice va vn vc,.slice ka kn kc] 31
  have hb:=Lib.hid (show Below w.heap.size w (w.alloc (.cells #[.int .i64 1,.string kd,.string nm,.slice va vn vc,.slice ka kn kc] 31)) from (Below.refl _ _).alloc (Nat.le_refl _) _)
  go_enter Tryz.func189,Tryz.ntmps189
  go_wp2_with fail
  generalize w.alloc (.cells #[.int .i64 1,.string kd,.string nm,.slice va vn vc,.slice ka kn kc] 31) = w0 at hO hb ⊢
  obtain ⟨e0,e1,e2,e3,e4,-⟩:=own5z hO
  go_quiet (fail)
  generalize hq : World.drewN w0 _ = w9
  have hO9 : Own w9 w.heap.size #[.int .i64 1,.string kd,.string nm,.slice va vn vc,.slice ka kn kc] 31:=by rw [← hq]; exact hO
  have hb9:=Lib.hid (show Below w.heap.size w w9 by rw [← hq]; exact hb.out.grown (grown_drewN w0 _ none) hb.out.size (fun k e=>by cases e))
  clear hq hO hb e0 e1 e2 e3 e4
  obtain ⟨e0,e1,e2,e3,e4,-⟩:=own5z hO9
  by_cases hk : 0 < kn
  case pos =>
    have hki : (0 : Int) < (kn : Int):=by omega
    have hQ:=Lib.hid (show false = formB 1 kd.data.toList nm.data.toList vn kn from by unfold formB tstB; simp [show ¬ kn = 0 by omega])
    clear hk
    go_wp2
    go_ret
    exact ⟨text.ret_bool hQ.out,hb9.out⟩
  have hki : ¬ (0 : Int) < (kn : Int):=by omega
  by_cases hkd : kd.size = 0
  case neg =>
    obtain ⟨he1,he2,he3,he4⟩:=empty_not hkd
    have hQ:=Lib.hid (show false = formB 1 kd.data.toList nm.data.toList vn kn from by unfold formB tstB; simp [show kn = 0 by omega,he1])
    clear hk hkd he1
    go_wp2
    go_ret
    exact ⟨text.ret_bool hQ.out,hb9.out⟩
  obtain rfl:=empty_size hkd
  by_cases hnm : nm.size = 0
  case neg =>
    obtain ⟨he1,he2,he3,he4⟩:=empty_not hnm
    have hQ:=Lib.hid (show false = formB 1 (⟨#[]⟩ : ByteArray).data.toList nm.data.toList vn kn from by unfold formB tstB; simp [show kn = 0 by omega,he1])
    clear hk hnm he1
    go_wp2
    go_ret
    exact ⟨text.ret_bool hQ.out,hb9.out⟩
  obtain rfl:=empty_size hnm
  by_cases hv : vn = 0
  case pos =>
    have hvi : ((vn : Int) == 0) = true:=by rw [hv]; rfl
    have hQ:=Lib.hid (show true = formB 1 (⟨#[]⟩ : ByteArray).data.toList (⟨#[]⟩ : ByteArray).data.toList vn kn from by unfold formB tstB; simp [show kn = 0 by omega,hv])
    clear hv hk
    go_wp2
    go_ret
    exact ⟨text.ret_bool hQ.out,hb9.out⟩
  have hvi : ((vn : Int) == 0) = false:=by simp; omega
  have hQ:=Lib.hid (show false = formB 1 (⟨#[]⟩ : ByteArray).data.toList (⟨#[]⟩ : ByteArray).data.toList vn kn from by unfold formB tstB; simp [show kn = 0 by omega,hv])
  clear hv hk
  go_wp2
  go_ret
  exact ⟨text.ret_bool hQ.out,hb9.out⟩
set_option maxRecDepth 100000 in
set_option maxHeartbeats 4000000 in
theorem form_2 (kd nm : ByteArray) (va : Option Addr) (vn vc : Nat) (ka : Option Addr) (kn kc : Nat) (w : World) :
    Calls Tryz.prog 189 #[.agg #[.int .i64 2,.string kd,.string nm,.slice va vn vc,.slice ka kn kc]] w fun e w'=>e = .returned (.bool (formB 2 kd.data.toList nm.data.toList vn kn))∧Below w.heap.size w w':=by
  have hO:=Own.new w #[.int .i64 2,.string kd,.string nm,.slice va vn vc,.slice ka kn kc] 31
  have hb:=Lib.hid (show Below w.heap.size w (w.alloc (.cells #[.int .i64 2,.string kd,.string nm,.slice va vn vc,.slice ka kn kc] 31)) from (Below.refl _ _).alloc (Nat.le_refl _) _)
  go_enter Tryz.func189,Tryz.ntmps189
  go_wp2_with fail
  generalize w.alloc (.cells #[.int .i64 2,.string kd,.string nm,.slice va vn vc,.slice ka kn kc] 31) = w0 at hO hb ⊢
  obtain ⟨e0,e1,e2,e3,e4,-⟩:=own5z hO
  go_quiet (fail)
  generalize hq : World.drewN w0 _ = w9
  have hO9 : Own w9 w.heap.size #[.int .i64 2,.string kd,.string nm,.slice va vn vc,.slice ka kn kc] 31:=by rw [← hq]; exact hO
  have hb9:=Lib.hid (show Below w.heap.size w w9 by rw [← hq]; exact hb.out.grown (grown_drewN w0 _ none) hb.out.size (fun k e=>by cases e))
  clear hq hO hb e0 e1 e2 e3 e4
  obtain ⟨e0,e1,e2,e3,e4,-⟩:=own5z hO9
  by_cases hk : kn < 2
  case pos =>
    have hki : (kn : Int) < 2:=by omega
    have hQ:=Lib.hid (show false = formB 2 kd.data.toList nm.data.toList vn kn from by unfold formB tstB; simp [show ¬ 2≤kn by omega])
    clear hk
    go_wp2
    go_ret
    exact ⟨text.ret_bool hQ.out,hb9.out⟩
  have hki : ¬ (kn : Int) < 2:=by omega
  by_cases hkd : kd.size = 0
  case neg =>
    obtain ⟨he1,he2,he3,he4⟩:=empty_not hkd
    have hQ:=Lib.hid (show false = formB 2 kd.data.toList nm.data.toList vn kn from by unfold formB tstB; simp [show 2≤kn by omega,he1])
    clear hk hkd he1
    go_wp2
    go_ret
    exact ⟨text.ret_bool hQ.out,hb9.out⟩
  obtain rfl:=empty_size hkd
  by_cases hnm : nm.size = 0
  case neg =>
    obtain ⟨he1,he2,he3,he4⟩:=empty_not hnm
    have hQ:=Lib.hid (show false = formB 2 (⟨#[]⟩ : ByteArray).data.toList nm.data.toList vn kn from by unfold formB tstB; simp [show 2≤kn by omega,he1])
    clear hk hnm he1
    go_wp2
    go_ret
    exact ⟨text.ret_bool hQ.out,hb9.out⟩
  obtain rfl:=empty_size hnm
  by_cases hv : vn = 0
  case pos =>
    have hvi : ((vn : Int) == 0) = true:=by rw [hv]; rfl
    have hQ:=Lib.hid (show true = formB 2 (⟨#[]⟩ : ByteArray).data.toList (⟨#[]⟩ : ByteArray).data.toList vn kn from by unfold formB tstB; simp [show 2≤kn by omega,hv])
    clear hv hk
    go_wp2
    go_ret
    exact ⟨text.ret_bool hQ.out,hb9.out⟩
  have hvi : ((vn : Int) == 0) = false:=by simp; omega
  have hQ:=Lib.hid (show false = formB 2 (⟨#[]⟩ : ByteArray).data.toList (⟨#[]⟩ : ByteArray).data.toList vn kn from by unfold formB tstB; simp [show 2≤kn by omega,hv])
  clear hv hk
  go_wp2
  go_ret
  exact ⟨text.ret_bool hQ.out,hb9.out⟩
set_option maxRecDepth 100000 in
set_option maxHeartbeats 4000000 in
theorem form_3 (kd nm : ByteArray) (va : Option Addr) (vn vc : Nat) (ka : Option Addr) (kn kc : Nat) (w : World) :
    Calls Tryz.prog 189 #[.agg #[.int .i64 3,.string kd,.string nm,.slice va vn vc,.slice ka kn kc]] w fun e w'=>e = .returned (.bool (formB 3 kd.data.toList nm.data.toList vn kn))∧Below w.heap.size w w':=by
  have hO:=Own.new w #[.int .i64 3,.string kd,.string nm,.slice va vn vc,.slice ka kn kc] 31
  have hb:=Lib.hid (show Below w.heap.size w (w.alloc (.cells #[.int .i64 3,.string kd,.string nm,.slice va vn vc,.slice ka kn kc] 31)) from (Below.refl _ _).alloc (Nat.le_refl _) _)
  go_enter Tryz.func189,Tryz.ntmps189
  go_wp2_with fail
  generalize w.alloc (.cells #[.int .i64 3,.string kd,.string nm,.slice va vn vc,.slice ka kn kc] 31) = w0 at hO hb ⊢
  obtain ⟨e0,e1,e2,e3,e4,-⟩:=own5z hO
  go_quiet (fail)
  generalize hq : World.drewN w0 _ = w9
  have hO9 : Own w9 w.heap.size #[.int .i64 3,.string kd,.string nm,.slice va vn vc,.slice ka kn kc] 31:=by rw [← hq]; exact hO
  have hb9:=Lib.hid (show Below w.heap.size w w9 by rw [← hq]; exact hb.out.grown (grown_drewN w0 _ none) hb.out.size (fun k e=>by cases e))
  clear hq hO hb e0 e1 e2 e3 e4
  obtain ⟨e0,e1,e2,e3,e4,-⟩:=own5z hO9
  by_cases hk : kn < 2
  case pos =>
    have hki : (kn : Int) < 2:=by omega
    have hQ:=Lib.hid (show false = formB 3 kd.data.toList nm.data.toList vn kn from by unfold formB tstB; simp [show ¬ 2≤kn by omega])
    clear hk
    go_wp2
    go_ret
    exact ⟨text.ret_bool hQ.out,hb9.out⟩
  have hki : ¬ (kn : Int) < 2:=by omega
  by_cases hkd : kd.size = 0
  case neg =>
    obtain ⟨he1,he2,he3,he4⟩:=empty_not hkd
    have hQ:=Lib.hid (show false = formB 3 kd.data.toList nm.data.toList vn kn from by unfold formB tstB; simp [show 2≤kn by omega,he1])
    clear hk hkd he1
    go_wp2
    go_ret
    exact ⟨text.ret_bool hQ.out,hb9.out⟩
  obtain rfl:=empty_size hkd
  by_cases hnm : nm.size = 0
  case neg =>
    obtain ⟨he1,he2,he3,he4⟩:=empty_not hnm
    have hQ:=Lib.hid (show false = formB 3 (⟨#[]⟩ : ByteArray).data.toList nm.data.toList vn kn from by unfold formB tstB; simp [show 2≤kn by omega,he1])
    clear hk hnm he1
    go_wp2
    go_ret
    exact ⟨text.ret_bool hQ.out,hb9.out⟩
  obtain rfl:=empty_size hnm
  by_cases hv : vn = 0
  case pos =>
    have hvi : ((vn : Int) == 0) = true:=by rw [hv]; rfl
    have hQ:=Lib.hid (show true = formB 3 (⟨#[]⟩ : ByteArray).data.toList (⟨#[]⟩ : ByteArray).data.toList vn kn from by unfold formB tstB; simp [show 2≤kn by omega,hv])
    clear hv hk
    go_wp2
    go_ret
    exact ⟨text.ret_bool hQ.out,hb9.out⟩
  have hvi : ((vn : Int) == 0) = false:=by simp; omega
  have hQ:=Lib.hid (show false = formB 3 (⟨#[]⟩ : ByteArray).data.toList (⟨#[]⟩ : ByteArray).data.toList vn kn from by unfold formB tstB; simp [show 2≤kn by omega,hv])
  clear hv hk
  go_wp2
  go_ret
  exact ⟨text.ret_bool hQ.out,hb9.out⟩
set_option maxRecDepth 100000 in
set_option maxHeartbeats 4000000 in
theorem form_4 (kd nm : ByteArray) (va : Option Addr) (vn vc : Nat) (ka : Option Addr) (kn kc : Nat) (w : World) :
    Calls Tryz.prog 189 #[.agg #[.int .i64 4,.string kd,.string nm,.slice va vn vc,.slice ka kn kc]] w fun e w'=>e = .returned (.bool (formB 4 kd.data.toList nm.data.toList vn kn))∧Below w.heap.size w w':=by
  have hO:=Own.new w #[.int .i64 4,.string kd,.string nm,.slice va vn vc,.slice ka kn kc] 31
  have hb:=Lib.hid (show Below w.heap.size w (w.alloc (.cells #[.int .i64 4,.string kd,.string nm,.slice va vn vc,.slice ka kn kc] 31)) from (Below.refl _ _).alloc (Nat.le_refl _) _)
  go_enter Tryz.func189,Tryz.ntmps189
  go_wp2_with fail
  generalize w.alloc (.cells #[.int .i64 4,.string kd,.string nm,.slice va vn vc,.slice ka kn kc] 31) = w0 at hO hb ⊢
  obtain ⟨e0,e1,e2,e3,e4,-⟩:=own5z hO
  go_quiet (fail)
  generalize hq : World.drewN w0 _ = w9
  have hO9 : Own w9 w.heap.size #[.int .i64 4,.string kd,.string nm,.slice va vn vc,.slice ka kn kc] 31:=by rw [← hq]; exact hO
  have hb9:=Lib.hid (show Below w.heap.size w w9 by rw [← hq]; exact hb.out.grown (grown_drewN w0 _ none) hb.out.size (fun k e=>by cases e))
  clear hq hO hb e0 e1 e2 e3 e4
  obtain ⟨e0,e1,e2,e3,e4,-⟩:=own5z hO9
  by_cases hk : kn ≠ 1
  case pos =>
    have hki : ((kn : Int) != 1) = true:=by simp; omega
    have hQ:=Lib.hid (show false = formB 4 kd.data.toList nm.data.toList vn kn from by unfold formB tstB; simp [hk])
    clear hk
    go_wp2
    go_ret
    exact ⟨text.ret_bool hQ.out,hb9.out⟩
  have hki : ((kn : Int) != 1) = false:=by simp; omega
  by_cases hkd : kd.size = 0
  case neg =>
    obtain ⟨he1,he2,he3,he4⟩:=empty_not hkd
    have hQ:=Lib.hid (show false = formB 4 kd.data.toList nm.data.toList vn kn from by unfold formB tstB; simp [show kn = 1 by omega,he1])
    clear hk hkd he1
    go_wp2
    go_ret
    exact ⟨text.ret_bool hQ.out,hb9.out⟩
  obtain rfl:=empty_size hkd
  by_cases hnm : nm.size = 0
  case neg =>
    obtain ⟨he1,he2,he3,he4⟩:=empty_not hnm
    have hQ:=Lib.hid (show false = formB 4 (⟨#[]⟩ : ByteArray).data.toList nm.data.toList vn kn from by unfold formB tstB; simp [show kn = 1 by omega,he1])
    clear hk hnm he1
    go_wp2
    go_ret
    exact ⟨text.ret_bool hQ.out,hb9.out⟩
  obtain rfl:=empty_size hnm
  by_cases hv : vn = 0
  case pos =>
    have hvi : ((vn : Int) == 0) = true:=by rw [hv]; rfl
    have hQ:=Lib.hid (show true = formB 4 (⟨#[]⟩ : ByteArray).data.toList (⟨#[]⟩ : ByteArray).data.toList vn kn from by unfold formB tstB; simp [show kn = 1 by omega,hv])
    clear hv hk
    go_wp2
    go_ret
    exact ⟨text.ret_bool hQ.out,hb9.out⟩
  have hvi : ((vn : Int) == 0) = false:=by simp; omega
  have hQ:=Lib.hid (show false = formB 4 (⟨#[]⟩ : ByteArray).data.toList (⟨#[]⟩ : ByteArray).data.toList vn kn from by unfold formB tstB; simp [show kn = 1 by omega,hv])
  clear hv hk
  go_wp2
  go_ret
  exact ⟨text.ret_bool hQ.out,hb9.out⟩
set_option maxRecDepth 100000 in
set_option maxHeartbeats 4000000 in
theorem form_5 (kd nm : ByteArray) (va : Option Addr) (vn vc : Nat) (ka : Option Addr) (kn kc : Nat) (w : World) :
    Calls Tryz.prog 189 #[.agg #[.int .i64 5,.string kd,.string nm,.slice va vn vc,.slice ka kn kc]] w fun e w'=>e = .returned (.bool (formB 5 kd.data.toList nm.data.toList vn kn))∧Below w.heap.size w w':=by
  have hO:=Own.new w #[.int .i64 5,.string kd,.string nm,.slice va vn vc,.slice ka kn kc] 31
  have hb:=Lib.hid (show Below w.heap.size w (w.alloc (.cells #[.int .i64 5,.string kd,.string nm,.slice va vn vc,.slice ka kn kc] 31)) from (Below.refl _ _).alloc (Nat.le_refl _) _)
  go_enter Tryz.func189,Tryz.ntmps189
  go_wp2_with fail
  generalize w.alloc (.cells #[.int .i64 5,.string kd,.string nm,.slice va vn vc,.slice ka kn kc] 31) = w0 at hO hb ⊢
  obtain ⟨e0,e1,e2,e3,e4,-⟩:=own5z hO
  go_quiet (fail)
  generalize hq : World.drewN w0 _ = w9
  have hO9 : Own w9 w.heap.size #[.int .i64 5,.string kd,.string nm,.slice va vn vc,.slice ka kn kc] 31:=by rw [← hq]; exact hO
  have hb9:=Lib.hid (show Below w.heap.size w w9 by rw [← hq]; exact hb.out.grown (grown_drewN w0 _ none) hb.out.size (fun k e=>by cases e))
  clear hq hO hb e0 e1 e2 e3 e4
  obtain ⟨e0,e1,e2,e3,e4,-⟩:=own5z hO9
  by_cases hk : 0 < kn
  case pos =>
    have hki : (0 : Int) < (kn : Int):=by omega
    have hQ:=Lib.hid (show false = formB 5 kd.data.toList nm.data.toList vn kn from by unfold formB tstB; simp [show ¬ kn = 0 by omega])
    clear hk
    go_wp2
    go_ret
    exact ⟨text.ret_bool hQ.out,hb9.out⟩
  have hki : ¬ (0 : Int) < (kn : Int):=by omega
  by_cases hkd : kd.size = 0
  case neg =>
    obtain ⟨he1,he2,he3,he4⟩:=empty_not hkd
    have hQ:=Lib.hid (show false = formB 5 kd.data.toList nm.data.toList vn kn from by unfold formB tstB; simp [show kn = 0 by omega,he1])
    clear hk hkd he1
    go_wp2
    go_ret
    exact ⟨text.ret_bool hQ.out,hb9.out⟩
  obtain rfl:=empty_size hkd
  by_cases hnm : nm.size = 0
  case neg =>
    obtain ⟨he1,he2,he3,he4⟩:=empty_not hnm
    by_cases hv : vn = 0
    case pos =>
      have hvi : ((vn : Int) == 0) = true:=by rw [hv]; rfl
      have hQ:=Lib.hid (show true = formB 5 (⟨#[]⟩ : ByteArray).data.toList nm.data.toList vn kn from by unfold formB tstB; simp [show kn = 0 by omega,hv])
      clear hv hk hnm he1
      go_wp2
      go_ret
      exact ⟨text.ret_bool hQ.out,hb9.out⟩
    have hvi : ((vn : Int) == 0) = false:=by simp; omega
    have hQ:=Lib.hid (show false = formB 5 (⟨#[]⟩ : ByteArray).data.toList nm.data.toList vn kn from by unfold formB tstB; simp [show kn = 0 by omega,hv])
    clear hv hk hnm he1
    go_wp2
    go_ret
    exact ⟨text.ret_bool hQ.out,hb9.out⟩
  obtain rfl:=empty_size hnm
  by_cases hv : vn = 0
  case pos =>
    have hvi : ((vn : Int) == 0) = true:=by rw [hv]; rfl
    have hQ:=Lib.hid (show true = formB 5 (⟨#[]⟩ : ByteArray).data.toList (⟨#[]⟩ : ByteArray).data.toList vn kn from by unfold formB tstB; simp [show kn = 0 by omega,hv])
    clear hv hk
    go_wp2
    go_ret
    exact ⟨text.ret_bool hQ.out,hb9.out⟩
  have hvi : ((vn : Int) == 0) = false:=by simp; omega
  have hQ:=Lib.hid (show false = formB 5 (⟨#[]⟩ : ByteArray).data.toList (⟨#[]⟩ : ByteArray).data.toList vn kn from by unfold formB tstB; simp [show kn = 0 by omega,hv])
  clear hv hk
  go_wp2
  go_ret
  exact ⟨text.ret_bool hQ.out,hb9.out⟩
set_option maxRecDepth 100000 in
set_option maxHeartbeats 4000000 in
theorem form_6 (kd nm : ByteArray) (va : Option Addr) (vn vc : Nat) (ka : Option Addr) (kn kc : Nat) (w : World) :
    Calls Tryz.prog 189 #[.agg #[.int .i64 6,.string kd,.string nm,.slice va vn vc,.slice ka kn kc]] w fun e w'=>e = .returned (.bool (formB 6 kd.data.toList nm.data.toList vn kn))∧Below w.heap.size w w':=by
  have hO:=Own.new w #[.int .i64 6,.string kd,.string nm,.slice va vn vc,.slice ka kn kc] 31
  have hb:=Lib.hid (show Below w.heap.size w (w.alloc (.cells #[.int .i64 6,.string kd,.string nm,.slice va vn vc,.slice ka kn kc] 31)) from (Below.refl _ _).alloc (Nat.le_refl _) _)
  go_enter Tryz.func189,Tryz.ntmps189
  go_wp2_with fail
  generalize w.alloc (.cells #[.int .i64 6,.string kd,.string nm,.slice va vn vc,.slice ka kn kc] 31) = w0 at hO hb ⊢
  obtain ⟨e0,e1,e2,e3,e4,-⟩:=own5z hO
  go_quiet (fail)
  generalize hq : World.drewN w0 _ = w9
  have hO9 : Own w9 w.heap.size #[.int .i64 6,.string kd,.string nm,.slice va vn vc,.slice ka kn kc] 31:=by rw [← hq]; exact hO
  have hb9:=Lib.hid (show Below w.heap.size w w9 by rw [← hq]; exact hb.out.grown (grown_drewN w0 _ none) hb.out.size (fun k e=>by cases e))
  clear hq hO hb e0 e1 e2 e3 e4
  obtain ⟨e0,e1,e2,e3,e4,-⟩:=own5z hO9
  by_cases hk : 0 < kn
  case pos =>
    have hki : (0 : Int) < (kn : Int):=by omega
    have hQ:=Lib.hid (show false = formB 6 kd.data.toList nm.data.toList vn kn from by unfold formB tstB; simp [show ¬ kn = 0 by omega])
    clear hk
    go_wp2
    go_ret
    exact ⟨text.ret_bool hQ.out,hb9.out⟩
  have hki : ¬ (0 : Int) < (kn : Int):=by omega
  by_cases hv : vn = 0
  case pos =>
    have hvi : ((vn : Int) == 0) = true:=by rw [hv]; rfl
    have hQ:=Lib.hid (show true = formB 6 kd.data.toList nm.data.toList vn kn from by unfold formB tstB; simp [show kn = 0 by omega,hv])
    clear hv hk
    go_wp2
    go_ret
    exact ⟨text.ret_bool hQ.out,hb9.out⟩
  have hvi : ((vn : Int) == 0) = false:=by simp; omega
  have hQ:=Lib.hid (show false = formB 6 kd.data.toList nm.data.toList vn kn from by unfold formB tstB; simp [show kn = 0 by omega,hv])
  clear hv hk
  go_wp2
  go_ret
  exact ⟨text.ret_bool hQ.out,hb9.out⟩
set_option maxRecDepth 100000 in
set_option maxHeartbeats 4000000 in
theorem form_7 (kd nm : ByteArray) (va : Option Addr) (vn vc : Nat) (ka : Option Addr) (kn kc : Nat) (w : World) :
    Calls Tryz.prog 189 #[.agg #[.int .i64 7,.string kd,.string nm,.slice va vn vc,.slice ka kn kc]] w fun e w'=>e = .returned (.bool (formB 7 kd.data.toList nm.data.toList vn kn))∧Below w.heap.size w w':=by
  have hO:=Own.new w #[.int .i64 7,.string kd,.string nm,.slice va vn vc,.slice ka kn kc] 31
  have hb:=Lib.hid (show Below w.heap.size w (w.alloc (.cells #[.int .i64 7,.string kd,.string nm,.slice va vn vc,.slice ka kn kc] 31)) from (Below.refl _ _).alloc (Nat.le_refl _) _)
  go_enter Tryz.func189,Tryz.ntmps189
  go_wp2_with fail
  generalize w.alloc (.cells #[.int .i64 7,.string kd,.string nm,.slice va vn vc,.slice ka kn kc] 31) = w0 at hO hb ⊢
  obtain ⟨e0,e1,e2,e3,e4,-⟩:=own5z hO
  go_quiet (fail)
  generalize hq : World.drewN w0 _ = w9
  have hO9 : Own w9 w.heap.size #[.int .i64 7,.string kd,.string nm,.slice va vn vc,.slice ka kn kc] 31:=by rw [← hq]; exact hO
  have hb9:=Lib.hid (show Below w.heap.size w w9 by rw [← hq]; exact hb.out.grown (grown_drewN w0 _ none) hb.out.size (fun k e=>by cases e))
  clear hq hO hb e0 e1 e2 e3 e4
  obtain ⟨e0,e1,e2,e3,e4,-⟩:=own5z hO9
  by_cases hk : 0 < kn
  case pos =>
    have hki : (0 : Int) < (kn : Int):=by omega
    have hQ:=Lib.hid (show false = formB 7 kd.data.toList nm.data.toList vn kn from by unfold formB tstB; simp [show ¬ kn = 0 by omega])
    clear hk
    go_wp2
    go_ret
    exact ⟨text.ret_bool hQ.out,hb9.out⟩
  have hki : ¬ (0 : Int) < (kn : Int):=by omega
  by_cases hv : vn = 1
  case pos =>
    have hvi : ((vn : Int) == 1) = true:=by rw [hv]; rfl
    have hQ:=Lib.hid (show true = formB 7 kd.data.toList nm.data.toList vn kn from by unfold formB tstB; simp [show kn = 0 by omega,hv])
    clear hv hk
    go_wp2
    go_ret
    exact ⟨text.ret_bool hQ.out,hb9.out⟩
  have hvi : ((vn : Int) == 1) = false:=by simp; omega
  have hQ:=Lib.hid (show false = formB 7 kd.data.toList nm.data.toList vn kn from by unfold formB tstB; simp [show kn = 0 by omega,hv])
  clear hv hk
  go_wp2
  go_ret
  exact ⟨text.ret_bool hQ.out,hb9.out⟩
set_option maxRecDepth 100000 in
set_option maxHeartbeats 4000000 in
theorem form_8 (kd nm : ByteArray) (va : Option Addr) (vn vc : Nat) (ka : Option Addr) (kn kc : Nat) (w : World) :
    Calls Tryz.prog 189 #[.agg #[.int .i64 8,.string kd,.string nm,.slice va vn vc,.slice ka kn kc]] w fun e w'=>e = .returned (.bool (formB 8 kd.data.toList nm.data.toList vn kn))∧Below w.heap.size w w':=by
  have hO:=Own.new w #[.int .i64 8,.string kd,.string nm,.slice va vn vc,.slice ka kn kc] 31
  have hb:=Lib.hid (show Below w.heap.size w (w.alloc (.cells #[.int .i64 8,.string kd,.string nm,.slice va vn vc,.slice ka kn kc] 31)) from (Below.refl _ _).alloc (Nat.le_refl _) _)
  go_enter Tryz.func189,Tryz.ntmps189
  go_wp2_with fail
  generalize w.alloc (.cells #[.int .i64 8,.string kd,.string nm,.slice va vn vc,.slice ka kn kc] 31) = w0 at hO hb ⊢
  obtain ⟨e0,e1,e2,e3,e4,-⟩:=own5z hO
  go_quiet (fail)
  generalize hq : World.drewN w0 _ = w9
  have hO9 : Own w9 w.heap.size #[.int .i64 8,.string kd,.string nm,.slice va vn vc,.slice ka kn kc] 31:=by rw [← hq]; exact hO
  have hb9:=Lib.hid (show Below w.heap.size w w9 by rw [← hq]; exact hb.out.grown (grown_drewN w0 _ none) hb.out.size (fun k e=>by cases e))
  clear hq hO hb e0 e1 e2 e3 e4
  obtain ⟨e0,e1,e2,e3,e4,-⟩:=own5z hO9
  by_cases hk : 0 < kn
  case pos =>
    have hki : (0 : Int) < (kn : Int):=by omega
    have hQ:=Lib.hid (show false = formB 8 kd.data.toList nm.data.toList vn kn from by unfold formB tstB; simp [show ¬ kn = 0 by omega])
    clear hk
    go_wp2
    go_ret
    exact ⟨text.ret_bool hQ.out,hb9.out⟩
  have hki : ¬ (0 : Int) < (kn : Int):=by omega
  have hQ:=Lib.hid (show decide (0 < vn) = formB 8 kd.data.toList nm.data.toList vn kn from by unfold formB tstB; simp [show kn = 0 by omega])
  clear hk
  go_wp2
  go_ret
  exact ⟨text.ret_bool hQ.out,hb9.out⟩
set_option maxRecDepth 100000 in
set_option maxHeartbeats 4000000 in
theorem form_9 (kd nm : ByteArray) (va : Option Addr) (vn vc : Nat) (ka : Option Addr) (kn kc : Nat) (w : World) :
    Calls Tryz.prog 189 #[.agg #[.int .i64 9,.string kd,.string nm,.slice va vn vc,.slice ka kn kc]] w fun e w'=>e = .returned (.bool (formB 9 kd.data.toList nm.data.toList vn kn))∧Below w.heap.size w w':=by
  have hO:=Own.new w #[.int .i64 9,.string kd,.string nm,.slice va vn vc,.slice ka kn kc] 31
  have hb:=Lib.hid (show Below w.heap.size w (w.alloc (.cells #[.int .i64 9,.string kd,.string nm,.slice va vn vc,.slice ka kn kc] 31)) from (Below.refl _ _).alloc (Nat.le_refl _) _)
  go_enter Tryz.func189,Tryz.ntmps189
  go_wp2_with fail
  generalize w.alloc (.cells #[.int .i64 9,.string kd,.string nm,.slice va vn vc,.slice ka kn kc] 31) = w0 at hO hb ⊢
  obtain ⟨e0,e1,e2,e3,e4,-⟩:=own5z hO
  go_quiet (fail)
  generalize hq : World.drewN w0 _ = w9
  have hO9 : Own w9 w.heap.size #[.int .i64 9,.string kd,.string nm,.slice va vn vc,.slice ka kn kc] 31:=by rw [← hq]; exact hO
  have hb9:=Lib.hid (show Below w.heap.size w w9 by rw [← hq]; exact hb.out.grown (grown_drewN w0 _ none) hb.out.size (fun k e=>by cases e))
  clear hq hO hb e0 e1 e2 e3 e4
  obtain ⟨e0,e1,e2,e3,e4,-⟩:=own5z hO9
  by_cases hk : 0 < kn
  case pos =>
    have hki : (0 : Int) < (kn : Int):=by omega
    have hQ:=Lib.hid (show false = formB 9 kd.data.toList nm.data.toList vn kn from by unfold formB tstB; simp [show ¬ kn = 0 by omega])
    clear hk
    go_wp2
    go_ret
    exact ⟨text.ret_bool hQ.out,hb9.out⟩
  have hki : ¬ (0 : Int) < (kn : Int):=by omega
  by_cases hv : vn = 1
  case pos =>
    have hvi : ((vn : Int) == 1) = true:=by rw [hv]; rfl
    have hQ:=Lib.hid (show true = formB 9 kd.data.toList nm.data.toList vn kn from by unfold formB tstB; simp [show kn = 0 by omega,hv])
    clear hv hk
    go_wp2
    go_ret
    exact ⟨text.ret_bool hQ.out,hb9.out⟩
  have hvi : ((vn : Int) == 1) = false:=by simp; omega
  have hQ:=Lib.hid (show false = formB 9 kd.data.toList nm.data.toList vn kn from by unfold formB tstB; simp [show kn = 0 by omega,hv])
  clear hv hk
  go_wp2
  go_ret
  exact ⟨text.ret_bool hQ.out,hb9.out⟩
set_option maxRecDepth 100000 in
set_option maxHeartbeats 4000000 in
theorem form_10 (kd nm : ByteArray) (va : Option Addr) (vn vc : Nat) (ka : Option Addr) (kn kc : Nat) (w : World) :
    Calls Tryz.prog 189 #[.agg #[.int .i64 10,.string kd,.string nm,.slice va vn vc,.slice ka kn kc]] w fun e w'=>e = .returned (.bool (formB 10 kd.data.toList nm.data.toList vn kn))∧Below w.heap.size w w':=by
  have hO:=Own.new w #[.int .i64 10,.string kd,.string nm,.slice va vn vc,.slice ka kn kc] 31
  have hb:=Lib.hid (show Below w.heap.size w (w.alloc (.cells #[.int .i64 10,.string kd,.string nm,.slice va vn vc,.slice ka kn kc] 31)) from (Below.refl _ _).alloc (Nat.le_refl _) _)
  go_enter Tryz.func189,Tryz.ntmps189
  go_wp2_with fail
  generalize w.alloc (.cells #[.int .i64 10,.string kd,.string nm,.slice va vn vc,.slice ka kn kc] 31) = w0 at hO hb ⊢
  obtain ⟨e0,e1,e2,e3,e4,-⟩:=own5z hO
  go_quiet (fail)
  generalize hq : World.drewN w0 _ = w9
  have hO9 : Own w9 w.heap.size #[.int .i64 10,.string kd,.string nm,.slice va vn vc,.slice ka kn kc] 31:=by rw [← hq]; exact hO
  have hb9:=Lib.hid (show Below w.heap.size w w9 by rw [← hq]; exact hb.out.grown (grown_drewN w0 _ none) hb.out.size (fun k e=>by cases e))
  clear hq hO hb e0 e1 e2 e3 e4
  obtain ⟨e0,e1,e2,e3,e4,-⟩:=own5z hO9
  by_cases hk : 0 < kn
  case pos =>
    have hki : (0 : Int) < (kn : Int):=by omega
    have hQ:=Lib.hid (show false = formB 10 kd.data.toList nm.data.toList vn kn from by unfold formB tstB; simp [show ¬ kn = 0 by omega])
    clear hk
    go_wp2
    go_ret
    exact ⟨text.ret_bool hQ.out,hb9.out⟩
  have hki : ¬ (0 : Int) < (kn : Int):=by omega
  by_cases hv : vn = 1
  case pos =>
    have hvi : ((vn : Int) == 1) = true:=by rw [hv]; rfl
    have hQ:=Lib.hid (show true = formB 10 kd.data.toList nm.data.toList vn kn from by unfold formB tstB; simp [show kn = 0 by omega,hv])
    clear hv hk
    go_wp2
    go_ret
    exact ⟨text.ret_bool hQ.out,hb9.out⟩
  have hvi : ((vn : Int) == 1) = false:=by simp; omega
  have hQ:=Lib.hid (show false = formB 10 kd.data.toList nm.data.toList vn kn from by unfold formB tstB; simp [show kn = 0 by omega,hv])
  clear hv hk
  go_wp2
  go_ret
  exact ⟨text.ret_bool hQ.out,hb9.out⟩
set_option maxRecDepth 100000 in
set_option maxHeartbeats 4000000 in
theorem form_11 (kd nm : ByteArray) (va : Option Addr) (vn vc : Nat) (ka : Option Addr) (kn kc : Nat) (w : World) :
    Calls Tryz.prog 189 #[.agg #[.int .i64 11,.string kd,.string nm,.slice va vn vc,.slice ka kn kc]] w fun e w'=>e = .returned (.bool (formB 11 kd.data.toList nm.data.toList vn kn))∧Below w.heap.size w w':=by
  have hO:=Own.new w #[.int .i64 11,.string kd,.string nm,.slice va vn vc,.slice ka kn kc] 31
  have hb:=Lib.hid (show Below w.heap.size w (w.alloc (.cells #[.int .i64 11,.string kd,.string nm,.slice va vn vc,.slice ka kn kc] 31)) from (Below.refl _ _).alloc (Nat.le_refl _) _)
  go_enter Tryz.func189,Tryz.ntmps189
  go_wp2_with fail
  generalize w.alloc (.cells #[.int .i64 11,.string kd,.string nm,.slice va vn vc,.slice ka kn kc] 31) = w0 at hO hb ⊢
  obtain ⟨e0,e1,e2,e3,e4,-⟩:=own5z hO
  go_quiet (fail)
  generalize hq : World.drewN w0 _ = w9
  have hO9 : Own w9 w.heap.size #[.int .i64 11,.string kd,.string nm,.slice va vn vc,.slice ka kn kc] 31:=by rw [← hq]; exact hO
  have hb9:=Lib.hid (show Below w.heap.size w w9 by rw [← hq]; exact hb.out.grown (grown_drewN w0 _ none) hb.out.size (fun k e=>by cases e))
  clear hq hO hb e0 e1 e2 e3 e4
  obtain ⟨e0,e1,e2,e3,e4,-⟩:=own5z hO9
  by_cases hk : 0 < kn
  case pos =>
    have hki : (0 : Int) < (kn : Int):=by omega
    have hQ:=Lib.hid (show false = formB 11 kd.data.toList nm.data.toList vn kn from by unfold formB tstB; simp [show ¬ kn = 0 by omega])
    clear hk
    go_wp2
    go_ret
    exact ⟨text.ret_bool hQ.out,hb9.out⟩
  have hki : ¬ (0 : Int) < (kn : Int):=by omega
  by_cases hv : vn = 1
  case pos =>
    have hvi : ((vn : Int) == 1) = true:=by rw [hv]; rfl
    have hQ:=Lib.hid (show true = formB 11 kd.data.toList nm.data.toList vn kn from by unfold formB tstB; simp [show kn = 0 by omega,hv])
    clear hv hk
    go_wp2
    go_ret
    exact ⟨text.ret_bool hQ.out,hb9.out⟩
  have hvi : ((vn : Int) == 1) = false:=by simp; omega
  have hQ:=Lib.hid (show false = formB 11 kd.data.toList nm.data.toList vn kn from by unfold formB tstB; simp [show kn = 0 by omega,hv])
  clear hv hk
  go_wp2
  go_ret
  exact ⟨text.ret_bool hQ.out,hb9.out⟩
set_option maxRecDepth 100000 in
set_option maxHeartbeats 4000000 in
theorem form_12 (kd nm : ByteArray) (va : Option Addr) (vn vc : Nat) (ka : Option Addr) (kn kc : Nat) (w : World) :
    Calls Tryz.prog 189 #[.agg #[.int .i64 12,.string kd,.string nm,.slice va vn vc,.slice ka kn kc]] w fun e w'=>e = .returned (.bool (formB 12 kd.data.toList nm.data.toList vn kn))∧Below w.heap.size w w':=by
  have hO:=Own.new w #[.int .i64 12,.string kd,.string nm,.slice va vn vc,.slice ka kn kc] 31
  have hb:=Lib.hid (show Below w.heap.size w (w.alloc (.cells #[.int .i64 12,.string kd,.string nm,.slice va vn vc,.slice ka kn kc] 31)) from (Below.refl _ _).alloc (Nat.le_refl _) _)
  go_enter Tryz.func189,Tryz.ntmps189
  go_wp2_with fail
  generalize w.alloc (.cells #[.int .i64 12,.string kd,.string nm,.slice va vn vc,.slice ka kn kc] 31) = w0 at hO hb ⊢
  obtain ⟨e0,e1,e2,e3,e4,-⟩:=own5z hO
  go_quiet (fail)
  generalize hq : World.drewN w0 _ = w9
  have hO9 : Own w9 w.heap.size #[.int .i64 12,.string kd,.string nm,.slice va vn vc,.slice ka kn kc] 31:=by rw [← hq]; exact hO
  have hb9:=Lib.hid (show Below w.heap.size w w9 by rw [← hq]; exact hb.out.grown (grown_drewN w0 _ none) hb.out.size (fun k e=>by cases e))
  clear hq hO hb e0 e1 e2 e3 e4
  obtain ⟨e0,e1,e2,e3,e4,-⟩:=own5z hO9
  by_cases hk : 0 < kn
  case pos =>
    have hki : (0 : Int) < (kn : Int):=by omega
    have hQ:=Lib.hid (show false = formB 12 kd.data.toList nm.data.toList vn kn from by unfold formB tstB; simp [show ¬ kn = 0 by omega])
    clear hk
    go_wp2
    go_ret
    exact ⟨text.ret_bool hQ.out,hb9.out⟩
  have hki : ¬ (0 : Int) < (kn : Int):=by omega
  by_cases hv : vn = 1
  case pos =>
    have hvi : ((vn : Int) == 1) = true:=by rw [hv]; rfl
    have hQ:=Lib.hid (show true = formB 12 kd.data.toList nm.data.toList vn kn from by unfold formB tstB; simp [show kn = 0 by omega,hv])
    clear hv hk
    go_wp2
    go_ret
    exact ⟨text.ret_bool hQ.out,hb9.out⟩
  have hvi : ((vn : Int) == 1) = false:=by simp; omega
  have hQ:=Lib.hid (show false = formB 12 kd.data.toList nm.data.toList vn kn from by unfold formB tstB; simp [show kn = 0 by omega,hv])
  clear hv hk
  go_wp2
  go_ret
  exact ⟨text.ret_bool hQ.out,hb9.out⟩
set_option maxRecDepth 100000 in
set_option maxHeartbeats 4000000 in
theorem form_13 (kd nm : ByteArray) (va : Option Addr) (vn vc : Nat) (ka : Option Addr) (kn kc : Nat) (w : World) :
    Calls Tryz.prog 189 #[.agg #[.int .i64 13,.string kd,.string nm,.slice va vn vc,.slice ka kn kc]] w fun e w'=>e = .returned (.bool (formB 13 kd.data.toList nm.data.toList vn kn))∧Below w.heap.size w w':=by
  have hO:=Own.new w #[.int .i64 13,.string kd,.string nm,.slice va vn vc,.slice ka kn kc] 31
  have hb:=Lib.hid (show Below w.heap.size w (w.alloc (.cells #[.int .i64 13,.string kd,.string nm,.slice va vn vc,.slice ka kn kc] 31)) from (Below.refl _ _).alloc (Nat.le_refl _) _)
  go_enter Tryz.func189,Tryz.ntmps189
  go_wp2_with fail
  generalize w.alloc (.cells #[.int .i64 13,.string kd,.string nm,.slice va vn vc,.slice ka kn kc] 31) = w0 at hO hb ⊢
  obtain ⟨e0,e1,e2,e3,e4,-⟩:=own5z hO
  go_quiet (fail)
  generalize hq : World.drewN w0 _ = w9
  have hO9 : Own w9 w.heap.size #[.int .i64 13,.string kd,.string nm,.slice va vn vc,.slice ka kn kc] 31:=by rw [← hq]; exact hO
  have hb9:=Lib.hid (show Below w.heap.size w w9 by rw [← hq]; exact hb.out.grown (grown_drewN w0 _ none) hb.out.size (fun k e=>by cases e))
  clear hq hO hb e0 e1 e2 e3 e4
  obtain ⟨e0,e1,e2,e3,e4,-⟩:=own5z hO9
  by_cases hk : 0 < kn
  case pos =>
    have hki : (0 : Int) < (kn : Int):=by omega
    have hQ:=Lib.hid (show false = formB 13 kd.data.toList nm.data.toList vn kn from by unfold formB tstB; simp [show ¬ kn = 0 by omega])
    clear hk
    go_wp2
    go_ret
    exact ⟨text.ret_bool hQ.out,hb9.out⟩
  have hki : ¬ (0 : Int) < (kn : Int):=by omega
  by_cases hv : vn = 1
  case pos =>
    have hvi : ((vn : Int) == 1) = true:=by rw [hv]; rfl
    have hQ:=Lib.hid (show true = formB 13 kd.data.toList nm.data.toList vn kn from by unfold formB tstB; simp [show kn = 0 by omega,hv])
    clear hv hk
    go_wp2
    go_ret
    exact ⟨text.ret_bool hQ.out,hb9.out⟩
  have hvi : ((vn : Int) == 1) = false:=by simp; omega
  have hQ:=Lib.hid (show false = formB 13 kd.data.toList nm.data.toList vn kn from by unfold formB tstB; simp [show kn = 0 by omega,hv])
  clear hv hk
  go_wp2
  go_ret
  exact ⟨text.ret_bool hQ.out,hb9.out⟩
set_option maxRecDepth 100000 in
set_option maxHeartbeats 4000000 in
theorem form_14 (kd nm : ByteArray) (va : Option Addr) (vn vc : Nat) (ka : Option Addr) (kn kc : Nat) (w : World) :
    Calls Tryz.prog 189 #[.agg #[.int .i64 14,.string kd,.string nm,.slice va vn vc,.slice ka kn kc]] w fun e w'=>e = .returned (.bool (formB 14 kd.data.toList nm.data.toList vn kn))∧Below w.heap.size w w':=by
  have hO:=Own.new w #[.int .i64 14,.string kd,.string nm,.slice va vn vc,.slice ka kn kc] 31
  have hb:=Lib.hid (show Below w.heap.size w (w.alloc (.cells #[.int .i64 14,.string kd,.string nm,.slice va vn vc,.slice ka kn kc] 31)) from (Below.refl _ _).alloc (Nat.le_refl _) _)
  go_enter Tryz.func189,Tryz.ntmps189
  go_wp2_with fail
  generalize w.alloc (.cells #[.int .i64 14,.string kd,.string nm,.slice va vn vc,.slice ka kn kc] 31) = w0 at hO hb ⊢
  obtain ⟨e0,e1,e2,e3,e4,-⟩:=own5z hO
  go_quiet (fail)
  generalize hq : World.drewN w0 _ = w9
  have hO9 : Own w9 w.heap.size #[.int .i64 14,.string kd,.string nm,.slice va vn vc,.slice ka kn kc] 31:=by rw [← hq]; exact hO
  have hb9:=Lib.hid (show Below w.heap.size w w9 by rw [← hq]; exact hb.out.grown (grown_drewN w0 _ none) hb.out.size (fun k e=>by cases e))
  clear hq hO hb e0 e1 e2 e3 e4
  obtain ⟨e0,e1,e2,e3,e4,-⟩:=own5z hO9
  by_cases hk : 0 < kn
  case pos =>
    have hki : (0 : Int) < (kn : Int):=by omega
    have hQ:=Lib.hid (show false = formB 14 kd.data.toList nm.data.toList vn kn from by unfold formB tstB; simp [show ¬ kn = 0 by omega])
    clear hk
    go_wp2
    go_ret
    exact ⟨text.ret_bool hQ.out,hb9.out⟩
  have hki : ¬ (0 : Int) < (kn : Int):=by omega
  by_cases hv : vn = 1
  case pos =>
    have hvi : ((vn : Int) == 1) = true:=by rw [hv]; rfl
    have hQ:=Lib.hid (show true = formB 14 kd.data.toList nm.data.toList vn kn from by unfold formB tstB; simp [show kn = 0 by omega,hv])
    clear hv hk
    go_wp2
    go_ret
    exact ⟨text.ret_bool hQ.out,hb9.out⟩
  have hvi : ((vn : Int) == 1) = false:=by simp; omega
  have hQ:=Lib.hid (show false = formB 14 kd.data.toList nm.data.toList vn kn from by unfold formB tstB; simp [show kn = 0 by omega,hv])
  clear hv hk
  go_wp2
  go_ret
  exact ⟨text.ret_bool hQ.out,hb9.out⟩
set_option maxRecDepth 100000 in
set_option maxHeartbeats 4000000 in
theorem form_15 (kd nm : ByteArray) (va : Option Addr) (vn vc : Nat) (ka : Option Addr) (kn kc : Nat) (w : World) :
    Calls Tryz.prog 189 #[.agg #[.int .i64 15,.string kd,.string nm,.slice va vn vc,.slice ka kn kc]] w fun e w'=>e = .returned (.bool (formB 15 kd.data.toList nm.data.toList vn kn))∧Below w.heap.size w w':=by
  have hO:=Own.new w #[.int .i64 15,.string kd,.string nm,.slice va vn vc,.slice ka kn kc] 31
  have hb:=Lib.hid (show Below w.heap.size w (w.alloc (.cells #[.int .i64 15,.string kd,.string nm,.slice va vn vc,.slice ka kn kc] 31)) from (Below.refl _ _).alloc (Nat.le_refl _) _)
  go_enter Tryz.func189,Tryz.ntmps189
  go_wp2_with fail
  generalize w.alloc (.cells #[.int .i64 15,.string kd,.string nm,.slice va vn vc,.slice ka kn kc] 31) = w0 at hO hb ⊢
  obtain ⟨e0,e1,e2,e3,e4,-⟩:=own5z hO
  go_quiet (fail)
  generalize hq : World.drewN w0 _ = w9
  have hO9 : Own w9 w.heap.size #[.int .i64 15,.string kd,.string nm,.slice va vn vc,.slice ka kn kc] 31:=by rw [← hq]; exact hO
  have hb9:=Lib.hid (show Below w.heap.size w w9 by rw [← hq]; exact hb.out.grown (grown_drewN w0 _ none) hb.out.size (fun k e=>by cases e))
  clear hq hO hb e0 e1 e2 e3 e4
  obtain ⟨e0,e1,e2,e3,e4,-⟩:=own5z hO9
  by_cases hk : 0 < kn
  case pos =>
    have hki : (0 : Int) < (kn : Int):=by omega
    have hQ:=Lib.hid (show false = formB 15 kd.data.toList nm.data.toList vn kn from by unfold formB tstB; simp [show ¬ kn = 0 by omega])
    clear hk
    go_wp2
    go_ret
    exact ⟨text.ret_bool hQ.out,hb9.out⟩
  have hki : ¬ (0 : Int) < (kn : Int):=by omega
  by_cases hv : vn = 1
  case pos =>
    have hvi : ((vn : Int) == 1) = true:=by rw [hv]; rfl
    have hQ:=Lib.hid (show true = formB 15 kd.data.toList nm.data.toList vn kn from by unfold formB tstB; simp [show kn = 0 by omega,hv])
    clear hv hk
    go_wp2
    go_ret
    exact ⟨text.ret_bool hQ.out,hb9.out⟩
  have hvi : ((vn : Int) == 1) = false:=by simp; omega
  have hQ:=Lib.hid (show false = formB 15 kd.data.toList nm.data.toList vn kn from by unfold formB tstB; simp [show kn = 0 by omega,hv])
  clear hv hk
  go_wp2
  go_ret
  exact ⟨text.ret_bool hQ.out,hb9.out⟩
theorem form_any (op : Int) (h1 : 1≤op) (h2 : op≤15) (kd nm : ByteArray) (va : Option Addr) (vn vc : Nat) (ka : Option Addr) (kn kc : Nat) (w : World) :
    Calls Tryz.prog 189 #[.agg #[.int .i64 op,.string kd,.string nm,.slice va vn vc,.slice ka kn kc]] w fun e w'=>e = .returned (.bool (formB op kd.data.toList nm.data.toList vn kn))∧Below w.heap.size w w':=by
  have : op = 1∨op = 2∨op = 3∨op = 4∨op = 5∨op = 6∨op = 7∨op = 8∨op = 9∨op = 10∨op = 11∨op = 12∨op = 13∨op = 14∨op = 15:=by omega
  rcases this with rfl | rfl | rfl | rfl | rfl | rfl | rfl | rfl | rfl | rfl | rfl | rfl | rfl | rfl | rfl
  · exact form_1 kd nm va vn vc ka kn kc w
  · exact form_2 kd nm va vn vc ka kn kc w
  · exact form_3 kd nm va vn vc ka kn kc w
  · exact form_4 kd nm va vn vc ka kn kc w
  · exact form_5 kd nm va vn vc ka kn kc w
  · exact form_6 kd nm va vn vc ka kn kc w
  · exact form_7 kd nm va vn vc ka kn kc w
  · exact form_8 kd nm va vn vc ka kn kc w
  · exact form_9 kd nm va vn vc ka kn kc w
  · exact form_10 kd nm va vn vc ka kn kc w
  · exact form_11 kd nm va vn vc ka kn kc w
  · exact form_12 kd nm va vn vc ka kn kc w
  · exact form_13 kd nm va vn vc ka kn kc w
  · exact form_14 kd nm va vn vc ka kn kc w
  · exact form_15 kd nm va vn vc ka kn kc w
end Go.Proofs.YtfffpflflggonaaGreatDoor.src
