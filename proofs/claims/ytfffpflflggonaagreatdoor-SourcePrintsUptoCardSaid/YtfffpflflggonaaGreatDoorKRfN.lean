/- The form of a part: the reference's counts. -/
import Derived.Test.YtfffpflflggonaaGreatDoorKSrN
import Derived.Test.YtfffpflflggonaaGreatDoorKS14
namespace Go.Proofs.YtfffpflflggonaaGreatDoor.src
open Go.RowKit lex value text schema draw clause
set_option maxRecDepth 100000 in
set_option maxHeartbeats 4000000 in
theorem counts_1 (kd nm : ByteArray) (va : Option Addr) (vn vc : Nat) (ka : Option Addr) (kn kc : Nat) (w : World) :
    Calls Tryz.prog 196 #[.agg #[.int .i64 1,.string kd,.string nm,.slice va vn vc,.slice ka kn kc]] w fun e w'=>e = .returned (.bool (formB 1 kd.data.toList nm.data.toList vn kn))∧Below w.heap.size w w':=by
  have hO:=Own.new w #[.int .i64 1,.string kd,.string nm,.slice va vn vc,.slice ka kn kc] 31
  have hb:=Lib.hid (show Below w.heap.size w (w.alloc (.cells #[.int .i64 1,.string kd,.string nm,.slice va vn vc,.slice ka kn kc] 31)) from (Below.refl _ _).alloc (Nat.le_refl _) _)
  have hT1:=Lib.hid (show decide (6≤(1 : Int)∧(1 : Int)≤15) = false by decide)
  go_enter Tryz.func196,Tryz.ntmps196
  go_wp2_with fail
  generalize w.alloc (.cells #[.int .i64 1,.string kd,.string nm,.slice va vn vc,.slice ka kn kc] 31) = w0 at hO hb ⊢
  obtain ⟨e0,e1,e2,e3,e4,-⟩:=own5z hO
  go_quiet (fail)
  generalize hq : World.drewN w0 _ = w9
  have hO9 : Own w9 w.heap.size #[.int .i64 1,.string kd,.string nm,.slice va vn vc,.slice ka kn kc] 31:=by rw [← hq]; exact hO
  have hb9:=Lib.hid (show Below w.heap.size w w9 by rw [← hq]; exact hb.out.grown (grown_drewN w0 _ none) hb.out.size (fun k e=>by cases e))
  clear hq hO hb e0 e1 e2 e3 e4
  obtain ⟨e0,e1,e2,e3,e4,-⟩:=own5z hO9
  by_cases hk : kn = 0
  case neg =>
    have hki : ((kn : Int) == 0) = false:=by simp; omega
    have hQ:=Lib.hid (show false = formB 1 kd.data.toList nm.data.toList vn kn from by unfold formB tstB; simp [hk])
    clear hk
    go_wp2_with (go_at_call 197; refine (istest_any _ _).mono ?_; rintro e w' ⟨rfl,rfl⟩; rw [hT1.out])
    go_ret
    exact ⟨text.ret_bool hQ.out,hb9.out⟩
  have hki : ((kn : Int) == 0) = true:=by rw [hk]; rfl
  by_cases hv : vn = 0
  case neg =>
    have hvi : ((vn : Int) == 0) = false:=by simp; omega
    have hQ:=Lib.hid (show false = formB 1 kd.data.toList nm.data.toList vn kn from by unfold formB tstB; simp [hk,hv])
    clear hk hv
    go_wp2_with (go_at_call 197; refine (istest_any _ _).mono ?_; rintro e w' ⟨rfl,rfl⟩; rw [hT1.out])
    go_ret
    exact ⟨text.ret_bool hQ.out,hb9.out⟩
  have hvi : ((vn : Int) == 0) = true:=by rw [hv]; rfl
  by_cases hkd : kd.size = 0
  case neg =>
    obtain ⟨he1,he2,he3,he4⟩:=empty_not hkd
    have hQ:=Lib.hid (show false = formB 1 kd.data.toList nm.data.toList vn kn from by unfold formB tstB; simp [hk,hv,he1])
    clear hk hv hkd he1
    go_wp2_with (go_at_call 197; refine (istest_any _ _).mono ?_; rintro e w' ⟨rfl,rfl⟩; rw [hT1.out])
    go_ret
    exact ⟨text.ret_bool hQ.out,hb9.out⟩
  obtain rfl:=empty_size hkd
  by_cases hnm : nm.size = 0
  case neg =>
    obtain ⟨he1,he2,he3,he4⟩:=empty_not hnm
    have hQ:=Lib.hid (show false = formB 1 (⟨#[]⟩ : ByteArray).data.toList nm.data.toList vn kn from by unfold formB tstB; simp [hk,hv,he1])
    clear hk hv hnm he1
    go_wp2_with (go_at_call 197; refine (istest_any _ _).mono ?_; rintro e w' ⟨rfl,rfl⟩; rw [hT1.out])
    go_ret
    exact ⟨text.ret_bool hQ.out,hb9.out⟩
  obtain rfl:=empty_size hnm
  have hQ:=Lib.hid (show true = formB 1 (⟨#[]⟩ : ByteArray).data.toList (⟨#[]⟩ : ByteArray).data.toList vn kn from by unfold formB tstB; simp [hk,hv])
  clear hk hv
  go_wp2_with (go_at_call 197; refine (istest_any _ _).mono ?_; rintro e w' ⟨rfl,rfl⟩; rw [hT1.out])
  go_ret
  exact ⟨text.ret_bool hQ.out,hb9.out⟩
set_option maxRecDepth 100000 in
set_option maxHeartbeats 4000000 in
theorem counts_2 (kd nm : ByteArray) (va : Option Addr) (vn vc : Nat) (ka : Option Addr) (kn kc : Nat) (w : World) :
    Calls Tryz.prog 196 #[.agg #[.int .i64 2,.string kd,.string nm,.slice va vn vc,.slice ka kn kc]] w fun e w'=>e = .returned (.bool (formB 2 kd.data.toList nm.data.toList vn kn))∧Below w.heap.size w w':=by
  have hO:=Own.new w #[.int .i64 2,.string kd,.string nm,.slice va vn vc,.slice ka kn kc] 31
  have hb:=Lib.hid (show Below w.heap.size w (w.alloc (.cells #[.int .i64 2,.string kd,.string nm,.slice va vn vc,.slice ka kn kc] 31)) from (Below.refl _ _).alloc (Nat.le_refl _) _)
  have hT1:=Lib.hid (show decide (6≤(2 : Int)∧(2 : Int)≤15) = false by decide)
  go_enter Tryz.func196,Tryz.ntmps196
  go_wp2_with fail
  generalize w.alloc (.cells #[.int .i64 2,.string kd,.string nm,.slice va vn vc,.slice ka kn kc] 31) = w0 at hO hb ⊢
  obtain ⟨e0,e1,e2,e3,e4,-⟩:=own5z hO
  go_quiet (fail)
  generalize hq : World.drewN w0 _ = w9
  have hO9 : Own w9 w.heap.size #[.int .i64 2,.string kd,.string nm,.slice va vn vc,.slice ka kn kc] 31:=by rw [← hq]; exact hO
  have hb9:=Lib.hid (show Below w.heap.size w w9 by rw [← hq]; exact hb.out.grown (grown_drewN w0 _ none) hb.out.size (fun k e=>by cases e))
  clear hq hO hb e0 e1 e2 e3 e4
  obtain ⟨e0,e1,e2,e3,e4,-⟩:=own5z hO9
  by_cases hk : 2≤kn
  case neg =>
    have hki : ¬ (2 : Int)≤(kn : Int):=by omega
    have hQ:=Lib.hid (show false = formB 2 kd.data.toList nm.data.toList vn kn from by unfold formB tstB; simp [hk])
    clear hk
    go_wp2_with (go_at_call 197; refine (istest_any _ _).mono ?_; rintro e w' ⟨rfl,rfl⟩; rw [hT1.out])
    go_ret
    exact ⟨text.ret_bool hQ.out,hb9.out⟩
  have hki : (2 : Int)≤(kn : Int):=by omega
  by_cases hv : vn = 0
  case neg =>
    have hvi : ((vn : Int) == 0) = false:=by simp; omega
    have hQ:=Lib.hid (show false = formB 2 kd.data.toList nm.data.toList vn kn from by unfold formB tstB; simp [hk,hv])
    clear hk hv
    go_wp2_with (go_at_call 197; refine (istest_any _ _).mono ?_; rintro e w' ⟨rfl,rfl⟩; rw [hT1.out])
    go_ret
    exact ⟨text.ret_bool hQ.out,hb9.out⟩
  have hvi : ((vn : Int) == 0) = true:=by rw [hv]; rfl
  by_cases hkd : kd.size = 0
  case neg =>
    obtain ⟨he1,he2,he3,he4⟩:=empty_not hkd
    have hQ:=Lib.hid (show false = formB 2 kd.data.toList nm.data.toList vn kn from by unfold formB tstB; simp [hk,hv,he1])
    clear hk hv hkd he1
    go_wp2_with (go_at_call 197; refine (istest_any _ _).mono ?_; rintro e w' ⟨rfl,rfl⟩; rw [hT1.out])
    go_ret
    exact ⟨text.ret_bool hQ.out,hb9.out⟩
  obtain rfl:=empty_size hkd
  by_cases hnm : nm.size = 0
  case neg =>
    obtain ⟨he1,he2,he3,he4⟩:=empty_not hnm
    have hQ:=Lib.hid (show false = formB 2 (⟨#[]⟩ : ByteArray).data.toList nm.data.toList vn kn from by unfold formB tstB; simp [hk,hv,he1])
    clear hk hv hnm he1
    go_wp2_with (go_at_call 197; refine (istest_any _ _).mono ?_; rintro e w' ⟨rfl,rfl⟩; rw [hT1.out])
    go_ret
    exact ⟨text.ret_bool hQ.out,hb9.out⟩
  obtain rfl:=empty_size hnm
  have hQ:=Lib.hid (show true = formB 2 (⟨#[]⟩ : ByteArray).data.toList (⟨#[]⟩ : ByteArray).data.toList vn kn from by unfold formB tstB; simp [hk,hv])
  clear hk hv
  go_wp2_with (go_at_call 197; refine (istest_any _ _).mono ?_; rintro e w' ⟨rfl,rfl⟩; rw [hT1.out])
  go_ret
  exact ⟨text.ret_bool hQ.out,hb9.out⟩
set_option maxRecDepth 100000 in
set_option maxHeartbeats 4000000 in
theorem counts_3 (kd nm : ByteArray) (va : Option Addr) (vn vc : Nat) (ka : Option Addr) (kn kc : Nat) (w : World) :
    Calls Tryz.prog 196 #[.agg #[.int .i64 3,.string kd,.string nm,.slice va vn vc,.slice ka kn kc]] w fun e w'=>e = .returned (.bool (formB 3 kd.data.toList nm.data.toList vn kn))∧Below w.heap.size w w':=by
  have hO:=Own.new w #[.int .i64 3,.string kd,.string nm,.slice va vn vc,.slice ka kn kc] 31
  have hb:=Lib.hid (show Below w.heap.size w (w.alloc (.cells #[.int .i64 3,.string kd,.string nm,.slice va vn vc,.slice ka kn kc] 31)) from (Below.refl _ _).alloc (Nat.le_refl _) _)
  have hT1:=Lib.hid (show decide (6≤(3 : Int)∧(3 : Int)≤15) = false by decide)
  go_enter Tryz.func196,Tryz.ntmps196
  go_wp2_with fail
  generalize w.alloc (.cells #[.int .i64 3,.string kd,.string nm,.slice va vn vc,.slice ka kn kc] 31) = w0 at hO hb ⊢
  obtain ⟨e0,e1,e2,e3,e4,-⟩:=own5z hO
  go_quiet (fail)
  generalize hq : World.drewN w0 _ = w9
  have hO9 : Own w9 w.heap.size #[.int .i64 3,.string kd,.string nm,.slice va vn vc,.slice ka kn kc] 31:=by rw [← hq]; exact hO
  have hb9:=Lib.hid (show Below w.heap.size w w9 by rw [← hq]; exact hb.out.grown (grown_drewN w0 _ none) hb.out.size (fun k e=>by cases e))
  clear hq hO hb e0 e1 e2 e3 e4
  obtain ⟨e0,e1,e2,e3,e4,-⟩:=own5z hO9
  by_cases hk : 2≤kn
  case neg =>
    have hki : ¬ (2 : Int)≤(kn : Int):=by omega
    have hQ:=Lib.hid (show false = formB 3 kd.data.toList nm.data.toList vn kn from by unfold formB tstB; simp [hk])
    clear hk
    go_wp2_with (go_at_call 197; refine (istest_any _ _).mono ?_; rintro e w' ⟨rfl,rfl⟩; rw [hT1.out])
    go_ret
    exact ⟨text.ret_bool hQ.out,hb9.out⟩
  have hki : (2 : Int)≤(kn : Int):=by omega
  by_cases hv : vn = 0
  case neg =>
    have hvi : ((vn : Int) == 0) = false:=by simp; omega
    have hQ:=Lib.hid (show false = formB 3 kd.data.toList nm.data.toList vn kn from by unfold formB tstB; simp [hk,hv])
    clear hk hv
    go_wp2_with (go_at_call 197; refine (istest_any _ _).mono ?_; rintro e w' ⟨rfl,rfl⟩; rw [hT1.out])
    go_ret
    exact ⟨text.ret_bool hQ.out,hb9.out⟩
  have hvi : ((vn : Int) == 0) = true:=by rw [hv]; rfl
  by_cases hkd : kd.size = 0
  case neg =>
    obtain ⟨he1,he2,he3,he4⟩:=empty_not hkd
    have hQ:=Lib.hid (show false = formB 3 kd.data.toList nm.data.toList vn kn from by unfold formB tstB; simp [hk,hv,he1])
    clear hk hv hkd he1
    go_wp2_with (go_at_call 197; refine (istest_any _ _).mono ?_; rintro e w' ⟨rfl,rfl⟩; rw [hT1.out])
    go_ret
    exact ⟨text.ret_bool hQ.out,hb9.out⟩
  obtain rfl:=empty_size hkd
  by_cases hnm : nm.size = 0
  case neg =>
    obtain ⟨he1,he2,he3,he4⟩:=empty_not hnm
    have hQ:=Lib.hid (show false = formB 3 (⟨#[]⟩ : ByteArray).data.toList nm.data.toList vn kn from by unfold formB tstB; simp [hk,hv,he1])
    clear hk hv hnm he1
    go_wp2_with (go_at_call 197; refine (istest_any _ _).mono ?_; rintro e w' ⟨rfl,rfl⟩; rw [hT1.out])
    go_ret
    exact ⟨text.ret_bool hQ.out,hb9.out⟩
  obtain rfl:=empty_size hnm
  have hQ:=Lib.hid (show true = formB 3 (⟨#[]⟩ : ByteArray).data.toList (⟨#[]⟩ : ByteArray).data.toList vn kn from by unfold formB tstB; simp [hk,hv])
  clear hk hv
  go_wp2_with (go_at_call 197; refine (istest_any _ _).mono ?_; rintro e w' ⟨rfl,rfl⟩; rw [hT1.out])
  go_ret
  exact ⟨text.ret_bool hQ.out,hb9.out⟩
set_option maxRecDepth 100000 in
set_option maxHeartbeats 4000000 in
theorem counts_4 (kd nm : ByteArray) (va : Option Addr) (vn vc : Nat) (ka : Option Addr) (kn kc : Nat) (w : World) :
    Calls Tryz.prog 196 #[.agg #[.int .i64 4,.string kd,.string nm,.slice va vn vc,.slice ka kn kc]] w fun e w'=>e = .returned (.bool (formB 4 kd.data.toList nm.data.toList vn kn))∧Below w.heap.size w w':=by
  have hO:=Own.new w #[.int .i64 4,.string kd,.string nm,.slice va vn vc,.slice ka kn kc] 31
  have hb:=Lib.hid (show Below w.heap.size w (w.alloc (.cells #[.int .i64 4,.string kd,.string nm,.slice va vn vc,.slice ka kn kc] 31)) from (Below.refl _ _).alloc (Nat.le_refl _) _)
  have hT1:=Lib.hid (show decide (6≤(4 : Int)∧(4 : Int)≤15) = false by decide)
  go_enter Tryz.func196,Tryz.ntmps196
  go_wp2_with fail
  generalize w.alloc (.cells #[.int .i64 4,.string kd,.string nm,.slice va vn vc,.slice ka kn kc] 31) = w0 at hO hb ⊢
  obtain ⟨e0,e1,e2,e3,e4,-⟩:=own5z hO
  go_quiet (fail)
  generalize hq : World.drewN w0 _ = w9
  have hO9 : Own w9 w.heap.size #[.int .i64 4,.string kd,.string nm,.slice va vn vc,.slice ka kn kc] 31:=by rw [← hq]; exact hO
  have hb9:=Lib.hid (show Below w.heap.size w w9 by rw [← hq]; exact hb.out.grown (grown_drewN w0 _ none) hb.out.size (fun k e=>by cases e))
  clear hq hO hb e0 e1 e2 e3 e4
  obtain ⟨e0,e1,e2,e3,e4,-⟩:=own5z hO9
  by_cases hk : kn = 1
  case neg =>
    have hki : ((kn : Int) == 1) = false:=by simp; omega
    have hQ:=Lib.hid (show false = formB 4 kd.data.toList nm.data.toList vn kn from by unfold formB tstB; simp [hk])
    clear hk
    go_wp2_with (go_at_call 197; refine (istest_any _ _).mono ?_; rintro e w' ⟨rfl,rfl⟩; rw [hT1.out])
    go_ret
    exact ⟨text.ret_bool hQ.out,hb9.out⟩
  have hki : ((kn : Int) == 1) = true:=by rw [hk]; rfl
  by_cases hv : vn = 0
  case neg =>
    have hvi : ((vn : Int) == 0) = false:=by simp; omega
    have hQ:=Lib.hid (show false = formB 4 kd.data.toList nm.data.toList vn kn from by unfold formB tstB; simp [hk,hv])
    clear hk hv
    go_wp2_with (go_at_call 197; refine (istest_any _ _).mono ?_; rintro e w' ⟨rfl,rfl⟩; rw [hT1.out])
    go_ret
    exact ⟨text.ret_bool hQ.out,hb9.out⟩
  have hvi : ((vn : Int) == 0) = true:=by rw [hv]; rfl
  by_cases hkd : kd.size = 0
  case neg =>
    obtain ⟨he1,he2,he3,he4⟩:=empty_not hkd
    have hQ:=Lib.hid (show false = formB 4 kd.data.toList nm.data.toList vn kn from by unfold formB tstB; simp [hk,hv,he1])
    clear hk hv hkd he1
    go_wp2_with (go_at_call 197; refine (istest_any _ _).mono ?_; rintro e w' ⟨rfl,rfl⟩; rw [hT1.out])
    go_ret
    exact ⟨text.ret_bool hQ.out,hb9.out⟩
  obtain rfl:=empty_size hkd
  by_cases hnm : nm.size = 0
  case neg =>
    obtain ⟨he1,he2,he3,he4⟩:=empty_not hnm
    have hQ:=Lib.hid (show false = formB 4 (⟨#[]⟩ : ByteArray).data.toList nm.data.toList vn kn from by unfold formB tstB; simp [hk,hv,he1])
    clear hk hv hnm he1
    go_wp2_with (go_at_call 197; refine (istest_any _ _).mono ?_; rintro e w' ⟨rfl,rfl⟩; rw [hT1.out])
    go_ret
    exact ⟨text.ret_bool hQ.out,hb9.out⟩
  obtain rfl:=empty_size hnm
  have hQ:=Lib.hid (show true = formB 4 (⟨#[]⟩ : ByteArray).data.toList (⟨#[]⟩ : ByteArray).data.toList vn kn from by unfold formB tstB; simp [hk,hv])
  clear hk hv
  go_wp2_with (go_at_call 197; refine (istest_any _ _).mono ?_; rintro e w' ⟨rfl,rfl⟩; rw [hT1.out])
  go_ret
  exact ⟨text.ret_bool hQ.out,hb9.out⟩
set_option maxRecDepth 100000 in
set_option maxHeartbeats 4000000 in
theorem counts_5 (kd nm : ByteArray) (va : Option Addr) (vn vc : Nat) (ka : Option Addr) (kn kc : Nat) (w : World) :
    Calls Tryz.prog 196 #[.agg #[.int .i64 5,.string kd,.string nm,.slice va vn vc,.slice ka kn kc]] w fun e w'=>e = .returned (.bool (formB 5 kd.data.toList nm.data.toList vn kn))∧Below w.heap.size w w':=by
  have hO:=Own.new w #[.int .i64 5,.string kd,.string nm,.slice va vn vc,.slice ka kn kc] 31
  have hb:=Lib.hid (show Below w.heap.size w (w.alloc (.cells #[.int .i64 5,.string kd,.string nm,.slice va vn vc,.slice ka kn kc] 31)) from (Below.refl _ _).alloc (Nat.le_refl _) _)
  have hT1:=Lib.hid (show decide (6≤(5 : Int)∧(5 : Int)≤15) = false by decide)
  go_enter Tryz.func196,Tryz.ntmps196
  go_wp2_with fail
  generalize w.alloc (.cells #[.int .i64 5,.string kd,.string nm,.slice va vn vc,.slice ka kn kc] 31) = w0 at hO hb ⊢
  obtain ⟨e0,e1,e2,e3,e4,-⟩:=own5z hO
  go_quiet (fail)
  generalize hq : World.drewN w0 _ = w9
  have hO9 : Own w9 w.heap.size #[.int .i64 5,.string kd,.string nm,.slice va vn vc,.slice ka kn kc] 31:=by rw [← hq]; exact hO
  have hb9:=Lib.hid (show Below w.heap.size w w9 by rw [← hq]; exact hb.out.grown (grown_drewN w0 _ none) hb.out.size (fun k e=>by cases e))
  clear hq hO hb e0 e1 e2 e3 e4
  obtain ⟨e0,e1,e2,e3,e4,-⟩:=own5z hO9
  by_cases hk : kn = 0
  case neg =>
    have hki : ((kn : Int) == 0) = false:=by simp; omega
    have hQ:=Lib.hid (show false = formB 5 kd.data.toList nm.data.toList vn kn from by unfold formB tstB; simp [hk])
    clear hk
    go_wp2_with (go_at_call 197; refine (istest_any _ _).mono ?_; rintro e w' ⟨rfl,rfl⟩; rw [hT1.out])
    go_ret
    exact ⟨text.ret_bool hQ.out,hb9.out⟩
  have hki : ((kn : Int) == 0) = true:=by rw [hk]; rfl
  by_cases hv : vn = 0
  case neg =>
    have hvi : ((vn : Int) == 0) = false:=by simp; omega
    have hQ:=Lib.hid (show false = formB 5 kd.data.toList nm.data.toList vn kn from by unfold formB tstB; simp [hk,hv])
    clear hk hv
    go_wp2_with (go_at_call 197; refine (istest_any _ _).mono ?_; rintro e w' ⟨rfl,rfl⟩; rw [hT1.out])
    go_ret
    exact ⟨text.ret_bool hQ.out,hb9.out⟩
  have hvi : ((vn : Int) == 0) = true:=by rw [hv]; rfl
  by_cases hkd : kd.size = 0
  case neg =>
    obtain ⟨he1,he2,he3,he4⟩:=empty_not hkd
    have hQ:=Lib.hid (show false = formB 5 kd.data.toList nm.data.toList vn kn from by unfold formB tstB; simp [hk,hv,he1])
    clear hk hv hkd he1
    go_wp2_with (go_at_call 197; refine (istest_any _ _).mono ?_; rintro e w' ⟨rfl,rfl⟩; rw [hT1.out])
    go_ret
    exact ⟨text.ret_bool hQ.out,hb9.out⟩
  obtain rfl:=empty_size hkd
  have hQ:=Lib.hid (show true = formB 5 (⟨#[]⟩ : ByteArray).data.toList nm.data.toList vn kn from by unfold formB tstB; simp [hk,hv])
  clear hk hv
  go_wp2_with (go_at_call 197; refine (istest_any _ _).mono ?_; rintro e w' ⟨rfl,rfl⟩; rw [hT1.out])
  go_ret
  exact ⟨text.ret_bool hQ.out,hb9.out⟩
set_option maxRecDepth 100000 in
set_option maxHeartbeats 4000000 in
theorem counts_6 (kd nm : ByteArray) (va : Option Addr) (vn vc : Nat) (ka : Option Addr) (kn kc : Nat) (w : World) :
    Calls Tryz.prog 196 #[.agg #[.int .i64 6,.string kd,.string nm,.slice va vn vc,.slice ka kn kc]] w fun e w'=>e = .returned (.bool (formB 6 kd.data.toList nm.data.toList vn kn))∧Below w.heap.size w w':=by
  have hO:=Own.new w #[.int .i64 6,.string kd,.string nm,.slice va vn vc,.slice ka kn kc] 31
  have hb:=Lib.hid (show Below w.heap.size w (w.alloc (.cells #[.int .i64 6,.string kd,.string nm,.slice va vn vc,.slice ka kn kc] 31)) from (Below.refl _ _).alloc (Nat.le_refl _) _)
  have hT1:=Lib.hid (show decide (6≤(6 : Int)∧(6 : Int)≤15) = true by decide)
  go_enter Tryz.func196,Tryz.ntmps196
  go_wp2_with fail
  generalize w.alloc (.cells #[.int .i64 6,.string kd,.string nm,.slice va vn vc,.slice ka kn kc] 31) = w0 at hO hb ⊢
  obtain ⟨e0,e1,e2,e3,e4,-⟩:=own5z hO
  go_quiet (fail)
  generalize hq : World.drewN w0 _ = w9
  have hO9 : Own w9 w.heap.size #[.int .i64 6,.string kd,.string nm,.slice va vn vc,.slice ka kn kc] 31:=by rw [← hq]; exact hO
  have hb9:=Lib.hid (show Below w.heap.size w w9 by rw [← hq]; exact hb.out.grown (grown_drewN w0 _ none) hb.out.size (fun k e=>by cases e))
  clear hq hO hb e0 e1 e2 e3 e4
  obtain ⟨e0,e1,e2,e3,e4,-⟩:=own5z hO9
  by_cases hk : kn = 0
  case neg =>
    have hki : ((kn : Int) == 0) = false:=by simp; omega
    have hQ:=Lib.hid (show false = formB 6 kd.data.toList nm.data.toList vn kn from by unfold formB tstB; simp [hk])
    clear hk
    go_wp2_with (go_at_call 197; refine (istest_any _ _).mono ?_; rintro e w' ⟨rfl,rfl⟩; rw [hT1.out])
    go_ret
    exact ⟨text.ret_bool hQ.out,hb9.out⟩
  have hki : ((kn : Int) == 0) = true:=by rw [hk]; rfl
  by_cases hv : vn = 0
  case neg =>
    have hvi : ((vn : Int) == 0) = false:=by simp; omega
    have hQ:=Lib.hid (show false = formB 6 kd.data.toList nm.data.toList vn kn from by unfold formB tstB; simp [hk,hv])
    clear hk hv
    go_wp2_with (go_at_call 197; refine (istest_any _ _).mono ?_; rintro e w' ⟨rfl,rfl⟩; rw [hT1.out])
    go_ret
    exact ⟨text.ret_bool hQ.out,hb9.out⟩
  have hvi : ((vn : Int) == 0) = true:=by rw [hv]; rfl
  have hQ:=Lib.hid (show true = formB 6 kd.data.toList nm.data.toList vn kn from by unfold formB tstB; simp [hk,hv])
  clear hk hv
  go_wp2_with (go_at_call 197; refine (istest_any _ _).mono ?_; rintro e w' ⟨rfl,rfl⟩; rw [hT1.out])
  go_ret
  exact ⟨text.ret_bool hQ.out,hb9.out⟩
set_option maxRecDepth 100000 in
set_option maxHeartbeats 4000000 in
theorem counts_7 (kd nm : ByteArray) (va : Option Addr) (vn vc : Nat) (ka : Option Addr) (kn kc : Nat) (w : World) :
    Calls Tryz.prog 196 #[.agg #[.int .i64 7,.string kd,.string nm,.slice va vn vc,.slice ka kn kc]] w fun e w'=>e = .returned (.bool (formB 7 kd.data.toList nm.data.toList vn kn))∧Below w.heap.size w w':=by
  have hO:=Own.new w #[.int .i64 7,.string kd,.string nm,.slice va vn vc,.slice ka kn kc] 31
  have hb:=Lib.hid (show Below w.heap.size w (w.alloc (.cells #[.int .i64 7,.string kd,.string nm,.slice va vn vc,.slice ka kn kc] 31)) from (Below.refl _ _).alloc (Nat.le_refl _) _)
  have hT1:=Lib.hid (show decide (6≤(7 : Int)∧(7 : Int)≤15) = true by decide)
  go_enter Tryz.func196,Tryz.ntmps196
  go_wp2_with fail
  generalize w.alloc (.cells #[.int .i64 7,.string kd,.string nm,.slice va vn vc,.slice ka kn kc] 31) = w0 at hO hb ⊢
  obtain ⟨e0,e1,e2,e3,e4,-⟩:=own5z hO
  go_quiet (fail)
  generalize hq : World.drewN w0 _ = w9
  have hO9 : Own w9 w.heap.size #[.int .i64 7,.string kd,.string nm,.slice va vn vc,.slice ka kn kc] 31:=by rw [← hq]; exact hO
  have hb9:=Lib.hid (show Below w.heap.size w w9 by rw [← hq]; exact hb.out.grown (grown_drewN w0 _ none) hb.out.size (fun k e=>by cases e))
  clear hq hO hb e0 e1 e2 e3 e4
  obtain ⟨e0,e1,e2,e3,e4,-⟩:=own5z hO9
  by_cases hk : kn = 0
  case neg =>
    have hki : ((kn : Int) == 0) = false:=by simp; omega
    have hQ:=Lib.hid (show false = formB 7 kd.data.toList nm.data.toList vn kn from by unfold formB tstB; simp [hk])
    clear hk
    go_wp2_with (go_at_call 197; refine (istest_any _ _).mono ?_; rintro e w' ⟨rfl,rfl⟩; rw [hT1.out])
    go_ret
    exact ⟨text.ret_bool hQ.out,hb9.out⟩
  have hki : ((kn : Int) == 0) = true:=by rw [hk]; rfl
  by_cases hv : vn = 1
  case neg =>
    have hvi : ((vn : Int) == 1) = false:=by simp; omega
    have hQ:=Lib.hid (show false = formB 7 kd.data.toList nm.data.toList vn kn from by unfold formB tstB; simp [hk,hv])
    clear hk hv
    go_wp2_with (go_at_call 197; refine (istest_any _ _).mono ?_; rintro e w' ⟨rfl,rfl⟩; rw [hT1.out])
    go_ret
    exact ⟨text.ret_bool hQ.out,hb9.out⟩
  have hvi : ((vn : Int) == 1) = true:=by rw [hv]; rfl
  have hQ:=Lib.hid (show true = formB 7 kd.data.toList nm.data.toList vn kn from by unfold formB tstB; simp [hk,hv])
  clear hk hv
  go_wp2_with (go_at_call 197; refine (istest_any _ _).mono ?_; rintro e w' ⟨rfl,rfl⟩; rw [hT1.out])
  go_ret
  exact ⟨text.ret_bool hQ.out,hb9.out⟩
set_option maxRecDepth 100000 in
set_option maxHeartbeats 4000000 in
theorem counts_8 (kd nm : ByteArray) (va : Option Addr) (vn vc : Nat) (ka : Option Addr) (kn kc : Nat) (w : World) :
    Calls Tryz.prog 196 #[.agg #[.int .i64 8,.string kd,.string nm,.slice va vn vc,.slice ka kn kc]] w fun e w'=>e = .returned (.bool (formB 8 kd.data.toList nm.data.toList vn kn))∧Below w.heap.size w w':=by
  have hO:=Own.new w #[.int .i64 8,.string kd,.string nm,.slice va vn vc,.slice ka kn kc] 31
  have hb:=Lib.hid (show Below w.heap.size w (w.alloc (.cells #[.int .i64 8,.string kd,.string nm,.slice va vn vc,.slice ka kn kc] 31)) from (Below.refl _ _).alloc (Nat.le_refl _) _)
  have hT1:=Lib.hid (show decide (6≤(8 : Int)∧(8 : Int)≤15) = true by decide)
  go_enter Tryz.func196,Tryz.ntmps196
  go_wp2_with fail
  generalize w.alloc (.cells #[.int .i64 8,.string kd,.string nm,.slice va vn vc,.slice ka kn kc] 31) = w0 at hO hb ⊢
  obtain ⟨e0,e1,e2,e3,e4,-⟩:=own5z hO
  go_quiet (fail)
  generalize hq : World.drewN w0 _ = w9
  have hO9 : Own w9 w.heap.size #[.int .i64 8,.string kd,.string nm,.slice va vn vc,.slice ka kn kc] 31:=by rw [← hq]; exact hO
  have hb9:=Lib.hid (show Below w.heap.size w w9 by rw [← hq]; exact hb.out.grown (grown_drewN w0 _ none) hb.out.size (fun k e=>by cases e))
  clear hq hO hb e0 e1 e2 e3 e4
  obtain ⟨e0,e1,e2,e3,e4,-⟩:=own5z hO9
  by_cases hk : kn = 0
  case neg =>
    have hki : ((kn : Int) == 0) = false:=by simp; omega
    have hQ:=Lib.hid (show false = formB 8 kd.data.toList nm.data.toList vn kn from by unfold formB tstB; simp [hk])
    clear hk
    go_wp2_with (go_at_call 197; refine (istest_any _ _).mono ?_; rintro e w' ⟨rfl,rfl⟩; rw [hT1.out])
    go_ret
    exact ⟨text.ret_bool hQ.out,hb9.out⟩
  have hki : ((kn : Int) == 0) = true:=by rw [hk]; rfl
  by_cases hv : 0 < vn
  case neg =>
    have hvi : ¬ (0 : Int) < (vn : Int):=by omega
    have hQ:=Lib.hid (show false = formB 8 kd.data.toList nm.data.toList vn kn from by unfold formB tstB; simp [hk,hv])
    clear hk hv
    go_wp2_with (go_at_call 197; refine (istest_any _ _).mono ?_; rintro e w' ⟨rfl,rfl⟩; rw [hT1.out])
    go_ret
    exact ⟨text.ret_bool hQ.out,hb9.out⟩
  have hvi : (0 : Int) < (vn : Int):=by omega
  have hQ:=Lib.hid (show true = formB 8 kd.data.toList nm.data.toList vn kn from by unfold formB tstB; simp [hk,hv])
  clear hk hv
  go_wp2_with (go_at_call 197; refine (istest_any _ _).mono ?_; rintro e w' ⟨rfl,rfl⟩; rw [hT1.out])
  go_ret
  exact ⟨text.ret_bool hQ.out,hb9.out⟩
set_option maxRecDepth 100000 in
set_option maxHeartbeats 4000000 in
theorem counts_9 (kd nm : ByteArray) (va : Option Addr) (vn vc : Nat) (ka : Option Addr) (kn kc : Nat) (w : World) :
    Calls Tryz.prog 196 #[.agg #[.int .i64 9,.string kd,.string nm,.slice va vn vc,.slice ka kn kc]] w fun e w'=>e = .returned (.bool (formB 9 kd.data.toList nm.data.toList vn kn))∧Below w.heap.size w w':=by
  have hO:=Own.new w #[.int .i64 9,.string kd,.string nm,.slice va vn vc,.slice ka kn kc] 31
  have hb:=Lib.hid (show Below w.heap.size w (w.alloc (.cells #[.int .i64 9,.string kd,.string nm,.slice va vn vc,.slice ka kn kc] 31)) from (Below.refl _ _).alloc (Nat.le_refl _) _)
  have hT1:=Lib.hid (show decide (6≤(9 : Int)∧(9 : Int)≤15) = true by decide)
  go_enter Tryz.func196,Tryz.ntmps196
  go_wp2_with fail
  generalize w.alloc (.cells #[.int .i64 9,.string kd,.string nm,.slice va vn vc,.slice ka kn kc] 31) = w0 at hO hb ⊢
  obtain ⟨e0,e1,e2,e3,e4,-⟩:=own5z hO
  go_quiet (fail)
  generalize hq : World.drewN w0 _ = w9
  have hO9 : Own w9 w.heap.size #[.int .i64 9,.string kd,.string nm,.slice va vn vc,.slice ka kn kc] 31:=by rw [← hq]; exact hO
  have hb9:=Lib.hid (show Below w.heap.size w w9 by rw [← hq]; exact hb.out.grown (grown_drewN w0 _ none) hb.out.size (fun k e=>by cases e))
  clear hq hO hb e0 e1 e2 e3 e4
  obtain ⟨e0,e1,e2,e3,e4,-⟩:=own5z hO9
  by_cases hk : kn = 0
  case neg =>
    have hki : ((kn : Int) == 0) = false:=by simp; omega
    have hQ:=Lib.hid (show false = formB 9 kd.data.toList nm.data.toList vn kn from by unfold formB tstB; simp [hk])
    clear hk
    go_wp2_with (go_at_call 197; refine (istest_any _ _).mono ?_; rintro e w' ⟨rfl,rfl⟩; rw [hT1.out])
    go_ret
    exact ⟨text.ret_bool hQ.out,hb9.out⟩
  have hki : ((kn : Int) == 0) = true:=by rw [hk]; rfl
  by_cases hv : vn = 1
  case neg =>
    have hvi : ((vn : Int) == 1) = false:=by simp; omega
    have hQ:=Lib.hid (show false = formB 9 kd.data.toList nm.data.toList vn kn from by unfold formB tstB; simp [hk,hv])
    clear hk hv
    go_wp2_with (go_at_call 197; refine (istest_any _ _).mono ?_; rintro e w' ⟨rfl,rfl⟩; rw [hT1.out])
    go_ret
    exact ⟨text.ret_bool hQ.out,hb9.out⟩
  have hvi : ((vn : Int) == 1) = true:=by rw [hv]; rfl
  have hQ:=Lib.hid (show true = formB 9 kd.data.toList nm.data.toList vn kn from by unfold formB tstB; simp [hk,hv])
  clear hk hv
  go_wp2_with (go_at_call 197; refine (istest_any _ _).mono ?_; rintro e w' ⟨rfl,rfl⟩; rw [hT1.out])
  go_ret
  exact ⟨text.ret_bool hQ.out,hb9.out⟩
set_option maxRecDepth 100000 in
set_option maxHeartbeats 4000000 in
theorem counts_10 (kd nm : ByteArray) (va : Option Addr) (vn vc : Nat) (ka : Option Addr) (kn kc : Nat) (w : World) :
    Calls Tryz.prog 196 #[.agg #[.int .i64 10,.string kd,.string nm,.slice va vn vc,.slice ka kn kc]] w fun e w'=>e = .returned (.bool (formB 10 kd.data.toList nm.data.toList vn kn))∧Below w.heap.size w w':=by
  have hO:=Own.new w #[.int .i64 10,.string kd,.string nm,.slice va vn vc,.slice ka kn kc] 31
  have hb:=Lib.hid (show Below w.heap.size w (w.alloc (.cells #[.int .i64 10,.string kd,.string nm,.slice va vn vc,.slice ka kn kc] 31)) from (Below.refl _ _).alloc (Nat.le_refl _) _)
  have hT1:=Lib.hid (show decide (6≤(10 : Int)∧(10 : Int)≤15) = true by decide)
  go_enter Tryz.func196,Tryz.ntmps196
  go_wp2_with fail
  generalize w.alloc (.cells #[.int .i64 10,.string kd,.string nm,.slice va vn vc,.slice ka kn kc] 31) = w0 at hO hb ⊢
  obtain ⟨e0,e1,e2,e3,e4,-⟩:=own5z hO
  go_quiet (fail)
  generalize hq : World.drewN w0 _ = w9
  have hO9 : Own w9 w.heap.size #[.int .i64 10,.string kd,.string nm,.slice va vn vc,.slice ka kn kc] 31:=by rw [← hq]; exact hO
  have hb9:=Lib.hid (show Below w.heap.size w w9 by rw [← hq]; exact hb.out.grown (grown_drewN w0 _ none) hb.out.size (fun k e=>by cases e))
  clear hq hO hb e0 e1 e2 e3 e4
  obtain ⟨e0,e1,e2,e3,e4,-⟩:=own5z hO9
  by_cases hk : kn = 0
  case neg =>
    have hki : ((kn : Int) == 0) = false:=by simp; omega
    have hQ:=Lib.hid (show false = formB 10 kd.data.toList nm.data.toList vn kn from by unfold formB tstB; simp [hk])
    clear hk
    go_wp2_with (go_at_call 197; refine (istest_any _ _).mono ?_; rintro e w' ⟨rfl,rfl⟩; rw [hT1.out])
    go_ret
    exact ⟨text.ret_bool hQ.out,hb9.out⟩
  have hki : ((kn : Int) == 0) = true:=by rw [hk]; rfl
  by_cases hv : vn = 1
  case neg =>
    have hvi : ((vn : Int) == 1) = false:=by simp; omega
    have hQ:=Lib.hid (show false = formB 10 kd.data.toList nm.data.toList vn kn from by unfold formB tstB; simp [hk,hv])
    clear hk hv
    go_wp2_with (go_at_call 197; refine (istest_any _ _).mono ?_; rintro e w' ⟨rfl,rfl⟩; rw [hT1.out])
    go_ret
    exact ⟨text.ret_bool hQ.out,hb9.out⟩
  have hvi : ((vn : Int) == 1) = true:=by rw [hv]; rfl
  have hQ:=Lib.hid (show true = formB 10 kd.data.toList nm.data.toList vn kn from by unfold formB tstB; simp [hk,hv])
  clear hk hv
  go_wp2_with (go_at_call 197; refine (istest_any _ _).mono ?_; rintro e w' ⟨rfl,rfl⟩; rw [hT1.out])
  go_ret
  exact ⟨text.ret_bool hQ.out,hb9.out⟩
set_option maxRecDepth 100000 in
set_option maxHeartbeats 4000000 in
theorem counts_11 (kd nm : ByteArray) (va : Option Addr) (vn vc : Nat) (ka : Option Addr) (kn kc : Nat) (w : World) :
    Calls Tryz.prog 196 #[.agg #[.int .i64 11,.string kd,.string nm,.slice va vn vc,.slice ka kn kc]] w fun e w'=>e = .returned (.bool (formB 11 kd.data.toList nm.data.toList vn kn))∧Below w.heap.size w w':=by
  have hO:=Own.new w #[.int .i64 11,.string kd,.string nm,.slice va vn vc,.slice ka kn kc] 31
  have hb:=Lib.hid (show Below w.heap.size w (w.alloc (.cells #[.int .i64 11,.string kd,.string nm,.slice va vn vc,.slice ka kn kc] 31)) from (Below.refl _ _).alloc (Nat.le_refl _) _)
  have hT1:=Lib.hid (show decide (6≤(11 : Int)∧(11 : Int)≤15) = true by decide)
  go_enter Tryz.func196,Tryz.ntmps196
  go_wp2_with fail
  generalize w.alloc (.cells #[.int .i64 11,.string kd,.string nm,.slice va vn vc,.slice ka kn kc] 31) = w0 at hO hb ⊢
  obtain ⟨e0,e1,e2,e3,e4,-⟩:=own5z hO
  go_quiet (fail)
  generalize hq : World.drewN w0 _ = w9
  have hO9 : Own w9 w.heap.size #[.int .i64 11,.string kd,.string nm,.slice va vn vc,.slice ka kn kc] 31:=by rw [← hq]; exact hO
  have hb9:=Lib.hid (show Below w.heap.size w w9 by rw [← hq]; exact hb.out.grown (grown_drewN w0 _ none) hb.out.size (fun k e=>by cases e))
  clear hq hO hb e0 e1 e2 e3 e4
  obtain ⟨e0,e1,e2,e3,e4,-⟩:=own5z hO9
  by_cases hk : kn = 0
  case neg =>
    have hki : ((kn : Int) == 0) = false:=by simp; omega
    have hQ:=Lib.hid (show false = formB 11 kd.data.toList nm.data.toList vn kn from by unfold formB tstB; simp [hk])
    clear hk
    go_wp2_with (go_at_call 197; refine (istest_any _ _).mono ?_; rintro e w' ⟨rfl,rfl⟩; rw [hT1.out])
    go_ret
    exact ⟨text.ret_bool hQ.out,hb9.out⟩
  have hki : ((kn : Int) == 0) = true:=by rw [hk]; rfl
  by_cases hv : vn = 1
  case neg =>
    have hvi : ((vn : Int) == 1) = false:=by simp; omega
    have hQ:=Lib.hid (show false = formB 11 kd.data.toList nm.data.toList vn kn from by unfold formB tstB; simp [hk,hv])
    clear hk hv
    go_wp2_with (go_at_call 197; refine (istest_any _ _).mono ?_; rintro e w' ⟨rfl,rfl⟩; rw [hT1.out])
    go_ret
    exact ⟨text.ret_bool hQ.out,hb9.out⟩
  have hvi : ((vn : Int) == 1) = true:=by rw [hv]; rfl
  have hQ:=Lib.hid (show true = formB 11 kd.data.toList nm.data.toList vn kn from by unfold formB tstB; simp [hk,hv])
  clear hk hv
  go_wp2_with (go_at_call 197; refine (istest_any _ _).mono ?_; rintro e w' ⟨rfl,rfl⟩; rw [hT1.out])
  go_ret
  exact ⟨text.ret_bool hQ.out,hb9.out⟩
set_option maxRecDepth 100000 in
set_option maxHeartbeats 4000000 in
theorem counts_12 (kd nm : ByteArray) (va : Option Addr) (vn vc : Nat) (ka : Option Addr) (kn kc : Nat) (w : World) :
    Calls Tryz.prog 196 #[.agg #[.int .i64 12,.string kd,.string nm,.slice va vn vc,.slice ka kn kc]] w fun e w'=>e = .returned (.bool (formB 12 kd.data.toList nm.data.toList vn kn))∧Below w.heap.size w w':=by
  have hO:=Own.new w #[.int .i64 12,.string kd,.string nm,.slice va vn vc,.slice ka kn kc] 31
  have hb:=Lib.hid (show Below w.heap.size w (w.alloc (.cells #[.int .i64 12,.string kd,.string nm,.slice va vn vc,.slice ka kn kc] 31)) from (Below.refl _ _).alloc (Nat.le_refl _) _)
  have hT1:=Lib.hid (show decide (6≤(12 : Int)∧(12 : Int)≤15) = true by decide)
  go_enter Tryz.func196,Tryz.ntmps196
  go_wp2_with fail
  generalize w.alloc (.cells #[.int .i64 12,.string kd,.string nm,.slice va vn vc,.slice ka kn kc] 31) = w0 at hO hb ⊢
  obtain ⟨e0,e1,e2,e3,e4,-⟩:=own5z hO
  go_quiet (fail)
  generalize hq : World.drewN w0 _ = w9
  have hO9 : Own w9 w.heap.size #[.int .i64 12,.string kd,.string nm,.slice va vn vc,.slice ka kn kc] 31:=by rw [← hq]; exact hO
  have hb9:=Lib.hid (show Below w.heap.size w w9 by rw [← hq]; exact hb.out.grown (grown_drewN w0 _ none) hb.out.size (fun k e=>by cases e))
  clear hq hO hb e0 e1 e2 e3 e4
  obtain ⟨e0,e1,e2,e3,e4,-⟩:=own5z hO9
  by_cases hk : kn = 0
  case neg =>
    have hki : ((kn : Int) == 0) = false:=by simp; omega
    have hQ:=Lib.hid (show false = formB 12 kd.data.toList nm.data.toList vn kn from by unfold formB tstB; simp [hk])
    clear hk
    go_wp2_with (go_at_call 197; refine (istest_any _ _).mono ?_; rintro e w' ⟨rfl,rfl⟩; rw [hT1.out])
    go_ret
    exact ⟨text.ret_bool hQ.out,hb9.out⟩
  have hki : ((kn : Int) == 0) = true:=by rw [hk]; rfl
  by_cases hv : vn = 1
  case neg =>
    have hvi : ((vn : Int) == 1) = false:=by simp; omega
    have hQ:=Lib.hid (show false = formB 12 kd.data.toList nm.data.toList vn kn from by unfold formB tstB; simp [hk,hv])
    clear hk hv
    go_wp2_with (go_at_call 197; refine (istest_any _ _).mono ?_; rintro e w' ⟨rfl,rfl⟩; rw [hT1.out])
    go_ret
    exact ⟨text.ret_bool hQ.out,hb9.out⟩
  have hvi : ((vn : Int) == 1) = true:=by rw [hv]; rfl
  have hQ:=Lib.hid (show true = formB 12 kd.data.toList nm.data.toList vn kn from by unfold formB tstB; simp [hk,hv])
  clear hk hv
  go_wp2_with (go_at_call 197; refine (istest_any _ _).mono ?_; rintro e w' ⟨rfl,rfl⟩; rw [hT1.out])
  go_ret
  exact ⟨text.ret_bool hQ.out,hb9.out⟩
set_option maxRecDepth 100000 in
set_option maxHeartbeats 4000000 in
theorem counts_13 (kd nm : ByteArray) (va : Option Addr) (vn vc : Nat) (ka : Option Addr) (kn kc : Nat) (w : World) :
    Calls Tryz.prog 196 #[.agg #[.int .i64 13,.string kd,.string nm,.slice va vn vc,.slice ka kn kc]] w fun e w'=>e = .returned (.bool (formB 13 kd.data.toList nm.data.toList vn kn))∧Below w.heap.size w w':=by
  have hO:=Own.new w #[.int .i64 13,.string kd,.string nm,.slice va vn vc,.slice ka kn kc] 31
  have hb:=Lib.hid (show Below w.heap.size w (w.alloc (.cells #[.int .i64 13,.string kd,.string nm,.slice va vn vc,.slice ka kn kc] 31)) from (Below.refl _ _).alloc (Nat.le_refl _) _)
  have hT1:=Lib.hid (show decide (6≤(13 : Int)∧(13 : Int)≤15) = true by decide)
  go_enter Tryz.func196,Tryz.ntmps196
  go_wp2_with fail
  generalize w.alloc (.cells #[.int .i64 13,.string kd,.string nm,.slice va vn vc,.slice ka kn kc] 31) = w0 at hO hb ⊢
  obtain ⟨e0,e1,e2,e3,e4,-⟩:=own5z hO
  go_quiet (fail)
  generalize hq : World.drewN w0 _ = w9
  have hO9 : Own w9 w.heap.size #[.int .i64 13,.string kd,.string nm,.slice va vn vc,.slice ka kn kc] 31:=by rw [← hq]; exact hO
  have hb9:=Lib.hid (show Below w.heap.size w w9 by rw [← hq]; exact hb.out.grown (grown_drewN w0 _ none) hb.out.size (fun k e=>by cases e))
  clear hq hO hb e0 e1 e2 e3 e4
  obtain ⟨e0,e1,e2,e3,e4,-⟩:=own5z hO9
  by_cases hk : kn = 0
  case neg =>
    have hki : ((kn : Int) == 0) = false:=by simp; omega
    have hQ:=Lib.hid (show false = formB 13 kd.data.toList nm.data.toList vn kn from by unfold formB tstB; simp [hk])
    clear hk
    go_wp2_with (go_at_call 197; refine (istest_any _ _).mono ?_; rintro e w' ⟨rfl,rfl⟩; rw [hT1.out])
    go_ret
    exact ⟨text.ret_bool hQ.out,hb9.out⟩
  have hki : ((kn : Int) == 0) = true:=by rw [hk]; rfl
  by_cases hv : vn = 1
  case neg =>
    have hvi : ((vn : Int) == 1) = false:=by simp; omega
    have hQ:=Lib.hid (show false = formB 13 kd.data.toList nm.data.toList vn kn from by unfold formB tstB; simp [hk,hv])
    clear hk hv
    go_wp2_with (go_at_call 197; refine (istest_any _ _).mono ?_; rintro e w' ⟨rfl,rfl⟩; rw [hT1.out])
    go_ret
    exact ⟨text.ret_bool hQ.out,hb9.out⟩
  have hvi : ((vn : Int) == 1) = true:=by rw [hv]; rfl
  have hQ:=Lib.hid (show true = formB 13 kd.data.toList nm.data.toList vn kn from by unfold formB tstB; simp [hk,hv])
  clear hk hv
  go_wp2_with (go_at_call 197; refine (istest_any _ _).mono ?_; rintro e w' ⟨rfl,rfl⟩; rw [hT1.out])
  go_ret
  exact ⟨text.ret_bool hQ.out,hb9.out⟩
set_option maxRecDepth 100000 in
set_option maxHeartbeats 4000000 in
theorem counts_14 (kd nm : ByteArray) (va : Option Addr) (vn vc : Nat) (ka : Option Addr) (kn kc : Nat) (w : World) :
    Calls Tryz.prog 196 #[.agg #[.int .i64 14,.string kd,.string nm,.slice va vn vc,.slice ka kn kc]] w fun e w'=>e = .returned (.bool (formB 14 kd.data.toList nm.data.toList vn kn))∧Below w.heap.size w w':=by
  have hO:=Own.new w #[.int .i64 14,.string kd,.string nm,.slice va vn vc,.slice ka kn kc] 31
  have hb:=Lib.hid (show Below w.heap.size w (w.alloc (.cells #[.int .i64 14,.string kd,.string nm,.slice va vn vc,.slice ka kn kc] 31)) from (Below.refl _ _).alloc (Nat.le_refl _) _)
  have hT1:=Lib.hid (show decide (6≤(14 : Int)∧(14 : Int)≤15) = true by decide)
  go_enter Tryz.func196,Tryz.ntmps196
  go_wp2_with fail
  generalize w.alloc (.cells #[.int .i64 14,.string kd,.string nm,.slice va vn vc,.slice ka kn kc] 31) = w0 at hO hb ⊢
  obtain ⟨e0,e1,e2,e3,e4,-⟩:=own5z hO
  go_quiet (fail)
  generalize hq : World.drewN w0 _ = w9
  have hO9 : Own w9 w.heap.size #[.int .i64 14,.string kd,.string nm,.slice va vn vc,.slice ka kn kc] 31:=by rw [← hq]; exact hO
  have hb9:=Lib.hid (show Below w.heap.size w w9 by rw [← hq]; exact hb.out.grown (grown_drewN w0 _ none) hb.out.size (fun k e=>by cases e))
  clear hq hO hb e0 e1 e2 e3 e4
  obtain ⟨e0,e1,e2,e3,e4,-⟩:=own5z hO9
  by_cases hk : kn = 0
  case neg =>
    have hki : ((kn : Int) == 0) = false:=by simp; omega
    have hQ:=Lib.hid (show false = formB 14 kd.data.toList nm.data.toList vn kn from by unfold formB tstB; simp [hk])
    clear hk
    go_wp2_with (go_at_call 197; refine (istest_any _ _).mono ?_; rintro e w' ⟨rfl,rfl⟩; rw [hT1.out])
    go_ret
    exact ⟨text.ret_bool hQ.out,hb9.out⟩
  have hki : ((kn : Int) == 0) = true:=by rw [hk]; rfl
  by_cases hv : vn = 1
  case neg =>
    have hvi : ((vn : Int) == 1) = false:=by simp; omega
    have hQ:=Lib.hid (show false = formB 14 kd.data.toList nm.data.toList vn kn from by unfold formB tstB; simp [hk,hv])
    clear hk hv
    go_wp2_with (go_at_call 197; refine (istest_any _ _).mono ?_; rintro e w' ⟨rfl,rfl⟩; rw [hT1.out])
    go_ret
    exact ⟨text.ret_bool hQ.out,hb9.out⟩
  have hvi : ((vn : Int) == 1) = true:=by rw [hv]; rfl
  have hQ:=Lib.hid (show true = formB 14 kd.data.toList nm.data.toList vn kn from by unfold formB tstB; simp [hk,hv])
  clear hk hv
  go_wp2_with (go_at_call 197; refine (istest_any _ _).mono ?_; rintro e w' ⟨rfl,rfl⟩; rw [hT1.out])
  go_ret
  exact ⟨text.ret_bool hQ.out,hb9.out⟩
set_option maxRecDepth 100000 in
set_option maxHeartbeats 4000000 in
theorem counts_15 (kd nm : ByteArray) (va : Option Addr) (vn vc : Nat) (ka : Option Addr) (kn kc : Nat) (w : World) :
    Calls Tryz.prog 196 #[.agg #[.int .i64 15,.string kd,.string nm,.slice va vn vc,.slice ka kn kc]] w fun e w'=>e = .returned (.bool (formB 15 kd.data.toList nm.data.toList vn kn))∧Below w.heap.size w w':=by
  have hO:=Own.new w #[.int .i64 15,.string kd,.string nm,.slice va vn vc,.slice ka kn kc] 31
  have hb:=Lib.hid (show Below w.heap.size w (w.alloc (.cells #[.int .i64 15,.string kd,.string nm,.slice va vn vc,.slice ka kn kc] 31)) from (Below.refl _ _).alloc (Nat.le_refl _) _)
  have hT1:=Lib.hid (show decide (6≤(15 : Int)∧(15 : Int)≤15) = true by decide)
  go_enter Tryz.func196,Tryz.ntmps196
  go_wp2_with fail
  generalize w.alloc (.cells #[.int .i64 15,.string kd,.string nm,.slice va vn vc,.slice ka kn kc] 31) = w0 at hO hb ⊢
  obtain ⟨e0,e1,e2,e3,e4,-⟩:=own5z hO
  go_quiet (fail)
  generalize hq : World.drewN w0 _ = w9
  have hO9 : Own w9 w.heap.size #[.int .i64 15,.string kd,.string nm,.slice va vn vc,.slice ka kn kc] 31:=by rw [← hq]; exact hO
  have hb9:=Lib.hid (show Below w.heap.size w w9 by rw [← hq]; exact hb.out.grown (grown_drewN w0 _ none) hb.out.size (fun k e=>by cases e))
  clear hq hO hb e0 e1 e2 e3 e4
  obtain ⟨e0,e1,e2,e3,e4,-⟩:=own5z hO9
  by_cases hk : kn = 0
  case neg =>
    have hki : ((kn : Int) == 0) = false:=by simp; omega
    have hQ:=Lib.hid (show false = formB 15 kd.data.toList nm.data.toList vn kn from by unfold formB tstB; simp [hk])
    clear hk
    go_wp2_with (go_at_call 197; refine (istest_any _ _).mono ?_; rintro e w' ⟨rfl,rfl⟩; rw [hT1.out])
    go_ret
    exact ⟨text.ret_bool hQ.out,hb9.out⟩
  have hki : ((kn : Int) == 0) = true:=by rw [hk]; rfl
  by_cases hv : vn = 1
  case neg =>
    have hvi : ((vn : Int) == 1) = false:=by simp; omega
    have hQ:=Lib.hid (show false = formB 15 kd.data.toList nm.data.toList vn kn from by unfold formB tstB; simp [hk,hv])
    clear hk hv
    go_wp2_with (go_at_call 197; refine (istest_any _ _).mono ?_; rintro e w' ⟨rfl,rfl⟩; rw [hT1.out])
    go_ret
    exact ⟨text.ret_bool hQ.out,hb9.out⟩
  have hvi : ((vn : Int) == 1) = true:=by rw [hv]; rfl
  have hQ:=Lib.hid (show true = formB 15 kd.data.toList nm.data.toList vn kn from by unfold formB tstB; simp [hk,hv])
  clear hk hv
  go_wp2_with (go_at_call 197; refine (istest_any _ _).mono ?_; rintro e w' ⟨rfl,rfl⟩; rw [hT1.out])
  go_ret
  exact ⟨text.ret_bool hQ.out,hb9.out⟩
theorem counts_any (op : Int) (h1 : 1≤op) (h2 : op≤15) (kd nm : ByteArray) (va : Option Addr) (vn vc : Nat) (ka : Option Addr) (kn kc : Nat) (w : World) :
    Calls Tryz.prog 196 #[.agg #[.int .i64 op,.string kd,.string nm,.slice va vn vc,.slice ka kn kc]] w fun e w'=>e = .returned (.bool (formB op kd.data.toList nm.data.toList vn kn))∧Below w.heap.size w w':=by
  have : op = 1∨op = 2∨op = 3∨op = 4∨op = 5∨op = 6∨op = 7∨op = 8∨op = 9∨op = 10∨op = 11∨op = 12∨op = 13∨op = 14∨op = 15:=by omega
  rcases this with rfl | rfl | rfl | rfl | rfl | rfl | rfl | rfl | rfl | rfl | rfl | rfl | rfl | rfl | rfl
  · exact counts_1 kd nm va vn vc ka kn kc w
  · exact counts_2 kd nm va vn vc ka kn kc w
  · exact counts_3 kd nm va vn vc ka kn kc w
  · exact counts_4 kd nm va vn vc ka kn kc w
  · exact counts_5 kd nm va vn vc ka kn kc w
  · exact counts_6 kd nm va vn vc ka kn kc w
  · exact counts_7 kd nm va vn vc ka kn kc w
  · exact counts_8 kd nm va vn vc ka kn kc w
  · exact counts_9 kd nm va vn vc ka kn kc w
  · exact counts_10 kd nm va vn vc ka kn kc w
  · exact counts_11 kd nm va vn vc ka kn kc w
  · exact counts_12 kd nm va vn vc ka kn kc w
  · exact counts_13 kd nm va vn vc ka kn kc w
  · exact counts_14 kd nm va vn vc ka kn kc w
  · exact counts_15 kd nm va vn vc ka kn kc w
end Go.Proofs.YtfffpflflggonaaGreatDoor.src
