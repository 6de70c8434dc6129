/- What sorting, checking and comparing do at no elements. -/
import Derived.Test.YtfffpflflggonaaGreatDoorKS28
namespace Go.Proofs.YtfffpflflggonaaGreatDoor.src
open Go.RowKit lex value text schema draw clause
set_option maxRecDepth 100000 in
theorem len64_zero (w : World) : Calls Tryz.prog 221 #[.int .u64 0] w fun e w'=>e = .returned (.int .i64 0)∧w' = w:=by
  have hl8 : wrap64 (wrap64 (Lib.len8 0)) = 0:=by kernel_rfl
  go_enter Tryz.func221,Tryz.ntmps221
  go_wp2
  go_ret
  exact ⟨text.ret_int hl8,rfl⟩
set_option maxRecDepth 100000 in
theorem len_zero (w : World) : Calls Tryz.prog 153 #[.int .u64 0] w fun e w'=>e = .returned (.int .i64 0)∧w' = w:=by
  go_enter Tryz.func153,Tryz.ntmps153
  go_wp2_with fail
  refine (len64_zero _).mono ?_
  rintro e w' ⟨rfl,hw⟩
  replace hw:=hw.symm
  subst hw
  go_wp2
  go_ret
  exact ⟨rfl,rfl⟩
set_option maxRecDepth 100000 in
set_option maxHeartbeats 2000000 in
theorem ins_Declared (f : Value) (w : World) : Calls Tryz.prog 212 #[.slice none 0 0,.int .i64 0,.int .i64 0,f] w fun e w'=>e = .returned (.tuple #[])∧w' = w:=by
  go_enter Tryz.func212,Tryz.ntmps212
  go_wp2
  go_loopw [8] (fun s8 wr=>s8 = .int .i64 1∧wr = w) (fun _ _=>0)
  case atStart=>exact ⟨rfl,rfl⟩
  case round =>
    obtain ⟨rfl,hwr⟩:=hrel
    replace hwr:=hwr.symm
    subst hwr
    go_wp2
    first | go_end0 | refine bodyPost_ret (results_none rfl _ _ _) rfl ?_
    exact ⟨rfl,rfl⟩
set_option maxRecDepth 100000 in
set_option maxHeartbeats 2000000 in
theorem pdq_Declared (f : Value) (w : World) : Calls Tryz.prog 152 #[.slice none 0 0,.int .i64 0,.int .i64 0,.int .i64 0,f] w fun e w'=>e = .returned (.tuple #[])∧w' = w:=by
  go_enter Tryz.func152,Tryz.ntmps152
  go_wp2
  go_loopw [1,2] (fun s1 s2 wr=>s1 = .int .i64 0∧s2 = .int .i64 0∧wr = w) (fun _ _ _=>0)
  case atStart=>exact ⟨rfl,rfl,rfl⟩
  case round =>
    obtain ⟨rfl,rfl,hwr⟩:=hrel
    replace hwr:=hwr.symm
    subst hwr
    go_wp2_with fail
    refine (ins_Declared _ _).mono ?_
    rintro e w' ⟨rfl,hw⟩
    replace hw:=hw.symm
    subst hw
    go_wp2
    first | go_end0 | refine bodyPost_ret (results_none rfl _ _ _) rfl ?_
    exact ⟨rfl,rfl⟩
set_option maxRecDepth 100000 in
set_option maxHeartbeats 2000000 in
theorem sort_Declared (f : Value) (w : World) : Calls Tryz.prog 73 #[.slice none 0 0,f] w fun e w'=>e = .returned (.tuple #[])∧w' = w:=by
  go_enter Tryz.func73,Tryz.ntmps73
  go_wp2_with fail
  refine (len_zero _).mono ?_
  rintro e w' ⟨rfl,hw⟩
  replace hw:=hw.symm
  subst hw
  go_wp2_with fail
  refine (pdq_Declared _ _).mono ?_
  rintro e w' ⟨rfl,hw⟩
  replace hw:=hw.symm
  subst hw
  go_wp2
  first | go_end0 | refine bodyPost_ret (results_none rfl _ _ _) rfl ?_
  exact ⟨rfl,rfl⟩
set_option maxRecDepth 100000 in
set_option maxHeartbeats 2000000 in
theorem ins_Segment (f : Value) (w : World) : Calls Tryz.prog 223 #[.slice none 0 0,.int .i64 0,.int .i64 0,f] w fun e w'=>e = .returned (.tuple #[])∧w' = w:=by
  go_enter Tryz.func223,Tryz.ntmps223
  go_wp2
  go_loopw [8] (fun s8 wr=>s8 = .int .i64 1∧wr = w) (fun _ _=>0)
  case atStart=>exact ⟨rfl,rfl⟩
  case round =>
    obtain ⟨rfl,hwr⟩:=hrel
    replace hwr:=hwr.symm
    subst hwr
    go_wp2
    first | go_end0 | refine bodyPost_ret (results_none rfl _ _ _) rfl ?_
    exact ⟨rfl,rfl⟩
set_option maxRecDepth 100000 in
set_option maxHeartbeats 2000000 in
theorem pdq_Segment (f : Value) (w : World) : Calls Tryz.prog 155 #[.slice none 0 0,.int .i64 0,.int .i64 0,.int .i64 0,f] w fun e w'=>e = .returned (.tuple #[])∧w' = w:=by
  go_enter Tryz.func155,Tryz.ntmps155
  go_wp2
  go_loopw [1,2] (fun s1 s2 wr=>s1 = .int .i64 0∧s2 = .int .i64 0∧wr = w) (fun _ _ _=>0)
  case atStart=>exact ⟨rfl,rfl,rfl⟩
  case round =>
    obtain ⟨rfl,rfl,hwr⟩:=hrel
    replace hwr:=hwr.symm
    subst hwr
    go_wp2_with fail
    refine (ins_Segment _ _).mono ?_
    rintro e w' ⟨rfl,hw⟩
    replace hw:=hw.symm
    subst hw
    go_wp2
    first | go_end0 | refine bodyPost_ret (results_none rfl _ _ _) rfl ?_
    exact ⟨rfl,rfl⟩
set_option maxRecDepth 100000 in
set_option maxHeartbeats 2000000 in
theorem sort_Segment (f : Value) (w : World) : Calls Tryz.prog 77 #[.slice none 0 0,f] w fun e w'=>e = .returned (.tuple #[])∧w' = w:=by
  go_enter Tryz.func77,Tryz.ntmps77
  go_wp2_with fail
  refine (len_zero _).mono ?_
  rintro e w' ⟨rfl,hw⟩
  replace hw:=hw.symm
  subst hw
  go_wp2_with fail
  refine (pdq_Segment _ _).mono ?_
  rintro e w' ⟨rfl,hw⟩
  replace hw:=hw.symm
  subst hw
  go_wp2
  first | go_end0 | refine bodyPost_ret (results_none rfl _ _ _) rfl ?_
  exact ⟨rfl,rfl⟩
set_option maxRecDepth 100000 in
set_option maxHeartbeats 2000000 in
theorem ins_Flag (f : Value) (w : World) : Calls Tryz.prog 231 #[.slice none 0 0,.int .i64 0,.int .i64 0,f] w fun e w'=>e = .returned (.tuple #[])∧w' = w:=by
  go_enter Tryz.func231,Tryz.ntmps231
  go_wp2
  go_loopw [8] (fun s8 wr=>s8 = .int .i64 1∧wr = w) (fun _ _=>0)
  case atStart=>exact ⟨rfl,rfl⟩
  case round =>
    obtain ⟨rfl,hwr⟩:=hrel
    replace hwr:=hwr.symm
    subst hwr
    go_wp2
    first | go_end0 | refine bodyPost_ret (results_none rfl _ _ _) rfl ?_
    exact ⟨rfl,rfl⟩
set_option maxRecDepth 100000 in
set_option maxHeartbeats 2000000 in
theorem pdq_Flag (f : Value) (w : World) : Calls Tryz.prog 156 #[.slice none 0 0,.int .i64 0,.int .i64 0,.int .i64 0,f] w fun e w'=>e = .returned (.tuple #[])∧w' = w:=by
  go_enter Tryz.func156,Tryz.ntmps156
  go_wp2
  go_loopw [1,2] (fun s1 s2 wr=>s1 = .int .i64 0∧s2 = .int .i64 0∧wr = w) (fun _ _ _=>0)
  case atStart=>exact ⟨rfl,rfl,rfl⟩
  case round =>
    obtain ⟨rfl,rfl,hwr⟩:=hrel
    replace hwr:=hwr.symm
    subst hwr
    go_wp2_with fail
    refine (ins_Flag _ _).mono ?_
    rintro e w' ⟨rfl,hw⟩
    replace hw:=hw.symm
    subst hw
    go_wp2
    first | go_end0 | refine bodyPost_ret (results_none rfl _ _ _) rfl ?_
    exact ⟨rfl,rfl⟩
set_option maxRecDepth 100000 in
set_option maxHeartbeats 2000000 in
theorem sort_Flag (f : Value) (w : World) : Calls Tryz.prog 79 #[.slice none 0 0,f] w fun e w'=>e = .returned (.tuple #[])∧w' = w:=by
  go_enter Tryz.func79,Tryz.ntmps79
  go_wp2_with fail
  refine (len_zero _).mono ?_
  rintro e w' ⟨rfl,hw⟩
  replace hw:=hw.symm
  subst hw
  go_wp2_with fail
  refine (pdq_Flag _ _).mono ?_
  rintro e w' ⟨rfl,hw⟩
  replace hw:=hw.symm
  subst hw
  go_wp2
  first | go_end0 | refine bodyPost_ret (results_none rfl _ _ _) rfl ?_
  exact ⟨rfl,rfl⟩
set_option maxRecDepth 100000 in
set_option maxHeartbeats 2000000 in
theorem ins_Layer (f : Value) (w : World) : Calls Tryz.prog 239 #[.slice none 0 0,.int .i64 0,.int .i64 0,f] w fun e w'=>e = .returned (.tuple #[])∧w' = w:=by
  go_enter Tryz.func239,Tryz.ntmps239
  go_wp2
  go_loopw [8] (fun s8 wr=>s8 = .int .i64 1∧wr = w) (fun _ _=>0)
  case atStart=>exact ⟨rfl,rfl⟩
  case round =>
    obtain ⟨rfl,hwr⟩:=hrel
    replace hwr:=hwr.symm
    subst hwr
    go_wp2
    first | go_end0 | refine bodyPost_ret (results_none rfl _ _ _) rfl ?_
    exact ⟨rfl,rfl⟩
set_option maxRecDepth 100000 in
set_option maxHeartbeats 2000000 in
theorem pdq_Layer (f : Value) (w : World) : Calls Tryz.prog 157 #[.slice none 0 0,.int .i64 0,.int .i64 0,.int .i64 0,f] w fun e w'=>e = .returned (.tuple #[])∧w' = w:=by
  go_enter Tryz.func157,Tryz.ntmps157
  go_wp2
  go_loopw [1,2] (fun s1 s2 wr=>s1 = .int .i64 0∧s2 = .int .i64 0∧wr = w) (fun _ _ _=>0)
  case atStart=>exact ⟨rfl,rfl,rfl⟩
  case round =>
    obtain ⟨rfl,rfl,hwr⟩:=hrel
    replace hwr:=hwr.symm
    subst hwr
    go_wp2_with fail
    refine (ins_Layer _ _).mono ?_
    rintro e w' ⟨rfl,hw⟩
    replace hw:=hw.symm
    subst hw
    go_wp2
    first | go_end0 | refine bodyPost_ret (results_none rfl _ _ _) rfl ?_
    exact ⟨rfl,rfl⟩
set_option maxRecDepth 100000 in
set_option maxHeartbeats 2000000 in
theorem sort_Layer (f : Value) (w : World) : Calls Tryz.prog 81 #[.slice none 0 0,f] w fun e w'=>e = .returned (.tuple #[])∧w' = w:=by
  go_enter Tryz.func81,Tryz.ntmps81
  go_wp2_with fail
  refine (len_zero _).mono ?_
  rintro e w' ⟨rfl,hw⟩
  replace hw:=hw.symm
  subst hw
  go_wp2_with fail
  refine (pdq_Layer _ _).mono ?_
  rintro e w' ⟨rfl,hw⟩
  replace hw:=hw.symm
  subst hw
  go_wp2
  first | go_end0 | refine bodyPost_ret (results_none rfl _ _ _) rfl ?_
  exact ⟨rfl,rfl⟩
set_option maxRecDepth 100000 in
set_option maxHeartbeats 2000000 in
theorem ins_Experiment (f : Value) (w : World) : Calls Tryz.prog 247 #[.slice none 0 0,.int .i64 0,.int .i64 0,f] w fun e w'=>e = .returned (.tuple #[])∧w' = w:=by
  go_enter Tryz.func247,Tryz.ntmps247
  go_wp2
  go_loopw [8] (fun s8 wr=>s8 = .int .i64 1∧wr = w) (fun _ _=>0)
  case atStart=>exact ⟨rfl,rfl⟩
  case round =>
    obtain ⟨rfl,hwr⟩:=hrel
    replace hwr:=hwr.symm
    subst hwr
    go_wp2
    first | go_end0 | refine bodyPost_ret (results_none rfl _ _ _) rfl ?_
    exact ⟨rfl,rfl⟩
set_option maxRecDepth 100000 in
set_option maxHeartbeats 2000000 in
theorem pdq_Experiment (f : Value) (w : World) : Calls Tryz.prog 158 #[.slice none 0 0,.int .i64 0,.int .i64 0,.int .i64 0,f] w fun e w'=>e = .returned (.tuple #[])∧w' = w:=by
  go_enter Tryz.func158,Tryz.ntmps158
  go_wp2
  go_loopw [1,2] (fun s1 s2 wr=>s1 = .int .i64 0∧s2 = .int .i64 0∧wr = w) (fun _ _ _=>0)
  case atStart=>exact ⟨rfl,rfl,rfl⟩
  case round =>
    obtain ⟨rfl,rfl,hwr⟩:=hrel
    replace hwr:=hwr.symm
    subst hwr
    go_wp2_with fail
    refine (ins_Experiment _ _).mono ?_
    rintro e w' ⟨rfl,hw⟩
    replace hw:=hw.symm
    subst hw
    go_wp2
    first | go_end0 | refine bodyPost_ret (results_none rfl _ _ _) rfl ?_
    exact ⟨rfl,rfl⟩
set_option maxRecDepth 100000 in
set_option maxHeartbeats 2000000 in
theorem sort_Experiment (f : Value) (w : World) : Calls Tryz.prog 83 #[.slice none 0 0,f] w fun e w'=>e = .returned (.tuple #[])∧w' = w:=by
  go_enter Tryz.func83,Tryz.ntmps83
  go_wp2_with fail
  refine (len_zero _).mono ?_
  rintro e w' ⟨rfl,hw⟩
  replace hw:=hw.symm
  subst hw
  go_wp2_with fail
  refine (pdq_Experiment _ _).mono ?_
  rintro e w' ⟨rfl,hw⟩
  replace hw:=hw.symm
  subst hw
  go_wp2
  first | go_end0 | refine bodyPost_ret (results_none rfl _ _ _) rfl ?_
  exact ⟨rfl,rfl⟩
set_option maxRecDepth 100000 in
set_option maxHeartbeats 2000000 in
theorem attributes_zero (w : World) : Calls Tryz.prog 89 #[.slice none 0 0] w fun e w'=>e = .returned (.int .i64 0)∧w' = w:=by
  go_enter Tryz.func89,Tryz.ntmps89
  go_wp2
  go_loopw [10] (fun s wr=>s = .int .i64 0∧wr = w) (fun _ _=>0)
  case atStart=>exact ⟨rfl,rfl⟩
  case round =>
    obtain ⟨rfl,hwr⟩:=hrel
    replace hwr:=hwr.symm
    subst hwr
    go_wp2
    go_ret
    exact ⟨rfl,rfl⟩
set_option maxRecDepth 100000 in
set_option maxHeartbeats 2000000 in
theorem list_Segment (f k : Value) (n : Int) (hn : 0≤n) (w : World) : Calls Tryz.prog 90 #[.slice none 0 0,.int .i64 n,f,k] w fun e w'=>e = .returned (.int .i64 0)∧w' = w:=by
  go_enter Tryz.func90,Tryz.ntmps90
  have hn1 : ¬ (0 : Int) > n:=by omega
  have hn2 : ¬ n < 0:=by omega
  go_wp2
  go_loopw [18] (fun s wr=>s = .int .i64 0∧wr = w) (fun _ _=>0)
  case atStart=>exact ⟨rfl,rfl⟩
  case round =>
    obtain ⟨rfl,hwr⟩:=hrel
    replace hwr:=hwr.symm
    subst hwr
    go_wp2
    go_ret
    exact ⟨rfl,rfl⟩
set_option maxRecDepth 100000 in
set_option maxHeartbeats 2000000 in
theorem list_Flag (f k : Value) (n : Int) (hn : 0≤n) (w : World) : Calls Tryz.prog 93 #[.slice none 0 0,.int .i64 n,f,k] w fun e w'=>e = .returned (.int .i64 0)∧w' = w:=by
  go_enter Tryz.func93,Tryz.ntmps93
  have hn1 : ¬ (0 : Int) > n:=by omega
  have hn2 : ¬ n < 0:=by omega
  go_wp2
  go_loopw [18] (fun s wr=>s = .int .i64 0∧wr = w) (fun _ _=>0)
  case atStart=>exact ⟨rfl,rfl⟩
  case round =>
    obtain ⟨rfl,hwr⟩:=hrel
    replace hwr:=hwr.symm
    subst hwr
    go_wp2
    go_ret
    exact ⟨rfl,rfl⟩
set_option maxRecDepth 100000 in
set_option maxHeartbeats 2000000 in
theorem list_Layer (f k : Value) (n : Int) (hn : 0≤n) (w : World) : Calls Tryz.prog 96 #[.slice none 0 0,.int .i64 n,f,k] w fun e w'=>e = .returned (.int .i64 0)∧w' = w:=by
  go_enter Tryz.func96,Tryz.ntmps96
  have hn1 : ¬ (0 : Int) > n:=by omega
  have hn2 : ¬ n < 0:=by omega
  go_wp2
  go_loopw [18] (fun s wr=>s = .int .i64 0∧wr = w) (fun _ _=>0)
  case atStart=>exact ⟨rfl,rfl⟩
  case round =>
    obtain ⟨rfl,hwr⟩:=hrel
    replace hwr:=hwr.symm
    subst hwr
    go_wp2
    go_ret
    exact ⟨rfl,rfl⟩
set_option maxRecDepth 100000 in
set_option maxHeartbeats 2000000 in
theorem list_Experiment (f k : Value) (n : Int) (hn : 0≤n) (w : World) : Calls Tryz.prog 99 #[.slice none 0 0,.int .i64 n,f,k] w fun e w'=>e = .returned (.int .i64 0)∧w' = w:=by
  go_enter Tryz.func99,Tryz.ntmps99
  have hn1 : ¬ (0 : Int) > n:=by omega
  have hn2 : ¬ n < 0:=by omega
  go_wp2
  go_loopw [18] (fun s wr=>s = .int .i64 0∧wr = w) (fun _ _=>0)
  case atStart=>exact ⟨rfl,rfl⟩
  case round =>
    obtain ⟨rfl,hwr⟩:=hrel
    replace hwr:=hwr.symm
    subst hwr
    go_wp2
    go_ret
    exact ⟨rfl,rfl⟩
set_option maxRecDepth 100000 in
set_option maxHeartbeats 2000000 in
theorem sameDeclared_zero (w : World) : Calls Tryz.prog 37 #[.slice none 0 0,.slice none 0 0] w fun e w'=>e = .returned (.bool true)∧w' = w:=by
  go_enter Tryz.func37,Tryz.ntmps37
  go_wp2
  go_loopw [5] (fun s wr=>s = .int .i64 0∧wr = w) (fun _ _=>0)
  case atStart=>exact ⟨rfl,rfl⟩
  case round =>
    obtain ⟨rfl,hwr⟩:=hrel
    replace hwr:=hwr.symm
    subst hwr
    go_wp2
    go_ret
    exact ⟨rfl,rfl⟩
set_option maxRecDepth 100000 in
set_option maxHeartbeats 2000000 in
theorem sameSegments_zero (w : World) : Calls Tryz.prog 38 #[.slice none 0 0,.slice none 0 0] w fun e w'=>e = .returned (.bool true)∧w' = w:=by
  go_enter Tryz.func38,Tryz.ntmps38
  go_wp2
  go_loopw [5] (fun s wr=>s = .int .i64 0∧wr = w) (fun _ _=>0)
  case atStart=>exact ⟨rfl,rfl⟩
  case round =>
    obtain ⟨rfl,hwr⟩:=hrel
    replace hwr:=hwr.symm
    subst hwr
    go_wp2
    go_ret
    exact ⟨rfl,rfl⟩
set_option maxRecDepth 100000 in
set_option maxHeartbeats 2000000 in
theorem sameFlags_zero (w : World) : Calls Tryz.prog 39 #[.slice none 0 0,.slice none 0 0] w fun e w'=>e = .returned (.bool true)∧w' = w:=by
  go_enter Tryz.func39,Tryz.ntmps39
  go_wp2
  go_loopw [5] (fun s wr=>s = .int .i64 0∧wr = w) (fun _ _=>0)
  case atStart=>exact ⟨rfl,rfl⟩
  case round =>
    obtain ⟨rfl,hwr⟩:=hrel
    replace hwr:=hwr.symm
    subst hwr
    go_wp2
    go_ret
    exact ⟨rfl,rfl⟩
set_option maxRecDepth 100000 in
set_option maxHeartbeats 2000000 in
theorem sameLayers_zero (w : World) : Calls Tryz.prog 40 #[.slice none 0 0,.slice none 0 0] w fun e w'=>e = .returned (.bool true)∧w' = w:=by
  go_enter Tryz.func40,Tryz.ntmps40
  go_wp2
  go_loopw [5] (fun s wr=>s = .int .i64 0∧wr = w) (fun _ _=>0)
  case atStart=>exact ⟨rfl,rfl⟩
  case round =>
    obtain ⟨rfl,hwr⟩:=hrel
    replace hwr:=hwr.symm
    subst hwr
    go_wp2
    go_ret
    exact ⟨rfl,rfl⟩
set_option maxRecDepth 100000 in
set_option maxHeartbeats 2000000 in
theorem sameExperiments_zero (w : World) : Calls Tryz.prog 41 #[.slice none 0 0,.slice none 0 0] w fun e w'=>e = .returned (.bool true)∧w' = w:=by
  go_enter Tryz.func41,Tryz.ntmps41
  go_wp2
  go_loopw [5] (fun s wr=>s = .int .i64 0∧wr = w) (fun _ _=>0)
  case atStart=>exact ⟨rfl,rfl⟩
  case round =>
    obtain ⟨rfl,hwr⟩:=hrel
    replace hwr:=hwr.symm
    subst hwr
    go_wp2
    go_ret
    exact ⟨rfl,rfl⟩
end Go.Proofs.YtfffpflflggonaaGreatDoor.src
