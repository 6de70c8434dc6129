/- strings.Join with " and " and with " or " walked over this program. Printing a condition: the program's list of values. Printing a condition: the program's join of values. -/
import Derived.Test.YtfffpflflggonaaGreatDoorKS35
import Derived.Test.YtfffpflflggonaaGreatDoorKS36
import Derived.Test.YtfffpflflggonaaGreatDoorKS16
import Derived.Test.YtfffpflflggonaaGreatDoorKS17
namespace Go.Proofs.YtfffpflflggonaaGreatDoor.src
open Go.RowKit text value
def joinA : List (List UInt8)→List UInt8
  | []=>[]
  | [a]=>a
  | a :: b :: r=>a ++ 32 :: 97 :: 110 :: 100 :: 32 :: joinA (b :: r)
theorem joinA_snoc : ∀ (l : List (List UInt8)) (x : List UInt8),l ≠ []→joinA (l ++ [x]) = joinA l ++ [32,97,110,100,32] ++ x
  | [],_,h=>absurd rfl h
  | [a],x,_=>by simp [joinA]
  | a :: b :: r,x,_=>by
    have:=joinA_snoc (b :: r) x (by simp)
    simp only [List.cons_append] at this ⊢
    rw [joinA,this,joinA]
    simp
theorem joinA_len : ∀ l : List (List UInt8),l ≠ []→(joinA l).length = 5 * (l.length - 1) + sumL l
  | [],h=>absurd rfl h
  | [a],_=>by simp [joinA,sumL]
  | a :: b :: r,_=>by
    have:=joinA_len (b :: r) (by simp)
    rw [joinA]
    simp only [List.length_append,List.length_cons,this]
    simp only [sumL,List.map_cons,List.sum_cons]
    omega
theorem joinA_take {ls : List ByteArray} {k : Nat} (h0 : 1≤k) (h : k < ls.length) : joinA ((lsL ls).take (k + 1)) = joinA ((lsL ls).take k) ++ [32,97,110,100,32] ++ ls[k].data.toList:=by
  have hl : k < (lsL ls).length:=by simpa [lsL] using h
  rw [List.take_succ_eq_append_getElem hl,joinA_snoc _ _ (by
    intro e
    have:=congrArg List.length e
    simp only [List.length_take,List.length_nil] at this
    omega)]
  simp [lsL]
theorem takeA_le (l : List (List UInt8)) (k : Nat) (h0 : 1≤k) (h : k≤l.length) : (joinA (l.take k)).length≤(joinA l).length:=by
  have h1 : l.take k ≠ []:=by
    intro e
    have:=congrArg List.length e
    simp only [List.length_take,List.length_nil] at this
    omega
  have h2 : l ≠ []:=by intro e; subst e; simp at h; omega
  rw [joinA_len _ h1,joinA_len _ h2,List.length_take]
  have:=sum_take_le l k
  omega
set_option maxRecDepth 100000 in
set_option maxHeartbeats 4000000 in
theorem joinA_any (blk off lc : Nat) (ls : List ByteArray) (w : World) (hL : ∀ k (h : k < ls.length),w.cell? ⟨blk,off + k,none⟩ = some (.string ls[k])) (h2 : 2≤ls.length) (hlc : ls.length≤lc) (_hb : blk < w.heap.size) (h20 : ls.length≤20)
    (hsz : (joinA (lsL ls)).length≤140737488355328) :
    Calls Tryz.prog 122 #[.slice (some ⟨blk,off,none⟩) ls.length lc,.string ⟨#[32,97,110,100,32]⟩] w fun e w'=>e = .returned (.string ⟨(joinA (lsL ls)).toArray⟩)∧Below w.heap.size w w':=by
  have hne : lsL ls ≠ []:=by intro e; have:=congrArg List.length e; simp [lsL] at this; rw [this] at h2; simp at h2
  have hlen : (lsL ls).length = ls.length:=by simp [lsL]
  have htot:=joinA_len (lsL ls) hne
  rw [hlen] at htot
  have hs0 : ∀ k,sumL ((lsL ls).take k)≤sumL (lsL ls):=fun k=>sum_take_le _ _
  replace hL:=Lib.hid hL
  replace hs0:=Lib.hid hs0
  have e0 : ((ls.length : Int) == 0) = false:=by simp; intro e; rw [e] at h2; simp at h2
  have e1 : ((ls.length : Int) == 1) = false:=by simp; omega
  have e2 : (5 : Int) < 9223372036854775807 / ((ls.length : Int) - 1):=by
    have : (6 : Int)≤9223372036854775807 / ((ls.length : Int) - 1):=Int.le_ediv_of_mul_le (by omega) (by omega)
    omega
  clear hne hlen
  go_enter Tryz.func122,Tryz.ntmps122
  go_wp2
  clear e0 e1 e2
  go_loopw [5,41] (fun n i wr=>w = wr∧∃ k t : Nat,k≤ls.length∧i = .int .i64 k∧n = .int .i64 t∧Hid (t = 5 * (ls.length - 1) + sumL ((lsL ls).take k))) (fun _ i _=>ls.length - (intOf i).toNat)
  case atStart=>exact ⟨by first | rfl | trivial,0,5 * (ls.length - 1),by omega,by first | rfl | trivial,by congr 1; omega,show 5 * (ls.length - 1) = 5 * (ls.length - 1) + sumL ((lsL ls).take 0) by simp [sumL]⟩
  case round =>
    obtain ⟨rfl,k,t,hk,rfl,rfl,ht⟩:=hrel
    by_cases hkl : k < ls.length
    · have hc:=hL.out k hkl
      have hst:=sum_take hkl
      have hs1:=hs0.out (k + 1)
      have hb1 : t + ls[k].size≤140737488355328:=by have:=ht.out; omega
      have hn : t + ls[k].size = 5 * (ls.length - 1) + sumL ((lsL ls).take (k + 1)):=by have:=ht.out; omega
      replace hn:=Lib.hid hn
      clear hst hs1 ht htot hsz
      go_wp2
      go_roundw
      case rel=>exact ⟨by first | rfl | trivial,k + 1,t + ls[k].size,by omega,by simp,by simp,hn.out⟩
      case measure=>simp [intOf]; omega
    · have hkk : k = ls.length:=by omega
      subst hkk
      have ht2 : t = (joinA (lsL ls)).length:=by
        have:=ht.out
        rw [htot,this,List.take_of_length_le (by simp [lsL])]
      subst ht2
      clear ht hkl
      have hG0:=Lib.hid (Tryz.Builder_Grow_fresh w.heap.size w.heap.size (joinA (lsL ls)).length (w.alloc (.cells #[.pointer none,.slice none 0 0] 241)) (Nat.le_refl _) (Own.new w _ _) (by simp) (by omega))
      generalize (joinA (lsL ls)).length = T at hG0 ⊢
      go_wp2_with fail
      refine (hG0.out).mono ?_
      rintro e w1 ⟨rfl,hg,hb1⟩
      have hB1:=Lib.hid (show Below w.heap.size w w1 from ((Below.refl _ _).alloc (Nat.le_refl _) _).trans (hb1.mono (Nat.le_refl _)))
      have hG:=Lib.hid (show IsB w.heap.size w.heap.size [] w1 from Or.inr hg)
      clear hG0 hb1 hg
      have hc0:=sub_of_below hB1.out _ _ (hL.out 0 (by omega))
      have hs1 : ls[0].size≤140737488355328:=by have:=hs0.out (0 + 1); have h7:=sum_take (ls:=ls) (k:=0) (by omega); omega
      rw [Nat.add_zero] at hc0
      go_wp2_with fail
      refine (writeString_any w.heap.size w.heap.size [] ls[0] _ hG.out (by simpa using hs1) hB1.out.size).mono ?_
      rintro e w2 ⟨rfl,hG2,hb2⟩
      replace hG2:=Lib.hid hG2
      have hB2:=Lib.hid (hB1.out.trans hb2)
      clear hb2 hB1 hc0 hs1 hG
      have hacc : joinA ((lsL ls).take 1) = [] ++ ls[0].data.toList:=by
        match ls,h2 with
        | a :: b :: r,_=>simp [lsL,joinA]
      rw [← hacc] at hG2
      clear hacc
      replace hsz:=Lib.hid hsz
      replace htot:=Lib.hid htot
      go_wp2
      go_loopw [65] (fun i wr=>∃ k : Nat,k + 1≤ls.length∧i = .int .i64 k∧Hid (IsB w.heap.size w.heap.size (joinA ((lsL ls).take (k + 1))) wr)∧Hid (Below w.heap.size w wr)) (fun i _=>ls.length - (intOf i).toNat)
      case atStart=>exact ⟨0,by omega,rfl,hG2.out,hB2.out⟩
      case round =>
        clear hG2 hB2
        obtain ⟨k,hk,rfl,hG,hB⟩:=hrel
        by_cases hkl : k + 1 < ls.length
        · have hc:=sub_of_below hB.out _ _ (hL.out (k + 1) hkl)
          rw [show off + (k + 1) = off + 1 + k by omega] at hc
          have hj:=joinA_take (ls:=ls) (k:=k + 1) (by omega) hkl
          have hlt:=takeA_le (lsL ls) (k + 1 + 1) (by omega) (by simp [lsL]; omega)
          have hle:=Lib.hid (Nat.le_trans hlt hsz.out)
          rw [hj] at hle
          have hz1:=Lib.hid (show (joinA ((lsL ls).take (k + 1))).length + 5≤140737488355328 by have:=hle.out; simp only [List.length_append,List.length_cons,List.length_nil] at this; omega)
          have hz2:=Lib.hid (show (joinA ((lsL ls).take (k + 1)) ++ [32,97,110,100,32]).length + ls[k + 1].size≤140737488355328 by have:=hle.out; simp only [List.length_append,Array.length_toList] at this ⊢; exact this)
          replace hj:=Lib.hid hj
          clear hlt hle
          go_wp2_with fail
          refine (writeString_any w.heap.size w.heap.size _ ⟨#[32,97,110,100,32]⟩ _ hG.out hz1.out hB.out.size).mono ?_
          rintro e w3 ⟨rfl,hG3,hb3⟩
          replace hG3:=Lib.hid hG3
          have hB3:=Lib.hid (hB.out.trans hb3)
          clear hb3 hG hB hc
          go_wp2_with fail
          refine (writeString_any w.heap.size w.heap.size _ ls[k + 1] _ hG3.out hz2.out hB3.out.size).mono ?_
          rintro e w4 ⟨rfl,hG4,hb4⟩
          rw [← hj.out] at hG4
          replace hG4:=Lib.hid hG4
          have hB4:=Lib.hid (hB3.out.trans hb4)
          clear hb4 hG3 hB3
          go_wp2
          go_roundw
          case rel=>exact ⟨k + 1,by omega,by simp,hG4.out,hB4.out⟩
          case measure=>simp [intOf]; omega
        · have hkk : (lsL ls).take (k + 1) = lsL ls:=List.take_of_length_le (by simp [lsL]; omega)
          rw [hkk] at hG
          clear hkk
          go_wp2_with fail
          refine (Tryz.Builder_String_any w.heap.size w.heap.size _ _ hG.out hB.out.size).mono ?_
          rintro e w3 ⟨rfl,hb3⟩
          have hB3:=Lib.hid (hB.out.trans hb3)
          clear hb3 hG hB
          go_wp2
          go_ret
          exact ⟨rfl,hB3.out⟩
def joinO : List (List UInt8)→List UInt8
  | []=>[]
  | [a]=>a
  | a :: b :: r=>a ++ 32 :: 111 :: 114 :: 32 :: joinO (b :: r)
theorem joinO_snoc : ∀ (l : List (List UInt8)) (x : List UInt8),l ≠ []→joinO (l ++ [x]) = joinO l ++ [32,111,114,32] ++ x
  | [],_,h=>absurd rfl h
  | [a],x,_=>by simp [joinO]
  | a :: b :: r,x,_=>by
    have:=joinO_snoc (b :: r) x (by simp)
    simp only [List.cons_append] at this ⊢
    rw [joinO,this,joinO]
    simp
theorem joinO_len : ∀ l : List (List UInt8),l ≠ []→(joinO l).length = 4 * (l.length - 1) + sumL l
  | [],h=>absurd rfl h
  | [a],_=>by simp [joinO,sumL]
  | a :: b :: r,_=>by
    have:=joinO_len (b :: r) (by simp)
    rw [joinO]
    simp only [List.length_append,List.length_cons,this]
    simp only [sumL,List.map_cons,List.sum_cons]
    omega
theorem joinO_take {ls : List ByteArray} {k : Nat} (h0 : 1≤k) (h : k < ls.length) : joinO ((lsL ls).take (k + 1)) = joinO ((lsL ls).take k) ++ [32,111,114,32] ++ ls[k].data.toList:=by
  have hl : k < (lsL ls).length:=by simpa [lsL] using h
  rw [List.take_succ_eq_append_getElem hl,joinO_snoc _ _ (by
    intro e
    have:=congrArg List.length e
    simp only [List.length_take,List.length_nil] at this
    omega)]
  simp [lsL]
theorem takeO_le (l : List (List UInt8)) (k : Nat) (h0 : 1≤k) (h : k≤l.length) : (joinO (l.take k)).length≤(joinO l).length:=by
  have h1 : l.take k ≠ []:=by
    intro e
    have:=congrArg List.length e
    simp only [List.length_take,List.length_nil] at this
    omega
  have h2 : l ≠ []:=by intro e; subst e; simp at h; omega
  rw [joinO_len _ h1,joinO_len _ h2,List.length_take]
  have:=sum_take_le l k
  omega
set_option maxRecDepth 100000 in
set_option maxHeartbeats 4000000 in
theorem joinO_any (blk off lc : Nat) (ls : List ByteArray) (w : World) (hL : ∀ k (h : k < ls.length),w.cell? ⟨blk,off + k,none⟩ = some (.string ls[k])) (h2 : 2≤ls.length) (hlc : ls.length≤lc) (_hb : blk < w.heap.size) (h20 : ls.length≤20)
    (hsz : (joinO (lsL ls)).length≤140737488355328) :
    Calls Tryz.prog 122 #[.slice (some ⟨blk,off,none⟩) ls.length lc,.string ⟨#[32,111,114,32]⟩] w fun e w'=>e = .returned (.string ⟨(joinO (lsL ls)).toArray⟩)∧Below w.heap.size w w':=by
  have hne : lsL ls ≠ []:=by intro e; have:=congrArg List.length e; simp [lsL] at this; rw [this] at h2; simp at h2
  have hlen : (lsL ls).length = ls.length:=by simp [lsL]
  have htot:=joinO_len (lsL ls) hne
  rw [hlen] at htot
  have hs0 : ∀ k,sumL ((lsL ls).take k)≤sumL (lsL ls):=fun k=>sum_take_le _ _
  replace hL:=Lib.hid hL
  replace hs0:=Lib.hid hs0
  have e0 : ((ls.length : Int) == 0) = false:=by simp; intro e; rw [e] at h2; simp at h2
  have e1 : ((ls.length : Int) == 1) = false:=by simp; omega
  have e2 : (4 : Int) < 9223372036854775807 / ((ls.length : Int) - 1):=by
    have : (5 : Int)≤9223372036854775807 / ((ls.length : Int) - 1):=Int.le_ediv_of_mul_le (by omega) (by omega)
    omega
  clear hne hlen
  go_enter Tryz.func122,Tryz.ntmps122
  go_wp2
  clear e0 e1 e2
  go_loopw [5,41] (fun n i wr=>w = wr∧∃ k t : Nat,k≤ls.length∧i = .int .i64 k∧n = .int .i64 t∧Hid (t = 4 * (ls.length - 1) + sumL ((lsL ls).take k))) (fun _ i _=>ls.length - (intOf i).toNat)
  case atStart=>exact ⟨by first | rfl | trivial,0,4 * (ls.length - 1),by omega,by first | rfl | trivial,by congr 1; omega,show 4 * (ls.length - 1) = 4 * (ls.length - 1) + sumL ((lsL ls).take 0) by simp [sumL]⟩
  case round =>
    obtain ⟨rfl,k,t,hk,rfl,rfl,ht⟩:=hrel
    by_cases hkl : k < ls.length
    · have hc:=hL.out k hkl
      have hst:=sum_take hkl
      have hs1:=hs0.out (k + 1)
      have hb1 : t + ls[k].size≤140737488355328:=by have:=ht.out; omega
      have hn : t + ls[k].size = 4 * (ls.length - 1) + sumL ((lsL ls).take (k + 1)):=by have:=ht.out; omega
      replace hn:=Lib.hid hn
      clear hst hs1 ht htot hsz
      go_wp2
      go_roundw
      case rel=>exact ⟨by first | rfl | trivial,k + 1,t + ls[k].size,by omega,by simp,by simp,hn.out⟩
      case measure=>simp [intOf]; omega
    · have hkk : k = ls.length:=by omega
      subst hkk
      have ht2 : t = (joinO (lsL ls)).length:=by
        have:=ht.out
        rw [htot,this,List.take_of_length_le (by simp [lsL])]
      subst ht2
      clear ht hkl
      have hG0:=Lib.hid (Tryz.Builder_Grow_fresh w.heap.size w.heap.size (joinO (lsL ls)).length (w.alloc (.cells #[.pointer none,.slice none 0 0] 241)) (Nat.le_refl _) (Own.new w _ _) (by simp) (by omega))
      generalize (joinO (lsL ls)).length = T at hG0 ⊢
      go_wp2_with fail
      refine (hG0.out).mono ?_
      rintro e w1 ⟨rfl,hg,hb1⟩
      have hB1:=Lib.hid (show Below w.heap.size w w1 from ((Below.refl _ _).alloc (Nat.le_refl _) _).trans (hb1.mono (Nat.le_refl _)))
      have hG:=Lib.hid (show IsB w.heap.size w.heap.size [] w1 from Or.inr hg)
      clear hG0 hb1 hg
      have hc0:=sub_of_below hB1.out _ _ (hL.out 0 (by omega))
      have hs1 : ls[0].size≤140737488355328:=by have:=hs0.out (0 + 1); have h7:=sum_take (ls:=ls) (k:=0) (by omega); omega
      rw [Nat.add_zero] at hc0
      go_wp2_with fail
      refine (writeString_any w.heap.size w.heap.size [] ls[0] _ hG.out (by simpa using hs1) hB1.out.size).mono ?_
      rintro e w2 ⟨rfl,hG2,hb2⟩
      replace hG2:=Lib.hid hG2
      have hB2:=Lib.hid (hB1.out.trans hb2)
      clear hb2 hB1 hc0 hs1 hG
      have hacc : joinO ((lsL ls).take 1) = [] ++ ls[0].data.toList:=by
        match ls,h2 with
        | a :: b :: r,_=>simp [lsL,joinO]
      rw [← hacc] at hG2
      clear hacc
      replace hsz:=Lib.hid hsz
      replace htot:=Lib.hid htot
      go_wp2
      go_loopw [65] (fun i wr=>∃ k : Nat,k + 1≤ls.length∧i = .int .i64 k∧Hid (IsB w.heap.size w.heap.size (joinO ((lsL ls).take (k + 1))) wr)∧Hid (Below w.heap.size w wr)) (fun i _=>ls.length - (intOf i).toNat)
      case atStart=>exact ⟨0,by omega,rfl,hG2.out,hB2.out⟩
      case round =>
        clear hG2 hB2
        obtain ⟨k,hk,rfl,hG,hB⟩:=hrel
        by_cases hkl : k + 1 < ls.length
        · have hc:=sub_of_below hB.out _ _ (hL.out (k + 1) hkl)
          rw [show off + (k + 1) = off + 1 + k by omega] at hc
          have hj:=joinO_take (ls:=ls) (k:=k + 1) (by omega) hkl
          have hlt:=takeO_le (lsL ls) (k + 1 + 1) (by omega) (by simp [lsL]; omega)
          have hle:=Lib.hid (Nat.le_trans hlt hsz.out)
          rw [hj] at hle
          have hz1:=Lib.hid (show (joinO ((lsL ls).take (k + 1))).length + 4≤140737488355328 by have:=hle.out; simp only [List.length_append,List.length_cons,List.length_nil] at this; omega)
          have hz2:=Lib.hid (show (joinO ((lsL ls).take (k + 1)) ++ [32,111,114,32]).length + ls[k + 1].size≤140737488355328 by have:=hle.out; simp only [List.length_append,Array.length_toList] at this ⊢; exact this)
          replace hj:=Lib.hid hj
          clear hlt hle
          go_wp2_with fail
          refine (writeString_any w.heap.size w.heap.size _ ⟨#[32,111,114,32]⟩ _ hG.out hz1.out hB.out.size).mono ?_
          rintro e w3 ⟨rfl,hG3,hb3⟩
          replace hG3:=Lib.hid hG3
          have hB3:=Lib.hid (hB.out.trans hb3)
          clear hb3 hG hB hc
          go_wp2_with fail
          refine (writeString_any w.heap.size w.heap.size _ ls[k + 1] _ hG3.out hz2.out hB3.out.size).mono ?_
          rintro e w4 ⟨rfl,hG4,hb4⟩
          rw [← hj.out] at hG4
          replace hG4:=Lib.hid hG4
          have hB4:=Lib.hid (hB3.out.trans hb4)
          clear hb4 hG3 hB3
          go_wp2
          go_roundw
          case rel=>exact ⟨k + 1,by omega,by simp,hG4.out,hB4.out⟩
          case measure=>simp [intOf]; omega
        · have hkk : (lsL ls).take (k + 1) = lsL ls:=List.take_of_length_le (by simp [lsL]; omega)
          rw [hkk] at hG
          clear hkk
          go_wp2_with fail
          refine (Tryz.Builder_String_any w.heap.size w.heap.size _ _ hG.out hB.out.size).mono ?_
          rintro e w3 ⟨rfl,hb3⟩
          have hB3:=Lib.hid (hB.out.trans hb3)
          clear hb3 hG hB
          go_wp2
          go_ret
          exact ⟨rfl,hB3.out⟩
end Go.Proofs.YtfffpflflggonaaGreatDoor.src
namespace Go.Proofs.YtfffpflflggonaaGreatDoor.src
open Go.RowKit lex value text schema draw clause
set_option maxHeartbeats 4000000 in
theorem join1_any (sep s : ByteArray) (blk off lc : Nat) (w : World) (hc : w.cell? ⟨blk,off,none⟩ = some (.string s)) (_hb : blk < w.heap.size) :
    Calls Tryz.prog 122 #[.slice (some ⟨blk,off,none⟩) 1 lc,.string sep] w fun e w'=>e = .returned (.string s)∧w = w':=by
  go_enter Tryz.func122,Tryz.ntmps122
  go_wp2
  go_ret
  exact ⟨rfl,rfl⟩
theorem strs_at {M : Mem} {ds : List ByteArray} {va : Option Addr} {n c : Nat} (h : RowsAt M 1 (.slice va n c) (ds.map strRow)) (h1 : 1≤ds.length) : n = ds.length∧n≤c∧∃ blk off,va = some ⟨blk,off,none⟩∧∀ k (hk : k < ds.length),M ⟨blk,off + k,none⟩ = some (.string ds[k]):=by
  obtain ⟨a0,c0,e1,h2,h3,h4⟩:=h
  injection e1 with e1 e2 e3
  subst e1; subst e3
  rw [List.length_map] at e2 h2
  refine ⟨e2,by rw [e2]; exact h2,?_⟩
  rcases h4 with he | ⟨blk,off,rfl,hc⟩
  · have:=congrArg List.length he
    rw [List.length_map] at this
    simp only [List.length_nil] at this
    omega
  · refine ⟨blk,off,rfl,fun k hk=>?_⟩
    have:=hc k (strRow ds[k]) (by simp [hk]) 0 (.string ds[k]) rfl
    rw [Nat.mul_one,Nat.add_zero] at this
    exact this
theorem joinC_of (ds : List ByteArray) (va : Option Addr) (n c : Nat) (w : World) (h : RowsAt w.cell? 1 (.slice va n c) (ds.map strRow)) (h1 : 1≤ds.length) (h20 : ds.length≤20) (hsz : (joinC (lsL ds)).length≤140737488355328) :
    Calls Tryz.prog 122 #[.slice va n c,.string ⟨#[44,32]⟩] w fun e w'=>e = .returned (.string ⟨(joinC (lsL ds)).toArray⟩)∧Below w.heap.size w w':=by
  obtain ⟨rfl,hc,blk,off,rfl,hL⟩:=strs_at h h1
  have hb : blk < w.heap.size:=World.block_lt_of_cell? w _ (hL 0 (by omega))
  by_cases h2 : 2≤ds.length
  · exact value.join_any blk off c ds w hL h2 hc hb h20 hsz
  · obtain ⟨s,rfl⟩ : ∃ s,ds = [s]:=by
      match ds,h1,h2 with
      | [s],_,_=>exact ⟨s,rfl⟩
      | _ :: _ :: _,_,h2=>exact absurd (by simp) h2
    refine (join1_any ⟨#[44,32]⟩ s blk off c w (hL 0 (by simp)) hb).mono ?_
    rintro e w' ⟨rfl,rfl⟩
    exact ⟨by rw [show joinC (lsL [s]) = s.data.toList from rfl,to_str rfl],Below.refl _ _⟩
theorem fmt_any (d : VD) (w : World) (h : LAt w.cell? d) (hT : Tabs w) (hc : checkS (vv d) = 0) :
    Calls Tryz.prog 123 #[.agg #[.int .i64 d.kind,.int .i64 d.num,.string d.text,.slice d.ptr d.len d.cap]] w fun e w'=>e = .returned (.tuple #[.string ⟨(value.formS (vv d)).toArray⟩,.int .i64 0])∧Below w.heap.size w w':=by
  have hn:=srl_len h
  have hf:=h.few
  rw [hn]
  have:=format_any (vv d) d.text d.ptr d.cap d.ls w ⟨rfl,lin_rows h.rows,rfl⟩ (by omega) h.text hT
  unfold formR at this
  rw [if_pos hc] at this
  exact this
set_option maxHeartbeats 4000000 in
theorem format_src (d : VD) (w : World) (h : LAt w.cell? d) (hT : Tabs w) (hc : checkS (vv d) = 0) :
    Calls Tryz.prog 62 #[.agg #[.int .i64 d.kind,.int .i64 d.num,.string d.text,.slice d.ptr d.len d.cap]] w fun e w'=>e = .returned (.string ⟨(value.formS (vv d)).toArray⟩)∧Below w.heap.size w w':=by
  have hb:=(Below.refl w.heap.size w).alloc (Nat.le_refl _) (.cells #[.int .i64 d.kind,.int .i64 d.num,.string d.text,.slice d.ptr d.len d.cap] 76)
  have hx:=Own.new w #[.int .i64 d.kind,.int .i64 d.num,.string d.text,.slice d.ptr d.len d.cap] 76
  have hgo:=Lib.hid (fmt_any d _ (h.mono (sub_of_below hb)) (hT.below hb) hc)
  replace hb:=Lib.hid hb
  have x0:=hx.cell 0
  have x1:=hx.cell 1
  have x2:=hx.cell 2
  have x3:=hx.cell 3
  simp at x0 x1 x2 x3
  clear hx h hT
  go_enter Tryz.func62,Tryz.ntmps62
  go_wp2_with fail
  refine hgo.out.mono ?_
  rintro e w' ⟨rfl,hb2⟩
  have hB:=Lib.hid (hb.out.trans (hb2.mono hb.out.size))
  clear hb2
  go_wp2
  go_ret
  exact ⟨rfl,hB.out⟩
end Go.Proofs.YtfffpflflggonaaGreatDoor.src
namespace Go.Proofs.YtfffpflflggonaaGreatDoor.src
open Go.RowKit lex value text schema draw clause
theorem lsL_take {F : List (List UInt8)} {ds : List ByteArray} {k : Nat} (hk : k < F.length) (h : lsL ds = F.take k) {x : ByteArray} (hx : x.data.toList = F[k]) : lsL (ds ++ [x]) = F.take (k + 1):=by
  rw [List.take_succ_eq_append_getElem hk,← h,← hx]
  simp [lsL]
theorem lsL_len {F : List (List UInt8)} {ds : List ByteArray} {k : Nat} (hk : k≤F.length) (h : lsL ds = F.take k) : ds.length = k:=by
  have:=congrArg List.length h
  rw [List.length_take,Nat.min_eq_left hk] at this
  simpa [lsL] using this
set_option maxRecDepth 100000 in
set_option maxHeartbeats 8000000 in
theorem joinV_any (m : Mem) (l : List VD) (va : Option Addr) (vn vc : Nat) (hv : RowsAt m 4 (.slice va vn vc) (l.map VD.row)) (hL : ∀ v∈l,LAt m v) (h0 : valsE (l.map vv) = 0) (h1 : 1≤l.length) (h20 : l.length≤20)
    (hlen : (joinC ((l.map vv).map value.formS)).length≤1000000000) (w : World) (hs : Sub m w.cell?) (hT : Tabs w) :
    Calls Tryz.prog 61 #[.slice va vn vc,.string ⟨#[44,32]⟩,.func (.func 62) #[] #[]] w fun e w'=>e = .returned (.string ⟨(joinC ((l.map vv).map value.formS)).toArray⟩)∧Below w.heap.size w w':=by
  have hn:=(len_of hv).1
  have hn2:=(len_of hv).2
  rw [List.length_map] at hn
  subst hn
  obtain ⟨F,hF⟩ : ∃ F,Hid (F = (l.map vv).map value.formS):=⟨_,Lib.hid rfl⟩
  rw [← hF.out] at hlen ⊢
  have hFl : F.length = l.length:=by rw [hF.out]; simp
  have hFk : ∀ k (h : k < l.length) (h' : k < F.length),F[k] = value.formS (vv l[k]):=by
    intro k h h'
    have e:=hF.out
    subst e
    simp
  replace hFk:=Lib.hid hFk
  replace hFl:=Lib.hid hFl
  replace hv:=Lib.hid hv
  replace hL:=Lib.hid hL
  replace h0:=Lib.hid h0
  replace hlen:=Lib.hid hlen
  replace hT:=Lib.hid hT
  replace hs:=Lib.hid hs
  go_enter Tryz.func61,Tryz.ntmps61
  go_wp2
  go_loopw [7,12] (fun v7 i wr=>∃ (k : Nat) (ds : List ByteArray),k≤l.length∧i = .int .i64 k∧Hid (lsL ds = F.take k)∧Hid (RO 9 1 w.heap.size v7 (ds.map strRow) wr)∧Hid (Below w.heap.size w wr)) (fun _ i _=>l.length - (intOf i).toNat)
  case atStart=>exact ⟨0,[],Nat.zero_le _,rfl,rfl,ro_nil _ _ _ _,Below.refl _ _⟩
  case round =>
    obtain ⟨k,ds,hk,rfl,hD,hR,hB⟩:=hrel
    obtain ⟨pa,pc,hp⟩:=ro_form hR.out (strRows_len ds)
    rw [List.length_map] at hp
    subst hp
    have hdk:=lsL_len (F:=F) (k:=k) (by rw [hFl.out]; exact hk) hD.out
    by_cases hlt : k < l.length
    case neg =>
      have hDF:=Lib.hid (show lsL ds = F by rw [hD.out,List.take_of_length_le (by rw [hFl.out]; omega)])
      have hgo:=Lib.hid (joinC_of ds pa ds.length pc wr (hR.out.rows (strRows_len ds)) (by omega) (by omega) (by rw [hDF.out]; have:=hlen.out; omega))
      rw [hDF.out] at hgo
      have n1 : ¬ (k : Int) < (l.length : Int):=by omega
      clear hdk
      go_wp2_with fail
      refine hgo.out.mono ?_
      rintro e w2 ⟨rfl,hb⟩
      have hB2:=Lib.hid (hB.out.trans (hb.mono hB.out.size))
      clear hb
      go_wp2
      go_ret
      exact ⟨rfl,hB2.out⟩
    have hdl : ds.length≤20:=by omega
    have hm:=Lib.hid (hs.out.trans (sub_of_below hB.out))
    obtain ⟨a0,c0,e1,-,-,h4⟩:=hv.out
    injection e1 with e1 e2 e3
    subst e1; subst e3; clear e2
    rcases h4 with he | ⟨blk,off,rfl,hc⟩
    · have : l = []:=by simpa using he
      rw [this] at hlt; exact absurd hlt (by simp)
    obtain ⟨c0,c1,c2,c3⟩:=vd_cells hc hlt
    clear hc
    have c0:=hm.out _ _ c0
    have c1:=hm.out _ _ c1
    have c2:=hm.out _ _ c2
    have c3:=hm.out _ _ c3
    have hLv:=Lib.hid ((hL.out l[k] (List.getElem_mem hlt)).mono hm.out)
    have hck:=Lib.hid (vals_each h0.out (vv l[k]) (List.mem_map_of_mem (List.getElem_mem hlt)))
    have hkF : k < F.length:=by rw [hFl.out]; exact hlt
    have hfk:=Lib.hid (hFk.out k hlt hkF)
    generalize l[k] = v at c0 c1 c2 c3 hLv hck hfk
    obtain ⟨v1,v2,v3,v4,v5,v6,v7⟩:=v
    simp only at c0 c1 c2 c3
    have n0 : (0 : Int)≤(k : Int):=by omega
    have n1 : (k : Int) < (l.length : Int):=by omega
    have hbl : blk < wr.heap.size:=World.block_lt_of_cell? wr _ c0
    have hbx:=(Below.refl wr.heap.size wr).alloc (Nat.le_refl _) (.cells #[.int .i64 v1,.int .i64 v2,.string v3,.slice v4 v5 v6] 76)
    have hx:=Lib.hid (Own.new wr #[.int .i64 v1,.int .i64 v2,.string v3,.slice v4 v5 v6] 76)
    have hBx:=Lib.hid (hB.out.trans (hbx.mono hB.out.size))
    have hRx:=Lib.hid (hR.out.below hbx)
    have hLx:=Lib.hid (hLv.out.mono (sub_of_below hbx))
    clear hbx hdk hB hR hLv hm
    go_upto_region 5 with fail
    generalize wr.alloc (.cells #[.int .i64 v1,.int .i64 v2,.string v3,.slice v4 v5 v6] 76) = w2 at hx hBx hRx hLx ⊢
    obtain ⟨xb,hxb⟩ : ∃ z : Nat,Hid (z = wr.heap.size):=⟨_,Lib.hid rfl⟩
    rw [← hxb.out] at hx ⊢
    clear c0 c1 c2 c3 hbl
    have x0:=hx.out.cell 0
    have x1:=hx.out.cell 1
    have x2:=hx.out.cell 2
    have x3:=hx.out.cell 3
    simp at x0 x1 x2 x3
    have hxl:=hx.out.lt
    go_wp2_with fail
    refine (format_src ⟨v1,v2,v3,v4,v5,v6,v7⟩ w2 hLx.out (hT.out.below hBx.out) hck.out).mono ?_
    rintro e w3 ⟨rfl,hb⟩
    obtain ⟨x',hx'⟩ : ∃ z : ByteArray,Hid (z = ⟨(value.formS (vv ⟨v1,v2,v3,v4,v5,v6,v7⟩)).toArray⟩):=⟨_,Lib.hid rfl⟩
    rw [← hx'.out]
    have hB3:=hBx.out.trans (hb.mono hBx.out.size)
    have hbs:=(Below.refl w3.heap.size w3).alloc (Nat.le_refl _) (.cells #[.string x'] 9)
    have hz3 : w.heap.size≤w3.heap.size:=hB3.size
    have hR3:=Lib.hid ((hRx.out.below hb).below hbs)
    have hB4:=Lib.hid (hB3.trans (hbs.mono hz3))
    have hrow:=Lib.hid (lit_rows (sz:=1) (w:=w3.alloc (.cells #[.string x'] 9)) (g:=w3.heap.size) (cs:=[.string x']) (fun j=>by rw [(Own.new w3 #[.string x'] 9).cell j]; simp))
    have hD4:=Lib.hid (lsL_take hkF hD.out (x:=x') (by rw [hx'.out,hfk.out]))
    clear hb hbs hB3 x0 x1 x2 x3 hx hxl hBx hRx hLx hD
    go_wp2_with (at_builtin; refine wpList_append_str rfl _ _ rfl w.heap.size pa ds.length pc (ds.map strRow) rfl hR3.out (strRows_len ds) (by rw [List.length_map]) _ 1 1 [[.string x']] rfl hrow.out (by simp) (strRow_one x') (by omega) (by simp; omega) ?_; intro va' vc' w5 hR5 hn5 hg5 hat5; replace hR5:=Lib.hid hR5; replace hg5:=Lib.hid hg5; clear hn5 hat5)
    have hB5:=Lib.hid (hB4.out.trans (hR3.out.below_own hB4.out.size hg5.out))
    go_roundw
    case rel=>exact ⟨k + 1,ds ++ [x'],by omega,by go_num,hD4.out,by rw [List.map_append]; exact hR5,hB5.out⟩
    case measure=>simp [intOf]; omega
end Go.Proofs.YtfffpflflggonaaGreatDoor.src
