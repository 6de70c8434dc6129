/- Which values are valid, or the first error: the program's Check and the reference's. The token at the beginning of a text, case by case. No walk here. -/
import Derived.Test.YtfffpflflggonaaGreatDoorKValD
import Derived.Test.YtfffpflflggonaaGreatDoorKValA
import Derived.Deep.QuietTactic
import Derived.BigQuiet
import Derived.IntWalk
import Derived.WalkSmall
import Derived.Test.YtfffpflflggonaaGreatDoorKS6
namespace Go.Proofs.YtfffpflflggonaaGreatDoor.value
open Go.RowKit text
theorem bel_drew {B : Nat} {a w : World} (h : Below B a w) (n : Nat) : Below B a (w.drewN n):=h.trans ⟨rfl,rfl,rfl,Nat.le_refl _,fun _ _=>rfl⟩
theorem ret_i {a b : Int} (h : a = b) : Ending.returned (.int .i64 b) = .returned (.int .i64 a):=by rw [h]
theorem c_kind {v : VV} (h : v.k < 1∨5 < v.k) : checkS v = 7:=by unfold checkS; rw [if_pos h]
theorem c_shape {v : VV} (h : ¬ (v.k < 1∨5 < v.k)) (h2 : shapeS v = false) : checkS v = 15:=by unfold checkS; rw [if_neg h,if_pos h2]
theorem c_1 {v : VV} (h2 : shapeS v = true) (hk : v.k = 1) : checkS v = if v.n ≠ 0∧v.n ≠ 1 then 3 else 0:=by unfold checkS; simp [h2,hk]
theorem c_2 {v : VV} (h2 : shapeS v = true) (hk : v.k = 2) : checkS v = if v.n < -1099511627776∨1099511627776 < v.n then 3 else 0:=by unfold checkS; simp [h2,hk]
theorem c_3 {v : VV} (h2 : shapeS v = true) (hk : v.k = 3) : checkS v = if validS v.t then 0 else 2:=by unfold checkS; simp [h2,hk]
theorem c_4 {v : VV} (h2 : shapeS v = true) (hk : v.k = 4) : checkS v = if (verS v.t).isSome then 0 else 1:=by unfold checkS; simp [h2,hk]
theorem c_5 {v : VV} (h2 : shapeS v = true) (hk : v.k = 5) : checkS v = listS v.l:=by unfold checkS; simp [h2,hk]
theorem l_long {l : List (List UInt8)} (h : 20 < l.length) : listS l = 5:=by unfold listS; rw [if_pos h]
theorem l_bad {l : List (List UInt8)} (h : ¬ 20 < l.length) (h2 : l.all validS = false) : listS l = 2:=by unfold listS; rw [if_neg h,if_pos h2]
theorem l_order {l : List (List UInt8)} (h : ¬ 20 < l.length) (h2 : l.all validS = true) (h3 : ascL l = false) : listS l = 9:=by unfold listS; rw [if_neg h,if_neg (by simp [h2]),if_pos h3]
theorem l_ok {l : List (List UInt8)} (h : ¬ 20 < l.length) (h2 : l.all validS = true) (h3 : ascL l = true) : listS l = 0:=by unfold listS; rw [if_neg h,if_neg (by simp [h2]),if_neg (by simp [h3])]
def lsL (ls : List ByteArray) : List (List UInt8):=ls.map (·.data.toList)
theorem all_step {ls : List ByteArray} {k : Nat} (h : k < ls.length) (hv : validS ls[k].data.toList = true) (T : ((lsL ls).drop k).all validS = (lsL ls).all validS) : ((lsL ls).drop (k + 1)).all validS = (lsL ls).all validS:=by
  have hl : k < (lsL ls).length:=by simpa [lsL] using h
  have e : (lsL ls)[k] = ls[k].data.toList:=by simp [lsL]
  rw [← T,List.drop_eq_getElem_cons hl,List.all_cons,e,hv]
  rfl
theorem all_stop {ls : List ByteArray} {k : Nat} (h : k < ls.length) (hv : validS ls[k].data.toList = false) (T : ((lsL ls).drop k).all validS = (lsL ls).all validS) : (lsL ls).all validS = false:=by
  have hl : k < (lsL ls).length:=by simpa [lsL] using h
  have e : (lsL ls)[k] = ls[k].data.toList:=by simp [lsL]
  rw [← T,List.drop_eq_getElem_cons hl,List.all_cons,e,hv]
  rfl
theorem all_done {ls : List ByteArray} {k : Nat} (h : ¬ k < ls.length) (T : ((lsL ls).drop k).all validS = (lsL ls).all validS) : (lsL ls).all validS = true:=by
  rw [← T,List.drop_eq_nil_of_le (by simp [lsL]; omega)]
  rfl
theorem asc_at {ls : List ByteArray} {k : Nat} (h : k + 1 < ls.length) : ascL ((lsL ls).drop k) = (Op.bytesLess ls[k].data.toList ls[k + 1].data.toList && ascL ((lsL ls).drop (k + 1))):=by
  have hl : k < (lsL ls).length:=by simp [lsL]; omega
  have hl2 : k + 1 < (lsL ls).length:=by simpa [lsL] using h
  have e : (lsL ls)[k] = ls[k].data.toList:=by simp [lsL]
  have e2 : (lsL ls)[k + 1] = ls[k + 1].data.toList:=by simp [lsL]
  rw [List.drop_eq_getElem_cons hl,List.drop_eq_getElem_cons hl2,ascL,e,e2]
theorem asc_done {ls : List ByteArray} {k : Nat} (h : ¬ k + 1 < ls.length) : ascL ((lsL ls).drop k) = true:=by
  have hl : ((lsL ls).drop k).length≤1:=by simp [lsL]; omega
  match h9 : (lsL ls).drop k,hl with
  | [],_=>rfl
  | [_],_=>rfl
  | _ :: _ :: _,h=>simp at h
theorem str_cell {m : Mem} {l : List ByteArray} {blk off : Nat} (hr : ∀ i r,(l.map fun s=>[Value.string s])[i]? = some r→∀ j x,r[j]? = some x→m ⟨blk,off + i * 1 + j,none⟩ = some x) {k : Nat} (hk : k < l.length) :
    m ⟨blk,off + k,none⟩ = some (.string l[k]):=by
  have:=hr k [Value.string l[k]] (by simp [hk]) 0 (.string l[k]) rfl
  simpa using this
def LIn (w : World) (la : Option Addr) (ls : List ByteArray) : Prop:=ls = []∨∃ blk off,la = some ⟨blk,off,none⟩∧∀ k (h : k < ls.length),w.cell? ⟨blk,off + k,none⟩ = some (.string ls[k])
theorem lin_of {w : World} {la : Option Addr} {lc : Nat} {ls : List ByteArray} (h : RowsAt w.cell? 1 (.slice la ls.length lc) (ls.map fun s=>[Value.string s])) : LIn w la ls:=by
  obtain ⟨a,c,h1,h2,h3,h4⟩:=h
  injection h1 with h1 _ _
  subst h1
  rcases h4 with h4 | ⟨blk,off,h5,h6⟩
  · exact Or.inl (by simpa using h4)
  · exact Or.inr ⟨blk,off,h5,fun k hk=>str_cell h6 hk⟩
theorem LIn.below {w w' : World} {la : Option Addr} {ls : List ByteArray} (h : LIn w la ls) (hb : Below w.heap.size w w') : LIn w' la ls:=by
  rcases h with h | ⟨blk,off,h1,h2⟩
  · exact Or.inl h
  · exact Or.inr ⟨blk,off,h1,fun k hk=>sub_of_below hb _ _ (h2 k hk)⟩
set_option maxHeartbeats 2000000 in
theorem list_ref (la : Option Addr) (lc : Nat) (ls : List ByteArray) (w : World) (hL : LIn w la ls) (hT : Tabs w) :
    Calls Tryz.prog 268 #[.slice la ls.length lc] w fun e w'=>e = .returned (.int .i64 (listS (lsL ls)))∧Below w.heap.size w w':=by
  replace hT:=Lib.hid hT
  go_enter Tryz.func268,Tryz.ntmps268
  have hll : (lsL ls).length = ls.length:=by simp [lsL]
  by_cases hlong : 20 < ls.length
  · have hQ:=Lib.hid (l_long (l:=lsL ls) (by omega))
    clear hll
    go_wp2
    go_ret
    exact ⟨ret_i hQ.out,Below.refl _ _⟩
  have hs : ¬ 20 < (lsL ls).length:=by omega
  replace hs:=Lib.hid hs
  clear hll
  replace hL:=Lib.hid hL
  go_wp2
  go_loopw [3] (fun i wr=>∃ k : Nat,k≤ls.length∧i = .int .i64 k∧Hid (((lsL ls).drop k).all validS = (lsL ls).all validS)∧Hid (Below w.heap.size w wr)) (fun i _=>ls.length - (intOf i).toNat)
  case atStart=>exact ⟨0,Nat.zero_le _,rfl,rfl,Below.refl _ _⟩
  case round =>
    obtain ⟨k,hk,rfl,hA,hb⟩:=hrel
    by_cases hlt : k < ls.length
    · rcases hL.out with h0 | ⟨blk,off,rfl,hc⟩
      · rw [h0] at hlt; simp at hlt
      have hcell:=sub_of_below hb.out _ _ (hc k hlt)
      clear hc
      cases hv : validS ls[k].data.toList with
      | false =>
        have hQ:=Lib.hid (l_bad hs.out (all_stop hlt hv hA.out))
        go_wp2_with fail
        refine (valid_ref ls[k] _ (hT.out.below hb.out).runes).mono ?_
        rintro e w2 ⟨rfl,hb2⟩
        rw [hv]
        clear hv
        replace hb2:=Lib.hid (hb.out.trans (hb2.mono hb.out.size))
        go_wp2
        go_ret
        exact ⟨ret_i hQ.out,hb2.out⟩
      | true =>
        have hA2:=Lib.hid (all_step hlt hv hA.out)
        go_wp2_with fail
        refine (valid_ref ls[k] _ (hT.out.below hb.out).runes).mono ?_
        rintro e w2 ⟨rfl,hb2⟩
        rw [hv]
        clear hv
        replace hb2:=Lib.hid (hb.out.trans (hb2.mono hb.out.size))
        go_wp2
        go_roundw
        case rel=>exact ⟨k + 1,by omega,by go_num,hA2.out,hb2.out⟩
        case measure=>simp [intOf]; omega
    · have hV:=Lib.hid (all_done hlt hA.out)
      clear hA
      obtain ⟨wo,rfl⟩ : ∃ wo : World,wo = wr:=⟨_,rfl⟩
      go_wp2
      go_loopw [4] (fun i wx=>∃ j : Nat,(j≤ls.length∨j = 1)∧1≤j∧i = .int .i64 j∧Hid (ascL ((lsL ls).drop (j - 1)) = ascL (lsL ls))∧Hid (Below w.heap.size w wx)) (fun i _=>ls.length - (intOf i).toNat)
      case atStart=>exact ⟨1,Or.inr rfl,Nat.le_refl _,rfl,rfl,hb.out⟩
      case round =>
        obtain ⟨j,hj,hj1,rfl,hAs,hb3⟩:=hrel
        by_cases hlj : j < ls.length
        · obtain ⟨i,rfl⟩ : ∃ i,j = i + 1:=⟨j - 1,by omega⟩
          rcases hL.out with h0 | ⟨blk,off,rfl,hc⟩
          · rw [h0] at hlj; simp at hlj
          have c1:=sub_of_below hb3.out _ _ (hc (i + 1) hlj)
          have c0:=sub_of_below hb3.out _ _ (hc i (by omega))
          clear hc
          have n0 : (0 : Int)≤((i + 1 : Nat) : Int):=Int.natCast_nonneg _
          have n1 : ((i + 1 : Nat) : Int) < (ls.length : Int):=by omega
          have n2 : IntKind.i64.wrap (((i + 1 : Nat) : Int) - 1) = (i : Int):=by rw [IntWalk.i64_in _ (by omega)]; omega
          have n3 : (0 : Int)≤(i : Int):=Int.natCast_nonneg _
          have n4 : (i : Int) < (ls.length : Int):=by omega
          have hAt:=Lib.hid (asc_at (ls:=ls) (k:=i) hlj)
          have hAs':=Lib.hid (show ascL ((lsL ls).drop i) = ascL (lsL ls) from hAs.out)
          clear hAs
          have htri:=Lib.hid (less_tri ls[i].data.toList ls[i + 1].data.toList)
          cases hless : Op.bytesLess ls[i].data.toList ls[i + 1].data.toList with
          | true =>
            have hN:=Lib.hid (show ascL ((lsL ls).drop (i + 1)) = ascL (lsL ls) by rw [← hAs'.out,hAt.out,hless]; rfl)
            have hb1 : (Op.bytesLess ls[i + 1].toList ls[i].toList || ls[i + 1].toList == ls[i].toList) = false:=by
              rw [ByteArray.toList_eq,ByteArray.toList_eq]
              have:=htri.out
              rw [hless] at this
              cases hx : (Op.bytesLess ls[i + 1].data.toList ls[i].data.toList || ls[i + 1].data.toList == ls[i].data.toList) with
              | false=>rfl
              | true=>rw [hx] at this; cases this
            clear hless
            go_wp2_with fail
            go_quiet (fail)
            go_wp2
            go_roundw
            case rel=>exact ⟨i + 2,by omega,by omega,by go_num,hN.out,bel_drew hb3.out _⟩
            case measure=>simp [intOf]; omega
          | false =>
            have hQ:=Lib.hid (l_order hs.out hV.out (by rw [← hAs'.out,hAt.out,hless]; rfl))
            have hb1 : (Op.bytesLess ls[i + 1].toList ls[i].toList || ls[i + 1].toList == ls[i].toList) = true:=by
              rw [ByteArray.toList_eq,ByteArray.toList_eq]
              have:=htri.out
              rw [hless] at this
              cases hx : (Op.bytesLess ls[i + 1].data.toList ls[i].data.toList || ls[i + 1].data.toList == ls[i].data.toList) with
              | true=>rfl
              | false=>rw [hx] at this; cases this
            clear hless
            go_wp2_with fail
            go_quiet (fail)
            go_wp2
            go_ret
            exact ⟨ret_i hQ.out,bel_drew hb3.out _⟩
        · have hQ:=Lib.hid (l_ok hs.out hV.out (by rw [← hAs.out]; exact asc_done (by omega)))
          go_wp2
          go_ret
          exact ⟨ret_i hQ.out,hb3.out⟩
structure VOk (w : World) (v : VV) (t : ByteArray) (la : Option Addr) (ls : List ByteArray) : Prop where
  text : t.data.toList = v.t
  rows : LIn w la ls
  list : lsL ls = v.l
theorem VIn.ok {w : World} {v : VV} {t : ByteArray} {la : Option Addr} {lc : Nat} {ls : List ByteArray} (h : VIn w.cell? v t la lc ls) : VOk w v t la ls:=⟨h.text,lin_of h.rows,h.list⟩
theorem VOk.below {w w' : World} {v : VV} {t : ByteArray} {la : Option Addr} {ls : List ByteArray} (h : VOk w v t la ls) (hb : Below w.heap.size w w') : VOk w' v t la ls:=⟨h.text,h.rows.below hb,h.list⟩
theorem VOk.shape {w : World} {v : VV} {t : ByteArray} {la : Option Addr} {ls : List ByteArray} (h : VOk w v t la ls) : shapeB v.k v.n t ls.length = shapeS v:=by
  have e : decide (ls.length = 0) = v.l.isEmpty:=by
    rw [← h.list]
    cases ls <;> rfl
  unfold shapeB shapeS
  rw [h.text,e]
theorem box4 {w : World} {n : Nat} {x0 x1 x2 x3 : Value} {t : TypeId} (h : Own w n #[x0,x1,x2,x3] t) :
    w.cell? ⟨n,0,none⟩ = some x0∧w.cell? ⟨n,1,none⟩ = some x1∧w.cell? ⟨n,2,none⟩ = some x2∧w.cell? ⟨n,3,none⟩ = some x3:=⟨h.cell 0,h.cell 1,h.cell 2,h.cell 3⟩
set_option maxRecDepth 100000 in
set_option maxHeartbeats 4000000 in
theorem check_ref (v : VV) (t : ByteArray) (la : Option Addr) (lc : Nat) (ls : List ByteArray) (w : World) (hV : VOk w v t la ls) (ht : t.size≤140737488355328) (hT : Tabs w) :
    Calls Tryz.prog 191 #[.agg #[.int .i64 v.k,.int .i64 v.n,.string t,.slice la ls.length lc]] w fun e w'=>e = .returned (.int .i64 (checkS v))∧Below w.heap.size w w':=by
  have hs1:=hV.shape
  replace hT:=Lib.hid hT
  replace hV:=Lib.hid hV
  have hO:=Lib.hid (Own.new w #[.int .i64 v.k,.int .i64 v.n,.string t,.slice la ls.length lc] 76)
  have hB:=Lib.hid (show Below w.heap.size w (w.alloc (.cells #[.int .i64 v.k,.int .i64 v.n,.string t,.slice la ls.length lc] 76)) from (Below.refl _ _).alloc (Nat.le_refl _) _)
  go_enter Tryz.func191,Tryz.ntmps191
  by_cases hk : v.k < 1∨5 < v.k
  · have hQ:=Lib.hid (c_kind hk)
    clear hs1
    rcases hk with hk | hk
    all_goals
      go_wp2
      go_ret
      exact ⟨ret_i hQ.out,hB.out⟩
  have hk1 : 1≤v.k:=by omega
  have hk5 : v.k≤5:=by omega
  go_wp2_with fail
  refine (shape_ref v.k v.n t la ls.length lc _ hk1 hk5).mono ?_
  rintro e w1 ⟨rfl,hb1⟩
  obtain ⟨c0,c1,c2,c3⟩:=box4 (hO.out.below hb1 (by simp))
  have hT1:=Lib.hid ((hT.out.below hB.out).below hb1)
  have hV1:=Lib.hid ((hV.out.below hB.out).below hb1)
  have hB1:=Lib.hid (hB.out.trans (hb1.mono hB.out.size))
  rw [hs1]
  clear hb1 hO hs1 hB hT hV
  cases hsh : shapeS v with
  | false =>
    have hQ:=Lib.hid (c_shape hk hsh)
    clear hsh
    go_wp2
    go_ret
    exact ⟨ret_i hQ.out,hB1.out⟩
  | true =>
    rcases (show v.k = 1∨v.k = 2∨v.k = 3∨v.k = 4∨v.k = 5 by omega) with h | h | h | h | h
    · have hQ:=Lib.hid (c_1 hsh h)
      clear hsh
      rw [h] at c0
      clear h hk
      by_cases hn : v.n ≠ 0∧v.n ≠ 1
      · rw [if_pos hn] at hQ
        obtain ⟨hn0,hn1⟩:=hn
        have e0 : (v.n != 0) = true:=by simp [hn0]
        have e1 : (v.n != 1) = true:=by simp [hn1]
        go_wp2
        go_ret
        exact ⟨ret_i hQ.out,hB1.out⟩
      · rw [if_neg hn] at hQ
        have hn : (v.n != 0) = false∨((v.n != 0) = true∧(v.n != 1) = false):=by
          by_cases h0 : v.n = 0
          · exact Or.inl (by simp [h0])
          · by_cases h1 : v.n = 1
            · exact Or.inr ⟨by simp [h0],by simp [h1]⟩
            · exact absurd ⟨h0,h1⟩ hn
        rcases hn with e0 | ⟨e0,e1⟩
        all_goals
          go_wp2
          go_ret
          exact ⟨ret_i hQ.out,hB1.out⟩
    · have hQ:=Lib.hid (c_2 hsh h)
      clear hsh
      rw [h] at c0
      clear h hk
      by_cases hn : v.n < -1099511627776∨1099511627776 < v.n
      · rw [if_pos hn] at hQ
        rcases hn with hn | hn
        all_goals
          go_wp2
          go_ret
          exact ⟨ret_i hQ.out,hB1.out⟩
      · rw [if_neg hn] at hQ
        go_wp2
        go_ret
        exact ⟨ret_i hQ.out,hB1.out⟩
    · have hQ:=Lib.hid (c_3 hsh h)
      clear hsh
      rw [h] at c0
      clear h hk
      go_wp2_with fail
      refine (valid_ref t _ hT1.out.runes).mono ?_
      rintro e w2 ⟨rfl,hb2⟩
      rw [hV1.out.text]
      replace hb2:=Lib.hid (hB1.out.trans (hb2.mono hB1.out.size))
      cases hv : validS v.t with
      | false =>
        rw [hv] at hQ
        clear hv
        go_wp2
        go_ret
        exact ⟨ret_i hQ.out,hb2.out⟩
      | true =>
        rw [hv] at hQ
        clear hv
        go_wp2
        go_ret
        exact ⟨ret_i hQ.out,hb2.out⟩
    · have hQ:=Lib.hid (c_4 hsh h)
      clear hsh
      rw [h] at c0
      clear h hk
      go_wp2_with fail
      refine (parts_ref t _ ht).mono ?_
      rintro e w2 ⟨rfl,hb2⟩
      rw [hV1.out.text]
      have hz2:=hb2.size
      replace hb2:=Lib.hid (hB1.out.trans (hb2.mono hB1.out.size))
      have hz3:=hb2.out.size
      cases hv : verS v.t with
      | none =>
        rw [hv] at hQ
        rw [show verV v.t = .tuple #[.agg #[.int .i64 0,.int .i64 0,.int .i64 0],.bool false] by rw [verV,hv]]
        clear hv
        go_wp2
        go_ret
        exact ⟨ret_i hQ.out,(hb2.out.alloc hz3 _)⟩
      | some x =>
        obtain ⟨x,y,z⟩:=x
        rw [hv] at hQ
        rw [show verV v.t = .tuple #[.agg #[.int .i64 x,.int .i64 y,.int .i64 z],.bool true] by rw [verV,hv]]
        clear hv
        go_wp2
        go_ret
        exact ⟨ret_i hQ.out,(hb2.out.alloc hz3 _)⟩
    · have hQ:=Lib.hid (c_5 hsh h)
      clear hsh
      rw [h] at c0
      clear h hk
      go_wp2_with fail
      refine (list_ref la lc ls _ hV1.out.rows hT1.out).mono ?_
      rintro e w2 ⟨rfl,hb2⟩
      rw [hV1.out.list]
      replace hb2:=Lib.hid (hB1.out.trans (hb2.mono hB1.out.size))
      go_wp2
      go_ret
      exact ⟨ret_i hQ.out,hb2.out⟩
end Go.Proofs.YtfffpflflggonaaGreatDoor.value
namespace Go.Proofs.YtfffpflflggonaaGreatDoor.lex
open Go.RowKit text value
def NextIs (l : List UInt8) (off : Int) (k : Int) (t : ByteArray) (x n err : Int) : Prop :=
  match nextS l with
  | .error q=>err = q∧q ≠ 0
  | .ok (tk,m)=>err = 0∧k = tk.k∧t.data.toList = tk.t∧x = tk.n∧n = off + m
theorem NextIs.bad {l : List UInt8} {q : Int} (h : nextS l = .error q) (hq : q ≠ 0) (off k : Int) (t : ByteArray) (x n : Int) : NextIs l off k t x n q:=by
  unfold NextIs; rw [h]; exact ⟨rfl,hq⟩
theorem NextIs.good {l : List UInt8} {tk : Tk} {m : Nat} (h : nextS l = .ok (tk,m)) {off k : Int} {t : ByteArray} {x n : Int} (h1 : k = tk.k) (h2 : t.data.toList = tk.t) (h3 : x = tk.n) (h4 : n = off + m) : NextIs l off k t x n 0:=by
  unfold NextIs; rw [h]; exact ⟨rfl,h1,h2,h3,h4⟩
def secB (l : List UInt8) : Bool:=match l with | []=>false | d :: _=>digB d
def eqB (l : List UInt8) : Bool:=match l with | []=>false | d :: _=>decide (d.toNat = 61)
theorem nx_word {c : UInt8} {r : List UInt8} (h : letB c = true) : nextS (c :: r) = .ok (⟨1,(c :: r).take (1 + spanN wordB r),0⟩,1 + spanN wordB r):=by
  rw [nextS_cons,nextC.eq_def,if_pos h]
def numStart (c : UInt8) (r : List UInt8) : Bool:=digB c || (decide (c.toNat = 45) && secB r)
theorem nx_num {c : UInt8} {r : List UInt8} (h : letB c = false) (hn : numStart c r = true) :
    nextS (c :: r) = if (verS ((c :: r).take (1 + spanN numB r))).isSome then .ok (⟨4,(c :: r).take (1 + spanN numB r),0⟩,1 + spanN numB r)
      else if (parseS ((c :: r).take (1 + spanN numB r))).2 = 0 then .ok (⟨2,[],(parseS ((c :: r).take (1 + spanN numB r))).1⟩,1 + spanN numB r) else .error (parseS ((c :: r).take (1 + spanN numB r))).2:=by
  rw [nextS_cons,nextC.eq_def,if_neg (by simp [h]),if_pos (by exact hn)]
theorem nx_text {c : UInt8} {r : List UInt8} (hc : c.toNat = 34) :
    nextS (c :: r) = match lqS false r with
      | none=>.error 1
      | some k=>match unquoteS ((c :: r).take (1 + k)) with
        | none=>.error 1
        | some b=>if validS b then .ok (⟨3,b,0⟩,1 + k) else .error 2:=by
  have h1 : letB c = false:=letB_low (by omega)
  have h2 : (digB c || (decide (c.toNat = 45) && (match r with | []=>false | d :: _=>digB d))) = false:=by rw [digB_low (by omega)]; simp [hc]
  rw [nextS_cons,nextC.eq_def,if_neg (by simp [h1]),if_neg (by rw [Bool.not_eq_true]; exact h2),if_pos hc]
  rfl
theorem nx_sign {c : UInt8} {r : List UInt8} (hs : signB c = true) :
    nextS (c :: r) = if (decide (c.toNat = 60) || decide (c.toNat = 62)) && eqB r then .ok (⟨5,(c :: r).take 2,0⟩,2) else .ok (⟨5,(c :: r).take 1,0⟩,1):=by
  have hm : c.toNat = 123∨c.toNat = 125∨c.toNat = 40∨c.toNat = 41∨c.toNat = 91∨c.toNat = 93∨c.toNat = 44∨c.toNat = 46∨c.toNat = 60∨c.toNat = 62:=by
    unfold signB at hs; simpa using hs
  have h1 : letB c = false:=by
    by_cases h : c.toNat < 97
    · exact letB_low h
    · exact letB_high (by omega)
  have h2 : (digB c || (decide (c.toNat = 45) && (match r with | []=>false | d :: _=>digB d))) = false:=by
    have : digB c = false:=by
      by_cases h : c.toNat < 48
      · exact digB_low h
      · exact digB_high (by omega)
    rw [this]
    simp
    omega
  rw [nextS_cons,nextC.eq_def,if_neg (by simp [h1]),if_neg (by rw [Bool.not_eq_true]; exact h2),if_neg (by omega),if_pos hs]
  rfl
theorem nx_none {c : UInt8} {r : List UInt8} (h : letB c = false) (hn : numStart c r = false) (hq : c.toNat ≠ 34) (hs : signB c = false) : nextS (c :: r) = .error 1:=by
  rw [nextS_cons,nextC.eq_def,if_neg (by simp [h]),if_neg (by rw [Bool.not_eq_true]; exact hn),if_neg hq,if_neg (by simp [hs])]
theorem index_sign (c : UInt8) : (signB c = true∧decide (0≤Lib.indexByte [123,125,40,41,91,93,44,46,60,62] c) = true)∨(signB c = false∧decide (0≤Lib.indexByte [123,125,40,41,91,93,44,46,60,62] c) = false):=by
  by_cases hm : c.toNat = 123∨c.toNat = 125∨c.toNat = 40∨c.toNat = 41∨c.toNat = 91∨c.toNat = 93∨c.toNat = 44∨c.toNat = 46∨c.toNat = 60∨c.toNat = 62
  · refine Or.inl ⟨by unfold signB; simpa using hm,?_⟩
    have e : ∀ n : Nat,n < 256→c.toNat = n→c = UInt8.ofNat n:=fun n hn h=>UInt8.toNat_inj.1 (by rw [h]; simp; omega)
    rcases hm with h | h | h | h | h | h | h | h | h | h <;> (rw [e _ (by omega) h]; decide)
  · refine Or.inr ⟨by unfold signB; simp only [List.contains_eq_mem,decide_eq_false_iff_not]; simpa using hm,?_⟩
    have ne : ∀ (b : UInt8),b.toNat ≠ c.toNat→(b == c) = false:=fun b hb=>beq_eq_false_iff_ne.2 (fun e=>hb (by rw [e]))
    have e : Lib.indexByte [123,125,40,41,91,93,44,46,60,62] c = -1:=by
      have d1:=ne 123 (show 123 ≠ c.toNat by omega)
      have d2:=ne 125 (show 125 ≠ c.toNat by omega)
      have d3:=ne 40 (show 40 ≠ c.toNat by omega)
      have d4:=ne 41 (show 41 ≠ c.toNat by omega)
      have d5:=ne 91 (show 91 ≠ c.toNat by omega)
      have d6:=ne 93 (show 93 ≠ c.toNat by omega)
      have d7:=ne 44 (show 44 ≠ c.toNat by omega)
      have d8:=ne 46 (show 46 ≠ c.toNat by omega)
      have d9:=ne 60 (show 60 ≠ c.toNat by omega)
      have d0:=ne 62 (show 62 ≠ c.toNat by omega)
      simp [Lib.indexByte,d1,d2,d3,d4,d5,d6,d7,d8,d9,d0]
    rw [e]; rfl
theorem span_cons {p : UInt8→Bool} {c : UInt8} {r : List UInt8} (h : p c = true) : spanN p (c :: r) = 1 + spanN p r:=by rw [spanN,if_pos h]
theorem word_let {c : UInt8} (h : letB c = true) : wordB c = true:=by unfold wordB; rw [h]; rfl
theorem check_ver (t : List UInt8) : checkS ⟨4,0,t,[]⟩ = if (verS t).isSome then 0 else 1:=c_4 (v:=⟨4,0,t,[]⟩) rfl rfl
theorem sec_at {s : ByteArray} {i : Nat} (h : i < s.size) : secB (s.data.toList.drop i) = digB s[i]:=by rw [drop_byte s i h]; rfl
theorem sec_end {s : ByteArray} {i : Nat} (h : ¬ i < s.size) : secB (s.data.toList.drop i) = false:=by rw [List.drop_eq_nil_of_le (by simp; omega)]; rfl
theorem eq_at {s : ByteArray} {i : Nat} (h : i < s.size) : eqB (s.data.toList.drop i) = decide (s[i].toNat = 61):=by rw [drop_byte s i h]; rfl
theorem eq_end {s : ByteArray} {i : Nat} (h : ¬ i < s.size) : eqB (s.data.toList.drop i) = false:=by rw [List.drop_eq_nil_of_le (by simp; omega)]; rfl
theorem num_ways {c : UInt8} {r : List UInt8} (h : letB c = false) (hn : numStart c r = true) {t : List UInt8} (ht : (c :: r).take (1 + spanN numB r) = t) :
    ((verS t).isSome = true∧nextS (c :: r) = .ok (⟨4,t,0⟩,1 + spanN numB r)) ∨
    ((verS t).isSome = false∧(parseS t).2 = 0∧nextS (c :: r) = .ok (⟨2,[],(parseS t).1⟩,1 + spanN numB r)) ∨
    ((verS t).isSome = false∧(parseS t).2 ≠ 0∧nextS (c :: r) = .error (parseS t).2):=by
  have e:=nx_num h hn
  rw [ht] at e
  cases hv : (verS t).isSome with
  | true=>rw [hv] at e; exact Or.inl ⟨rfl,e⟩
  | false =>
    rw [hv] at e
    by_cases hp : (parseS t).2 = 0
    · rw [if_neg (by simp),if_pos hp] at e; exact Or.inr (Or.inl ⟨rfl,hp,e⟩)
    · rw [if_neg (by simp),if_neg hp] at e; exact Or.inr (Or.inr ⟨rfl,hp,e⟩)
theorem text_ways {c : UInt8} {r : List UInt8} (hc : c.toNat = 34) :
    (lqS false r = none∧nextS (c :: r) = .error 1) ∨
    ∃ k,lqS false r = some k∧((unquoteV ((c :: r).take (1 + k)) = .tuple #[.string ⟨#[]⟩,.int .i64 1]∧nextS (c :: r) = .error 1) ∨
      (unquoteV ((c :: r).take (1 + k)) = .tuple #[.string ⟨#[]⟩,.int .i64 2]∧nextS (c :: r) = .error 2) ∨
      ∃ b : List UInt8,unquoteV ((c :: r).take (1 + k)) = .tuple #[.string ⟨b.toArray⟩,.int .i64 0]∧nextS (c :: r) = .ok (⟨3,b,0⟩,1 + k)):=by
  have e:=nx_text (r:=r) hc
  cases hl : lqS false r with
  | none=>rw [hl] at e; exact Or.inl ⟨rfl,e⟩
  | some k =>
    rw [hl] at e
    refine Or.inr ⟨k,rfl,?_⟩
    simp only at e
    unfold unquoteV
    cases hu : unquoteS ((c :: r).take (1 + k)) with
    | none=>rw [hu] at e; exact Or.inl ⟨rfl,e⟩
    | some b =>
      rw [hu] at e
      simp only at e
      cases hv : validS b with
      | false=>rw [hv] at e; exact Or.inr (Or.inl ⟨by simp [hv],by simpa using e⟩)
      | true=>rw [hv] at e; exact Or.inr (Or.inr ⟨b,by simp [hv],by simpa using e⟩)
end Go.Proofs.YtfffpflflggonaaGreatDoor.lex
