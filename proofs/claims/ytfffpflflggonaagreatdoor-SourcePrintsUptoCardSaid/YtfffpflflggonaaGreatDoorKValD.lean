/- The parts of a version, as the reference finds them. -/
import Derived.Test.YtfffpflflggonaaGreatDoorKValB
namespace Go.Proofs.YtfffpflflggonaaGreatDoor.value
open Go.RowKit text
def verK1 (x : Int) (l : List UInt8) : Option (Int × Int × Int) :=
  match cutD l with
  | none=>none
  | some (b,c)=>match cutD c with
    | some _=>none
    | none=>match partN b,partN c with
      | some y,some z=>some (x,y,z)
      | _,_=>none
def verK2 (x y : Int) (l : List UInt8) : Option (Int × Int × Int) :=
  match cutD l with
  | some _=>none
  | none=>match partN l with
    | some z=>some (x,y,z)
    | none=>none
theorem k0_none {l : List UInt8} (h : cutD l = none) : verS l = none:=by unfold verS; rw [h]
theorem k0_bad {l a r : List UInt8} (h : cutD l = some (a,r)) (hp : partN a = none) : verS l = none:=by
  unfold verS
  rw [h]
  simp only
  cases cutD r with
  | none=>rfl
  | some y =>
    obtain ⟨b,c⟩:=y
    simp only
    cases cutD c with
    | some z=>rfl
    | none=>simp only; rw [hp]
theorem k0_ok {l a r : List UInt8} {x : Int} (h : cutD l = some (a,r)) (hp : partN a = some x) : verS l = verK1 x r:=by
  unfold verS verK1
  rw [h]
  simp only
  cases cutD r with
  | none=>rfl
  | some y =>
    obtain ⟨b,c⟩:=y
    simp only
    cases cutD c with
    | some z=>rfl
    | none =>
      simp only
      rw [hp]
      cases partN b <;> cases partN c <;> rfl
theorem k1_none {x : Int} {l : List UInt8} (h : cutD l = none) : verK1 x l = none:=by unfold verK1; rw [h]
theorem k1_bad {x : Int} {l a r : List UInt8} (h : cutD l = some (a,r)) (hp : partN a = none) : verK1 x l = none:=by
  unfold verK1
  rw [h]
  simp only
  cases cutD r with
  | some z=>rfl
  | none=>simp only; rw [hp]
theorem k1_ok {x y : Int} {l a r : List UInt8} (h : cutD l = some (a,r)) (hp : partN a = some y) : verK1 x l = verK2 x y r:=by
  unfold verK1 verK2
  rw [h]
  simp only
  cases cutD r with
  | some z=>rfl
  | none =>
    simp only
    rw [hp]
    cases partN r <;> rfl
theorem k2_some {x y : Int} {l a r : List UInt8} (h : cutD l = some (a,r)) : verK2 x y l = none:=by unfold verK2; rw [h]
theorem k2_bad {x y : Int} {l : List UInt8} (h : cutD l = none) (hp : partN l = none) : verK2 x y l = none:=by unfold verK2; rw [h,hp]
theorem k2_ok {x y z : Int} {l : List UInt8} (h : cutD l = none) (hp : partN l = some z) : verK2 x y l = some (x,y,z):=by unfold verK2; rw [h,hp]
def NoDot (s : ByteArray) (p j : Nat) : Prop:=cutD (s.data.toList.drop p) = (cutD (s.data.toList.drop j)).map fun x=>(((s.data.toList.drop p).take (j - p)) ++ x.1,x.2)
theorem noDot_start (s : ByteArray) (p : Nat) : NoDot s p p:=by
  unfold NoDot
  rw [Nat.sub_self,List.take_zero]
  cases cutD (s.data.toList.drop p) <;> rfl
theorem noDot_step {s : ByteArray} {p j : Nat} (h : NoDot s p j) (hp : p≤j) (hj : j < s.size) (hc : s[j].toNat ≠ 46) : NoDot s p (j + 1):=by
  unfold NoDot at *
  rw [h,drop_byte s j hj,cutD,if_neg hc,Option.map_map]
  congr 1
  funext x
  have e : (s.data.toList.drop p).take (j + 1 - p) = (s.data.toList.drop p).take (j - p) ++ [s[j]]:=by
    have h1 : j + 1 - p = (j - p) + 1:=by omega
    rw [h1,List.take_succ_eq_append_getElem (by simp; omega)]
    congr 2
    rw [List.getElem_drop]
    have h2 : p + (j - p) = j:=by omega
    simp only [h2]
    rfl
  rw [e]
  simp
theorem piece_list (s : ByteArray) (p j : Nat) : (s.extract p j).data.toList = (s.data.toList.drop p).take (j - p):=by
  simp only [ByteArray.data_extract,Array.toList_extract,List.extract_eq_take_drop]
theorem noDot_hit {s : ByteArray} {p j : Nat} (h : NoDot s p j) (hj : j < s.size) (hc : s[j].toNat = 46) : cutD (s.data.toList.drop p) = some ((s.extract p j).data.toList,s.data.toList.drop (j + 1)):=by
  unfold NoDot at h
  rw [h,drop_byte s j hj,cutD,if_pos hc,piece_list]
  simp
theorem noDot_end {s : ByteArray} {p j : Nat} (h : NoDot s p j) (hj : s.size≤j) : cutD (s.data.toList.drop p) = none∧(s.extract p j).data.toList = s.data.toList.drop p:=by
  unfold NoDot at h
  have hd : s.data.toList.drop j = []:=List.drop_eq_nil_of_le (by simp; omega)
  rw [hd] at h
  refine ⟨h,?_⟩
  rw [piece_list]
  exact List.take_of_length_le (by simp; omega)
theorem piece_size (s : ByteArray) (p j : Nat) : (s.extract p j).size≤s.size:=by rw [ByteArray.size_extract]; omega
def RefRel (s : ByteArray) (w wr : World) (k p : Nat) (x y z : Int) : Prop :=
  Own wr w.heap.size #[.int .i64 0,.int .i64 0,.int .i64 0] 295∧Own wr (w.heap.size + 1) #[.int .i64 x,.int .i64 y,.int .i64 z] 295∧Below w.heap.size w wr ∧
  (k = 0→p = 0)∧(k = 1→verS s.data.toList = verK1 x (s.data.toList.drop p))∧(k = 2→verS s.data.toList = verK2 x y (s.data.toList.drop p))∧(k = 3→verS s.data.toList = some (x,y,z))
set_option maxRecDepth 100000 in
set_option maxHeartbeats 8000000 in
theorem parts_ref (s : ByteArray) (w : World) (hs : s.size≤140737488355328) :
    Calls Tryz.prog 267 #[.string s] w fun e w'=>e = .returned (verV s.data.toList)∧Below w.heap.size w w':=by
  go_enter Tryz.func267,Tryz.ntmps267
  have hS:=Lib.hid (show RefRel s w ((w.alloc (.cells #[.int .i64 0,.int .i64 0,.int .i64 0] 295)).alloc (.cells #[.int .i64 0,.int .i64 0,.int .i64 0] 295)) 0 0 0 0 0 from
    ⟨(Own.new w _ _).alloc _,Own.new' (by simp),((Below.refl _ _).alloc (Nat.le_refl _) _).alloc (by simp) _,fun _=>rfl,fun h=>by omega,fun h=>by omega,fun h=>by omega⟩)
  go_wp2
  go_loopw [5,6] (fun a i wr=>∃ k p : Nat,k≤3∧i = .int .i64 k∧a = .int .i64 p∧p≤s.size + 1∧(k < 3→p≤s.size)∧∃ x y z,Hid (RefRel s w wr k p x y z)) (fun _ i _=>3 - (intOf i).toNat)
  case atStart=>exact ⟨0,0,by omega,rfl,rfl,by omega,by omega,0,0,0,hS.out⟩
  case round =>
    clear hS
    obtain ⟨k,p,hk,rfl,rfl,hp,hp3,x,y,z,hR⟩:=hrel
    rcases (show k = 0∨k = 1∨k = 2∨k = 3 by omega) with rfl | rfl | rfl | rfl
    · rw [show ((0 : Nat) : Int) = 0 from rfl]
      have hp1 : p≤s.size:=hp3 (by omega)
      obtain ⟨wo,rfl⟩ : ∃ wo : World,wo = wr:=⟨_,rfl⟩
      obtain ⟨c0,c1,c2,f0,f1,f2⟩:=own3 hR.out.1
      obtain ⟨d0,d1,d2,g0,g1,g2⟩:=own3 hR.out.2.1
      go_wp2
      go_loop [5] (fun a=>∃ j : Nat,p≤j∧j≤s.size∧a = .int .i64 j∧Hid (NoDot s p j)) (fun a=>s.size - (intOf a).toNat)
      case atStart=>exact ⟨p,Nat.le_refl _,hp1,rfl,noDot_start s p⟩
      case round =>
        obtain ⟨j,hj1,hj2,rfl,hN⟩:=hrel
        have hsz:=piece_size s p j
        by_cases hlt : j < s.size
        · by_cases hc : s[j].toNat = 46
          · have hC:=Lib.hid (noDot_hit hN.out hlt hc)
            rcases part_ways (s.extract p j).data.toList with ⟨n,hM,hP,hn0,hn1⟩ | ⟨n,e,hM,hP,hne⟩
            · have hV:=Lib.hid ((show verS s.data.toList = verS (s.data.toList.drop p) by rw [hR.out.2.2.2.1 rfl]; rfl).trans (k0_ok hC.out hM.out))
              go_wp2_with fail
              refine (parse_ref _ _ (by unfold maxLen; omega)).mono ?_
              rintro e w3 ⟨rfl,rfl⟩
              rw [hP.out]
              go_wp2
              go_roundw
              case rel=>exact ⟨1,j + 1,by omega,rfl,by go_num,by omega,by omega,n,y,z,⟨hR.out.1.setOther (by simp) _,hR.out.2.1.set 0 _,hR.out.2.2.1.setCell (by simp) _,fun h=>by omega,fun h=>hV.out,fun h=>by omega,fun h=>by omega⟩⟩
              case measure=>simp [intOf]
            · have hQ:=Lib.hid (verV_none ((show verS s.data.toList = verS (s.data.toList.drop p) by rw [hR.out.2.2.2.1 rfl]; rfl).trans (k0_bad hC.out hM.out)))
              go_wp2_with fail
              refine (parse_ref _ _ (by unfold maxLen; omega)).mono ?_
              rintro e' w3 ⟨rfl,rfl⟩
              rw [hP.out]
              rcases hne with hne | ⟨rfl,hne⟩ | ⟨rfl,hne,hne2⟩
              all_goals
                go_wp2
                refine bodyPost_ret (v:=.tuple #[.agg #[.int .i64 0,.int .i64 0,.int .i64 0],.bool false]) (by simp [results,Tryz.results267,go_sem,c0,c1,c2]) rfl ⟨hQ.out,store3 hR.out.2.2.1 _ _ _⟩
          · have hN2:=Lib.hid (noDot_step hN.out hj1 hlt hc)
            have hc2 : ((s[j].toNat : Int) != 46) = true:=by simp; omega
            clear hc
            go_wp2
            go_round
            case rel=>exact ⟨j + 1,by omega,by omega,by go_num,hN2.out⟩
            case measure=>simp [intOf]; omega
        · have hC:=Lib.hid (noDot_end hN.out (by omega))
          have hQ:=Lib.hid (verV_none ((show verS s.data.toList = verS (s.data.toList.drop p) by rw [hR.out.2.2.2.1 rfl]; rfl).trans (k0_none hC.out.1)))
          rcases part_ways (s.extract p j).data.toList with ⟨n,hM,hP,hn0,hn1⟩ | ⟨n,e,hM,hP,hne⟩
          · go_wp2_with fail
            refine (parse_ref _ _ (by unfold maxLen; omega)).mono ?_
            rintro e w3 ⟨rfl,rfl⟩
            rw [hP.out]
            go_wp2
            refine bodyPost_ret (v:=.tuple #[.agg #[.int .i64 0,.int .i64 0,.int .i64 0],.bool false]) (by simp [results,Tryz.results267,go_sem,c0,c1,c2]) rfl ⟨hQ.out,store3 hR.out.2.2.1 _ _ _⟩
          · go_wp2_with fail
            refine (parse_ref _ _ (by unfold maxLen; omega)).mono ?_
            rintro e' w3 ⟨rfl,rfl⟩
            rw [hP.out]
            rcases hne with hne | ⟨rfl,hne⟩ | ⟨rfl,hne,hne2⟩
            all_goals
              go_wp2
              refine bodyPost_ret (v:=.tuple #[.agg #[.int .i64 0,.int .i64 0,.int .i64 0],.bool false]) (by simp [results,Tryz.results267,go_sem,c0,c1,c2]) rfl ⟨hQ.out,store3 hR.out.2.2.1 _ _ _⟩
    · rw [show ((1 : Nat) : Int) = 1 from rfl]
      have hp1 : p≤s.size:=hp3 (by omega)
      obtain ⟨wo,rfl⟩ : ∃ wo : World,wo = wr:=⟨_,rfl⟩
      obtain ⟨c0,c1,c2,f0,f1,f2⟩:=own3 hR.out.1
      obtain ⟨d0,d1,d2,g0,g1,g2⟩:=own3 hR.out.2.1
      go_wp2
      go_loop [5] (fun a=>∃ j : Nat,p≤j∧j≤s.size∧a = .int .i64 j∧Hid (NoDot s p j)) (fun a=>s.size - (intOf a).toNat)
      case atStart=>exact ⟨p,Nat.le_refl _,hp1,rfl,noDot_start s p⟩
      case round =>
        obtain ⟨j,hj1,hj2,rfl,hN⟩:=hrel
        have hsz:=piece_size s p j
        by_cases hlt : j < s.size
        · by_cases hc : s[j].toNat = 46
          · have hC:=Lib.hid (noDot_hit hN.out hlt hc)
            rcases part_ways (s.extract p j).data.toList with ⟨n,hM,hP,hn0,hn1⟩ | ⟨n,e,hM,hP,hne⟩
            · have hV:=Lib.hid ((hR.out.2.2.2.2.1 rfl).trans (k1_ok hC.out hM.out))
              go_wp2_with fail
              refine (parse_ref _ _ (by unfold maxLen; omega)).mono ?_
              rintro e w3 ⟨rfl,rfl⟩
              rw [hP.out]
              go_wp2
              go_roundw
              case rel=>exact ⟨2,j + 1,by omega,rfl,by go_num,by omega,by omega,x,n,z,⟨hR.out.1.setOther (by simp) _,hR.out.2.1.set 1 _,hR.out.2.2.1.setCell (by simp) _,fun h=>by omega,fun h=>by omega,fun h=>hV.out,fun h=>by omega⟩⟩
              case measure=>simp [intOf]
            · have hQ:=Lib.hid (verV_none ((hR.out.2.2.2.2.1 rfl).trans (k1_bad hC.out hM.out)))
              go_wp2_with fail
              refine (parse_ref _ _ (by unfold maxLen; omega)).mono ?_
              rintro e' w3 ⟨rfl,rfl⟩
              rw [hP.out]
              rcases hne with hne | ⟨rfl,hne⟩ | ⟨rfl,hne,hne2⟩
              all_goals
                go_wp2
                refine bodyPost_ret (v:=.tuple #[.agg #[.int .i64 0,.int .i64 0,.int .i64 0],.bool false]) (by simp [results,Tryz.results267,go_sem,c0,c1,c2]) rfl ⟨hQ.out,store3 hR.out.2.2.1 _ _ _⟩
          · have hN2:=Lib.hid (noDot_step hN.out hj1 hlt hc)
            have hc2 : ((s[j].toNat : Int) != 46) = true:=by simp; omega
            clear hc
            go_wp2
            go_round
            case rel=>exact ⟨j + 1,by omega,by omega,by go_num,hN2.out⟩
            case measure=>simp [intOf]; omega
        · have hC:=Lib.hid (noDot_end hN.out (by omega))
          have hQ:=Lib.hid (verV_none ((hR.out.2.2.2.2.1 rfl).trans (k1_none hC.out.1)))
          rcases part_ways (s.extract p j).data.toList with ⟨n,hM,hP,hn0,hn1⟩ | ⟨n,e,hM,hP,hne⟩
          · go_wp2_with fail
            refine (parse_ref _ _ (by unfold maxLen; omega)).mono ?_
            rintro e w3 ⟨rfl,rfl⟩
            rw [hP.out]
            go_wp2
            refine bodyPost_ret (v:=.tuple #[.agg #[.int .i64 0,.int .i64 0,.int .i64 0],.bool false]) (by simp [results,Tryz.results267,go_sem,c0,c1,c2]) rfl ⟨hQ.out,store3 hR.out.2.2.1 _ _ _⟩
          · go_wp2_with fail
            refine (parse_ref _ _ (by unfold maxLen; omega)).mono ?_
            rintro e' w3 ⟨rfl,rfl⟩
            rw [hP.out]
            rcases hne with hne | ⟨rfl,hne⟩ | ⟨rfl,hne,hne2⟩
            all_goals
              go_wp2
              refine bodyPost_ret (v:=.tuple #[.agg #[.int .i64 0,.int .i64 0,.int .i64 0],.bool false]) (by simp [results,Tryz.results267,go_sem,c0,c1,c2]) rfl ⟨hQ.out,store3 hR.out.2.2.1 _ _ _⟩
    · rw [show ((2 : Nat) : Int) = 2 from rfl]
      have hp1 : p≤s.size:=hp3 (by omega)
      obtain ⟨wo,rfl⟩ : ∃ wo : World,wo = wr:=⟨_,rfl⟩
      obtain ⟨c0,c1,c2,f0,f1,f2⟩:=own3 hR.out.1
      obtain ⟨d0,d1,d2,g0,g1,g2⟩:=own3 hR.out.2.1
      go_wp2
      go_loop [5] (fun a=>∃ j : Nat,p≤j∧j≤s.size∧a = .int .i64 j∧Hid (NoDot s p j)) (fun a=>s.size - (intOf a).toNat)
      case atStart=>exact ⟨p,Nat.le_refl _,hp1,rfl,noDot_start s p⟩
      case round =>
        obtain ⟨j,hj1,hj2,rfl,hN⟩:=hrel
        have hsz:=piece_size s p j
        by_cases hlt : j < s.size
        · by_cases hc : s[j].toNat = 46
          · have hC:=Lib.hid (noDot_hit hN.out hlt hc)
            have hQ:=Lib.hid (verV_none ((hR.out.2.2.2.2.2.1 rfl).trans (k2_some hC.out)))
            rcases part_ways (s.extract p j).data.toList with ⟨n,hM,hP,hn0,hn1⟩ | ⟨n,e,hM,hP,hne⟩
            · go_wp2_with fail
              refine (parse_ref _ _ (by unfold maxLen; omega)).mono ?_
              rintro e w3 ⟨rfl,rfl⟩
              rw [hP.out]
              go_wp2
              refine bodyPost_ret (v:=.tuple #[.agg #[.int .i64 0,.int .i64 0,.int .i64 0],.bool false]) (by simp [results,Tryz.results267,go_sem,c0,c1,c2]) rfl ⟨hQ.out,store3 hR.out.2.2.1 _ _ _⟩
            · go_wp2_with fail
              refine (parse_ref _ _ (by unfold maxLen; omega)).mono ?_
              rintro e' w3 ⟨rfl,rfl⟩
              rw [hP.out]
              rcases hne with hne | ⟨rfl,hne⟩ | ⟨rfl,hne,hne2⟩
              all_goals
                go_wp2
                refine bodyPost_ret (v:=.tuple #[.agg #[.int .i64 0,.int .i64 0,.int .i64 0],.bool false]) (by simp [results,Tryz.results267,go_sem,c0,c1,c2]) rfl ⟨hQ.out,store3 hR.out.2.2.1 _ _ _⟩
          · have hN2:=Lib.hid (noDot_step hN.out hj1 hlt hc)
            have hc2 : ((s[j].toNat : Int) != 46) = true:=by simp; omega
            clear hc
            go_wp2
            go_round
            case rel=>exact ⟨j + 1,by omega,by omega,by go_num,hN2.out⟩
            case measure=>simp [intOf]; omega
        · have hC:=Lib.hid (noDot_end hN.out (by omega))
          rcases part_ways (s.extract p j).data.toList with ⟨n,hM,hP,hn0,hn1⟩ | ⟨n,e,hM,hP,hne⟩
          · have hV:=Lib.hid ((hR.out.2.2.2.2.2.1 rfl).trans (k2_ok hC.out.1 (hC.out.2 ▸ hM.out)))
            go_wp2_with fail
            refine (parse_ref _ _ (by unfold maxLen; omega)).mono ?_
            rintro e w3 ⟨rfl,rfl⟩
            rw [hP.out]
            go_wp2
            go_roundw
            case rel=>exact ⟨3,j + 1,by omega,rfl,by go_num,by omega,by omega,x,y,n,⟨hR.out.1.setOther (by simp) _,hR.out.2.1.set 2 _,hR.out.2.2.1.setCell (by simp) _,fun h=>by omega,fun h=>by omega,fun h=>by omega,fun h=>hV.out⟩⟩
            case measure=>simp [intOf]
          · have hQ:=Lib.hid (verV_none ((hR.out.2.2.2.2.2.1 rfl).trans (k2_bad hC.out.1 (hC.out.2 ▸ hM.out))))
            go_wp2_with fail
            refine (parse_ref _ _ (by unfold maxLen; omega)).mono ?_
            rintro e' w3 ⟨rfl,rfl⟩
            rw [hP.out]
            rcases hne with hne | ⟨rfl,hne⟩ | ⟨rfl,hne,hne2⟩
            all_goals
              go_wp2
              refine bodyPost_ret (v:=.tuple #[.agg #[.int .i64 0,.int .i64 0,.int .i64 0],.bool false]) (by simp [results,Tryz.results267,go_sem,c0,c1,c2]) rfl ⟨hQ.out,store3 hR.out.2.2.1 _ _ _⟩
    · rw [show ((3 : Nat) : Int) = 3 from rfl]
      obtain ⟨c0,c1,c2,f0,f1,f2⟩:=own3 hR.out.1
      obtain ⟨d0,d1,d2,g0,g1,g2⟩:=own3 hR.out.2.1
      have hQ:=Lib.hid (verV_some (hR.out.2.2.2.2.2.2 rfl))
      have hB:=Lib.hid (store3 hR.out.2.2.1 (.int .i64 x) (.int .i64 y) (.int .i64 z))
      go_wp2
      refine bodyPost_ret (v:=.tuple #[.agg #[.int .i64 x,.int .i64 y,.int .i64 z],.bool true]) (by simp [results,Tryz.results267,go_sem,c0,c1,c2]) rfl ⟨hQ.out,hB.out⟩
end Go.Proofs.YtfffpflflggonaaGreatDoor.value
