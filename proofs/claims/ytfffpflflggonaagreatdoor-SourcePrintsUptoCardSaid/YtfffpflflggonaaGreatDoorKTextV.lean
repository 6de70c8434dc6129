/- A text without its quotation marks: the program's Unquote. -/
import Derived.Test.YtfffpflflggonaaGreatDoorKS3
namespace Go.Proofs.YtfffpflflggonaaGreatDoor.text
open Go.RowKit
def ProRel (T : Option (List UInt8)) (t : ByteArray) (w wr : World) (k : Nat) (e : Bool) (acc : List UInt8) : Prop :=
  UnqRel T e acc (t.data.toList.drop k)∧acc.length≤k∧IsB w.heap.size w.heap.size acc wr∧Below w.heap.size w wr
theorem inner_bytes {s : ByteArray} : (s.extract 1 (s.size - 1)).data.toList = innerL s:=by
  unfold innerL
  simp only [ByteArray.data_extract,Array.toList_extract,List.extract_eq_take_drop]
  rw [List.drop_take]
theorem isBF_below {T e : TypeId} {B b : Nat} {bs : List Value} {w w' : World} (h : Lib.IsBuilderF T e B b bs w) (hb : Below w.heap.size w w') : Lib.IsBuilderF T e B b bs w':=by
  have key : ∀ p,Lib.BuilderAtF T e B b p bs w→Lib.BuilderAtF T e B b p bs w':=by
    rintro p ⟨h1,v,h2,h3,h4⟩
    have hlt : b < w.heap.size:=by
      rcases Nat.lt_or_ge b w.heap.size with hl | hl
      · exact hl
      · rw [Array.getElem?_eq_none (by omega)] at h2; cases h2
    refine ⟨h1,v,(hb.block b hlt).trans h2,h3.kept (grown_of_below hb none) ?_,h4⟩
    cases hv : v.ownBlock with
    | none=>exact Or.inl rfl
    | some k=>exact Or.inr (by simp)
  exact h.imp (key _) (key _)
theorem inner_size {s : ByteArray} (h : 2≤s.size) : (s.extract 1 (s.size - 1)).size = s.size - 2:=by
  rw [ByteArray.size_extract]
  omega
set_option maxRecDepth 100000 in
set_option maxHeartbeats 4000000 in
theorem unquote_any (s : ByteArray) (w : World) (hs : s.size≤140737488355328) (hT : RuneTabs w) :
    Calls Tryz.prog 185 #[.string s] w fun e w'=>e = .returned (unquoteV s.data.toList)∧Below w.heap.size w w':=by
  go_enter Tryz.func185,Tryz.ntmps185
  by_cases h2 : s.size < 2
  · have hE:=Lib.hid (unquoteV_short h2)
    have h3 : s.size = 0∨s.size = 1:=by omega
    go_wp2
    go_step3
    go_wp2
    try rw [Exit.noGoto_ret]
    go_ret2
    exact ⟨by rw [hE.out]; rfl,Below.refl _ _⟩
  have hp : 0 < s.size:=by omega
  by_cases hf : s[0].toNat = 34
  rotate_left
  · have hE:=Lib.hid (unquoteV_first hp hf)
    have hf1 : ((s[0].toNat : Int) != 34) = true:=by simp; omega
    have hd2 : decide ((s.size : Int) < 2) = false:=by simp; omega
    go_wp2
    go_step3
    go_wp2
    try rw [Exit.noGoto_ret]
    go_ret2
    exact ⟨by rw [hE.out]; rfl,Below.refl _ _⟩
  by_cases hl : (s[s.size - 1]'(by omega)).toNat = 34
  rotate_left
  · have hE:=Lib.hid (unquoteV_last hp hl)
    have hl1 : (((s[s.size - 1]'(by omega)).toNat : Int) != 34) = true:=by simp; omega
    have hd2 : decide ((s.size : Int) < 2) = false:=by simp; omega
    go_wp2
    go_step3
    go_wp2
    try rw [Exit.noGoto_ret]
    go_ret2
    exact ⟨by rw [hE.out]; rfl,Below.refl _ _⟩
  have hI:=Lib.hid (unquoteS_inner (by omega) hf hl)
  have hts:=inner_size (s:=s) (by omega)
  have hin:=Lib.hid (inner_bytes (s:=s))
  have hl1 : (((s[s.size - 1]'(by omega)).toNat : Int) != 34) = false:=by simp; omega
  have hf1 : ((s[0].toNat : Int) != 34) = false:=by simp; omega
  have hd2 : decide ((s.size : Int) < 2) = false:=by simp; omega
  replace hT:=Lib.hid hT
  clear hf hl
  have hts1 : (s.extract 1 (s.size - 1)).size≤140737488355326:=by omega
  clear hts
  go_wp2
  go_step3
  go_wp2
  go_step3
  go_wp2
  clear hd2 hl1 hf1
  generalize s.extract 1 (s.size - 1) = t at hin hts1 ⊢
  have hS:=Lib.hid (show ProRel (unquoteS s.data.toList) t w (w.alloc (.cells #[.pointer none,.slice none 0 0] 241)) 0 false [] from
    ⟨by rw [hI.out,← hin.out]; exact unq_start _,Nat.le_refl _,fresh_any w,(Below.refl _ _).alloc (Nat.le_refl _) _⟩)
  clear hI hin
  go_loopw [6,7] (fun v i wr=>∃ (k : Nat) (e : Bool),v = .bool e∧i = .int .i64 k∧k≤t.size∧∃ acc,Hid (ProRel (unquoteS s.data.toList) t w wr k e acc)) (fun _ i _=>t.size - (intOf i).toNat)
  case atStart=>exact ⟨0,false,rfl,rfl,by omega,[],hS.out⟩
  case round =>
    clear hS
    obtain ⟨k,e,rfl,rfl,hk,acc,hR⟩:=hrel
    obtain ⟨hU,hn,hB,hb⟩:=hR.out
    replace hU:=Lib.hid hU
    replace hB:=Lib.hid hB
    have hz:=hb.size
    replace hb:=Lib.hid hb
    by_cases hlt : k < t.size
    · have hD:=Lib.hid (drop_byte t k hlt)
      replace hU:=Lib.hid (show UnqRel (unquoteS s.data.toList) e acc (t[k] :: t.data.toList.drop (k + 1)) by rw [← hD.out]; exact hU.out)
      cases e with
      | true =>
        by_cases hq : t[k].toNat = 34∨t[k].toNat = 92
        · replace hU:=Lib.hid (unq_escd hU.out hq)
          have hcc : t[k].toNat = 34∨(((t[k].toNat : Int) == 34) = false∧t[k].toNat = 92):=by
            rcases hq with hq | hq
            · exact Or.inl hq
            · exact Or.inr ⟨by simp; omega,hq⟩
          clear hq
          rcases hcc with hq | ⟨hq1,hq⟩
          all_goals
            go_wp2_with fail
            refine (writeByte_any w.heap.size w.heap.size acc t[k] _ (by rw [hq]; rfl) _ hB.out (by omega) (by omega)).mono ?_
            rintro e w4 ⟨rfl,hB4,hb4⟩
            replace hB4:=Lib.hid hB4
            replace hb4:=Lib.hid (hb.out.trans hb4)
            go_wp2
            go_roundw
            case rel=>exact ⟨k + 1,false,rfl,by go_num,by omega,acc ++ [t[k]],hU.out,by simp; omega,hB4.out,hb4.out⟩
            case measure=>simp [intOf]; omega
        · have hE:=Lib.hid (ret_none (unq_bad hU.out (by omega) (by omega)))
          have hq1 : ((t[k].toNat : Int) == 34) = false:=by simp; omega
          have hq2 : ((t[k].toNat : Int) == 92) = false:=by simp; omega
          clear hq
          go_wp2
          try rw [Exit.noGoto_ret]
          go_ret2
          exact ⟨hE.out,hb.out⟩
      | false =>
        by_cases h34 : t[k].toNat = 34
        · have hE:=Lib.hid (ret_none (unq_quote hU.out h34))
          go_wp2
          try rw [Exit.noGoto_ret]
          go_ret2
          exact ⟨hE.out,hb.out⟩
        by_cases h92 : t[k].toNat = 92
        · replace hU:=Lib.hid (unq_esc hU.out h92)
          have hq1 : ((t[k].toNat : Int) == 34) = false:=by simp; omega
          clear h34
          go_wp2
          go_roundw
          case rel=>exact ⟨k + 1,true,rfl,by go_num,by omega,acc,hU.out,by omega,hB.out,hb.out⟩
          case measure=>simp [intOf]; omega
        · replace hU:=Lib.hid (unq_plain hU.out h34 h92)
          have hq1 : ((t[k].toNat : Int) == 34) = false:=by simp; omega
          have hq2 : ((t[k].toNat : Int) == 92) = false:=by simp; omega
          clear h34 h92
          go_wp2_with fail
          refine (writeByte_any w.heap.size w.heap.size acc t[k] _ rfl _ hB.out (by omega) (by omega)).mono ?_
          rintro e w4 ⟨rfl,hB4,hb4⟩
          replace hB4:=Lib.hid hB4
          replace hb4:=Lib.hid (hb.out.trans hb4)
          go_wp2
          go_roundw
          case rel=>exact ⟨k + 1,false,rfl,by go_num,by omega,acc ++ [t[k]],hU.out,by simp; omega,hB4.out,hb4.out⟩
          case measure=>simp [intOf]; omega
    · have hD:=Lib.hid (show t.data.toList.drop k = [] from List.drop_eq_nil_of_le (by simp; omega))
      cases e with
      | true =>
        have hE:=Lib.hid (ret_none (unq_open (T:=unquoteS s.data.toList) (acc:=acc) (by have h9:=hU.out; rw [hD.out] at h9; exact h9)))
        go_wp2
        try rw [Exit.noGoto_ret]
        go_ret2
        exact ⟨hE.out,hb.out⟩
      | false =>
        have hE:=Lib.hid (unq_end (T:=unquoteS s.data.toList) (acc:=acc) (by have h9:=hU.out; rw [hD.out] at h9; exact h9))
        go_wp2_with fail
        refine (Tryz.Builder_String_any_f w.heap.size w.heap.size acc _ (Lib.IsBuilderF.of hB.out) (by omega)).mono ?_
        rintro e w2 ⟨rfl,hF2,hb2⟩
        replace hF2:=Lib.hid hF2
        replace hb2:=Lib.hid (hb.out.trans hb2)
        have hz2:=hb2.out.size
        go_wp2_with fail
        refine (valid_any _ _ (Utf8Tabs_below hT.out hb2.out)).mono ?_
        rintro e w3 ⟨rfl,hb3⟩
        have hF3:=Lib.hid (isBF_below hF2.out hb3)
        replace hb3:=Lib.hid (hb2.out.trans (hb3.mono hz2))
        have hz3:=hb3.out.size
        cases hv : validS acc with
        | false =>
          have hQ:=Lib.hid (ret_inval hE.out hv)
          clear hv
          go_wp2
          try rw [Exit.noGoto_ret]
          go_ret2
          exact ⟨hQ.out,hb3.out⟩
        | true =>
          have hQ:=Lib.hid (ret_read hE.out hv)
          clear hv
          go_wp2_with fail
          refine (Tryz.Builder_String_any_f w.heap.size w.heap.size acc _ hF3.out (by omega)).mono ?_
          rintro e w4 ⟨rfl,hF4,hb4⟩
          replace hb4:=Lib.hid (hb3.out.trans hb4)
          clear hF4
          go_wp2
          try rw [Exit.noGoto_ret]
          go_ret2
          exact ⟨hQ.out,hb4.out⟩
end Go.Proofs.YtfffpflflggonaaGreatDoor.text
