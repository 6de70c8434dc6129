/- The schema's own check of a condition: the number that 'exprS' gives. -/
import Derived.Test.YtamkmdlfhlbbeaaDoorKJ1
namespace Go.Proofs.YtamkmdlfhlbbeaaDoor.schema
open Go.RowKit

set_option maxHeartbeats 2000000 in
theorem expr_step (decl : List DD) (segs : List ByteArray) (dv sv : Value) (m : Mem) (hd : RowsAt m 3 dv (decl.map DD.row)) (hsg : RowsAt m 1 sv (segs.map strRow))
    (op : Int) (kind name : ByteArray) (vals : List VD) (kids : List ED) (vs ks : Value) (rows : List (List Value)) (hv : RowsAt m 4 vs (vals.map VD.row)) (hk : RowsAt m 5 ks rows) (hl : rows.length = kids.length)
    (hE : ∀ (i : Nat) (r : List Value) (k : ED), rows[i]? = some r → kids[i]? = some k → EAt m k r)
    (ih : ∀ (i : Nat) (r : List Value) (k : ED), rows[i]? = some r → kids[i]? = some k → ExprOk 11 decl segs dv sv m k r) :
    ExprOk 11 decl segs dv sv m (.mk op kind name vals kids) [.int .i64 op, .string kind, .string name, vs, ks] := by
  intro w hs
  obtain ⟨a, c, rfl, hn, hc, hr⟩ := hk
  have hb1 : ∀ o, Below w.heap.size w (w.alloc o) := fun o => (Below.refl _ _).alloc (Nat.le_refl _) o
  have hd1 := Lib.hid (fun o => (hd.mono hs).mono (sub_of_below (hb1 o)))
  have hsg1 := Lib.hid (fun o => (hsg.mono hs).mono (sub_of_below (hb1 o)))
  have hv1 := Lib.hid (fun o => (hv.mono hs).mono (sub_of_below (hb1 o)))
  have HE := Lib.hid hE
  have IH := Lib.hid ih
  have hr0 := Lib.hid hr
  have hS := Lib.hid hs
  clear hr hE ih hv hd hsg hs
  rw [hl] at hn ⊢
  have hl0 := Lib.hid hl
  clear hl
  unfold maxLen at hc
  have hb2 := Lib.hid hb1
  clear hb1
  rcases ways decl segs op kind name vals with ⟨rfl, hh, he⟩ | ⟨rfl, hh, he⟩ | ⟨h5, h6, he⟩ | ⟨ty, hty, h5, h6, ⟨rfl, he⟩ | ⟨ht, hf, he⟩ | ⟨ht, hf, he⟩⟩
  · rw [exprS_stop he (by decide)]
    clear he
    have hh1 := Lib.hid hh
    clear hh
    go_enter Tryd.func11, Tryd.ntmps11
    go_wp2_with (first | (go_at_call 18; refine (contains_any _ segs name _ (hsg1.out _)).mono ?_; rintro e w' ⟨rfl, rfl⟩; rw [hh1.out]))
    go_ret
    exact ⟨rfl, hb2.out _⟩
  · rw [exprS_go he]
    clear he
    have hh1 := Lib.hid hh
    clear hh
    go_enter Tryd.func11, Tryd.ntmps11
    go_wp2_with (first | (go_at_call 18; refine (contains_any _ segs name _ (hsg1.out _)).mono ?_; rintro e w' ⟨rfl, rfl⟩; rw [hh1.out]))
    go_loopw [46] (fun i wr => ∃ k : Nat, k ≤ kids.length ∧ i = .int .i64 k ∧ Below w.heap.size w wr ∧ Hid (exprL decl segs (kids.drop k) = exprL decl segs kids)) (fun i _ => kids.length - (intOf i).toNat)
    case atStart => exact ⟨0, Nat.zero_le _, rfl, hb2.out _, rfl⟩
    case round =>
      obtain ⟨k, hk, rfl, hb, hT⟩ := hrel
      by_cases hlt : k < kids.length
      · rcases hr0.out with he | ⟨blk, off, rfl, hr⟩
        · have := hl0.out
          rw [he] at this
          simp only [List.length_nil] at this
          omega
        have hsub := hS.out.trans (sub_of_below hb)
        obtain ⟨op1, kind1, name1, va, vn, vc, ka, kn, kc, c0, c1, c2, c3, c4, hi⟩ := kid_cells hr hl0.out HE.out IH.out hlt
        clear hr
        have c0 := hsub _ _ c0
        have c1 := hsub _ _ c1
        have c2 := hsub _ _ c2
        have c3 := hsub _ _ c3
        have c4 := hsub _ _ c4
        have hbr : Below wr.heap.size wr (wr.alloc (.cells #[.int .i64 op1, .string kind1, .string name1, .slice va vn vc, .slice ka kn kc] 47)) := (Below.refl _ _).alloc (Nat.le_refl _) _
        have hi0 := Lib.hid (hi _ (hsub.trans (sub_of_below hbr)))
        clear hi hsub
        go_wp2_with (go_at_call 11; refine hi0.out.mono ?_; rintro e w' ⟨rfl, hb4⟩)
        · have h1 : (exprS decl segs kids[k] != 0) = true := by assumption
          go_ret
          exact ⟨ret_int (exprL_hit hlt h1 hT.out), hb.trans ((hbr.trans (hb4.mono hbr.size)).mono hb.size)⟩
        · have h1 : (exprS decl segs kids[k] != 0) = false := by assumption
          go_roundw
          case rel => exact ⟨k + 1, by omega, by go_num, hb.trans ((hbr.trans (hb4.mono hbr.size)).mono hb.size), exprL_miss hlt h1 hT.out⟩
          case measure => simp [intOf]; omega
      · have hE1 := Lib.hid (exprL_end hlt hT.out)
        go_wp2
        go_ret
        exact ⟨ret_int hE1.out.symm, hb⟩
  · rw [exprS_go he]
    clear he
    have h6' : op < 6 ∨ 15 < op := by have := of_decide_eq_false h6; omega
    clear h6
    rcases h6' with h6 | h6
    · skip
      go_enter Tryd.func11, Tryd.ntmps11
      go_wp2_with fail
      go_loopw [46] (fun i wr => ∃ k : Nat, k ≤ kids.length ∧ i = .int .i64 k ∧ Below w.heap.size w wr ∧ Hid (exprL decl segs (kids.drop k) = exprL decl segs kids)) (fun i _ => kids.length - (intOf i).toNat)
      case atStart => exact ⟨0, Nat.zero_le _, rfl, hb2.out _, rfl⟩
      case round =>
        obtain ⟨k, hk, rfl, hb, hT⟩ := hrel
        by_cases hlt : k < kids.length
        · rcases hr0.out with he | ⟨blk, off, rfl, hr⟩
          · have := hl0.out
            rw [he] at this
            simp only [List.length_nil] at this
            omega
          have hsub := hS.out.trans (sub_of_below hb)
          obtain ⟨op1, kind1, name1, va, vn, vc, ka, kn, kc, c0, c1, c2, c3, c4, hi⟩ := kid_cells hr hl0.out HE.out IH.out hlt
          clear hr
          have c0 := hsub _ _ c0
          have c1 := hsub _ _ c1
          have c2 := hsub _ _ c2
          have c3 := hsub _ _ c3
          have c4 := hsub _ _ c4
          have hbr : Below wr.heap.size wr (wr.alloc (.cells #[.int .i64 op1, .string kind1, .string name1, .slice va vn vc, .slice ka kn kc] 47)) := (Below.refl _ _).alloc (Nat.le_refl _) _
          have hi0 := Lib.hid (hi _ (hsub.trans (sub_of_below hbr)))
          clear hi hsub
          go_wp2_with (go_at_call 11; refine hi0.out.mono ?_; rintro e w' ⟨rfl, hb4⟩)
          · have h1 : (exprS decl segs kids[k] != 0) = true := by assumption
            go_ret
            exact ⟨ret_int (exprL_hit hlt h1 hT.out), hb.trans ((hbr.trans (hb4.mono hbr.size)).mono hb.size)⟩
          · have h1 : (exprS decl segs kids[k] != 0) = false := by assumption
            go_roundw
            case rel => exact ⟨k + 1, by omega, by go_num, hb.trans ((hbr.trans (hb4.mono hbr.size)).mono hb.size), exprL_miss hlt h1 hT.out⟩
            case measure => simp [intOf]; omega
        · have hE1 := Lib.hid (exprL_end hlt hT.out)
          go_wp2
          go_ret
          exact ⟨ret_int hE1.out.symm, hb⟩
    · skip
      go_enter Tryd.func11, Tryd.ntmps11
      go_wp2_with fail
      go_loopw [46] (fun i wr => ∃ k : Nat, k ≤ kids.length ∧ i = .int .i64 k ∧ Below w.heap.size w wr ∧ Hid (exprL decl segs (kids.drop k) = exprL decl segs kids)) (fun i _ => kids.length - (intOf i).toNat)
      case atStart => exact ⟨0, Nat.zero_le _, rfl, hb2.out _, rfl⟩
      case round =>
        obtain ⟨k, hk, rfl, hb, hT⟩ := hrel
        by_cases hlt : k < kids.length
        · rcases hr0.out with he | ⟨blk, off, rfl, hr⟩
          · have := hl0.out
            rw [he] at this
            simp only [List.length_nil] at this
            omega
          have hsub := hS.out.trans (sub_of_below hb)
          obtain ⟨op1, kind1, name1, va, vn, vc, ka, kn, kc, c0, c1, c2, c3, c4, hi⟩ := kid_cells hr hl0.out HE.out IH.out hlt
          clear hr
          have c0 := hsub _ _ c0
          have c1 := hsub _ _ c1
          have c2 := hsub _ _ c2
          have c3 := hsub _ _ c3
          have c4 := hsub _ _ c4
          have hbr : Below wr.heap.size wr (wr.alloc (.cells #[.int .i64 op1, .string kind1, .string name1, .slice va vn vc, .slice ka kn kc] 47)) := (Below.refl _ _).alloc (Nat.le_refl _) _
          have hi0 := Lib.hid (hi _ (hsub.trans (sub_of_below hbr)))
          clear hi hsub
          go_wp2_with (go_at_call 11; refine hi0.out.mono ?_; rintro e w' ⟨rfl, hb4⟩)
          · have h1 : (exprS decl segs kids[k] != 0) = true := by assumption
            go_ret
            exact ⟨ret_int (exprL_hit hlt h1 hT.out), hb.trans ((hbr.trans (hb4.mono hbr.size)).mono hb.size)⟩
          · have h1 : (exprS decl segs kids[k] != 0) = false := by assumption
            go_roundw
            case rel => exact ⟨k + 1, by omega, by go_num, hb.trans ((hbr.trans (hb4.mono hbr.size)).mono hb.size), exprL_miss hlt h1 hT.out⟩
            case measure => simp [intOf]; omega
        · have hE1 := Lib.hid (exprL_end hlt hT.out)
          go_wp2
          go_ret
          exact ⟨ret_int hE1.out.symm, hb⟩
  · rw [exprS_stop he (by decide)]
    clear he
    have h6a : 6 ≤ op ∧ op ≤ 15 := of_decide_eq_true h6
    obtain ⟨h6b, h6c⟩ := h6a
    clear h6
    have hty1 := Lib.hid hty
    clear hty
    go_enter Tryd.func11, Tryd.ntmps11
    go_wp2_with (first | (go_at_call 12; refine (type_any _ decl kind name _ (hd1.out _)).mono ?_; rintro e w' ⟨rfl, hb3⟩; rw [hty1.out]; have q0 := (hb3.cell (p := ⟨w.heap.size, 0, none⟩) (by simp)).trans (show _ = some (Value.int .i64 op) by simp); have q1 := (hb3.cell (p := ⟨w.heap.size, 1, none⟩) (by simp)).trans (show _ = some (Value.string kind) by simp); have q2 := (hb3.cell (p := ⟨w.heap.size, 2, none⟩) (by simp)).trans (show _ = some (Value.string name) by simp); have q3 := (hb3.cell (p := ⟨w.heap.size, 3, none⟩) (by simp)).trans (show _ = some (vs) by simp); have q4 := (hb3.cell (p := ⟨w.heap.size, 4, none⟩) (by simp)).trans (show _ = some (Value.slice a kids.length c) by simp)))
    go_ret
    exact ⟨rfl, (hb2.out _).trans (hb3.mono (hb2.out _).size)⟩
  · rw [exprS_stop he (by decide)]
    clear he
    have h6a : 6 ≤ op ∧ op ≤ 15 := of_decide_eq_true h6
    obtain ⟨h6b, h6c⟩ := h6a
    clear h6
    have hty1 := Lib.hid hty
    have hf1 := Lib.hid hf
    clear hty hf
    go_enter Tryd.func11, Tryd.ntmps11
    go_wp2_with (first | (go_at_call 12; refine (type_any _ decl kind name _ (hd1.out _)).mono ?_; rintro e w' ⟨rfl, hb3⟩; rw [hty1.out]; have q0 := (hb3.cell (p := ⟨w.heap.size, 0, none⟩) (by simp)).trans (show _ = some (Value.int .i64 op) by simp); have q1 := (hb3.cell (p := ⟨w.heap.size, 1, none⟩) (by simp)).trans (show _ = some (Value.string kind) by simp); have q2 := (hb3.cell (p := ⟨w.heap.size, 2, none⟩) (by simp)).trans (show _ = some (Value.string name) by simp); have q3 := (hb3.cell (p := ⟨w.heap.size, 3, none⟩) (by simp)).trans (show _ = some (vs) by simp); have q4 := (hb3.cell (p := ⟨w.heap.size, 4, none⟩) (by simp)).trans (show _ = some (Value.slice a kids.length c) by simp)) | (go_at_call 19; refine (fits_any op ty vals kind name vs _ _ ((hv1.out _).mono (sub_of_below hb3))).mono ?_; rintro e w' ⟨rfl, hb5⟩; rw [hf1.out]; have hb6 := hb3.trans (hb5.mono hb3.size); clear q0 q1 q2 q3 q4; have q4 := (hb6.cell (p := ⟨w.heap.size, 4, none⟩) (by simp)).trans (show _ = some (Value.slice a kids.length c) by simp)))
    go_ret
    exact ⟨rfl, (hb2.out _).trans (hb6.mono (hb2.out _).size)⟩
  · rw [exprS_go he]
    clear he
    have h6a : 6 ≤ op ∧ op ≤ 15 := of_decide_eq_true h6
    obtain ⟨h6b, h6c⟩ := h6a
    clear h6
    have hty1 := Lib.hid hty
    have hf1 := Lib.hid hf
    clear hty hf
    go_enter Tryd.func11, Tryd.ntmps11
    go_wp2_with (first | (go_at_call 12; refine (type_any _ decl kind name _ (hd1.out _)).mono ?_; rintro e w' ⟨rfl, hb3⟩; rw [hty1.out]; have q0 := (hb3.cell (p := ⟨w.heap.size, 0, none⟩) (by simp)).trans (show _ = some (Value.int .i64 op) by simp); have q1 := (hb3.cell (p := ⟨w.heap.size, 1, none⟩) (by simp)).trans (show _ = some (Value.string kind) by simp); have q2 := (hb3.cell (p := ⟨w.heap.size, 2, none⟩) (by simp)).trans (show _ = some (Value.string name) by simp); have q3 := (hb3.cell (p := ⟨w.heap.size, 3, none⟩) (by simp)).trans (show _ = some (vs) by simp); have q4 := (hb3.cell (p := ⟨w.heap.size, 4, none⟩) (by simp)).trans (show _ = some (Value.slice a kids.length c) by simp)) | (go_at_call 19; refine (fits_any op ty vals kind name vs _ _ ((hv1.out _).mono (sub_of_below hb3))).mono ?_; rintro e w' ⟨rfl, hb5⟩; rw [hf1.out]; have hb6 := hb3.trans (hb5.mono hb3.size); clear q0 q1 q2 q3 q4; have q4 := (hb6.cell (p := ⟨w.heap.size, 4, none⟩) (by simp)).trans (show _ = some (Value.slice a kids.length c) by simp)))
    go_loopw [46] (fun i wr => ∃ k : Nat, k ≤ kids.length ∧ i = .int .i64 k ∧ Below w.heap.size w wr ∧ Hid (exprL decl segs (kids.drop k) = exprL decl segs kids)) (fun i _ => kids.length - (intOf i).toNat)
    case atStart => exact ⟨0, Nat.zero_le _, rfl, (hb2.out _).trans (hb6.mono (hb2.out _).size), rfl⟩
    case round =>
      obtain ⟨k, hk, rfl, hb, hT⟩ := hrel
      by_cases hlt : k < kids.length
      · rcases hr0.out with he | ⟨blk, off, rfl, hr⟩
        · have := hl0.out
          rw [he] at this
          simp only [List.length_nil] at this
          omega
        have hsub := hS.out.trans (sub_of_below hb)
        obtain ⟨op1, kind1, name1, va, vn, vc, ka, kn, kc, c0, c1, c2, c3, c4, hi⟩ := kid_cells hr hl0.out HE.out IH.out hlt
        clear hr
        have c0 := hsub _ _ c0
        have c1 := hsub _ _ c1
        have c2 := hsub _ _ c2
        have c3 := hsub _ _ c3
        have c4 := hsub _ _ c4
        have hbr : Below wr.heap.size wr (wr.alloc (.cells #[.int .i64 op1, .string kind1, .string name1, .slice va vn vc, .slice ka kn kc] 47)) := (Below.refl _ _).alloc (Nat.le_refl _) _
        have hi0 := Lib.hid (hi _ (hsub.trans (sub_of_below hbr)))
        clear hi hsub
        go_wp2_with (go_at_call 11; refine hi0.out.mono ?_; rintro e w' ⟨rfl, hb4⟩)
        · have h1 : (exprS decl segs kids[k] != 0) = true := by assumption
          go_ret
          exact ⟨ret_int (exprL_hit hlt h1 hT.out), hb.trans ((hbr.trans (hb4.mono hbr.size)).mono hb.size)⟩
        · have h1 : (exprS decl segs kids[k] != 0) = false := by assumption
          go_roundw
          case rel => exact ⟨k + 1, by omega, by go_num, hb.trans ((hbr.trans (hb4.mono hbr.size)).mono hb.size), exprL_miss hlt h1 hT.out⟩
          case measure => simp [intOf]; omega
      · have hE1 := Lib.hid (exprL_end hlt hT.out)
        go_wp2
        go_ret
        exact ⟨ret_int hE1.out.symm, hb⟩

theorem expr_any (decl : List DD) (segs : List ByteArray) (dv sv : Value) (m : Mem) (hd : RowsAt m 3 dv (decl.map DD.row)) (hsg : RowsAt m 1 sv (segs.map strRow)) (d : ED) (r : List Value) (h : EAt m d r) :
    ExprOk 11 decl segs dv sv m d r := by
  induction h with
  | mk rows hv hk hl hL hE ih => exact expr_step decl segs dv sv m hd hsg _ _ _ _ _ _ _ rows hv hk hl hE ih

end Go.Proofs.YtamkmdlfhlbbeaaDoor.schema

