/- A text without its quotation marks: the reference's Unquote and the program's give the same. Plain laws of quoted texts and of decimal numbers. No program in sight. -/
import Derived.Test.YtfffpflflggonaaGreatDoorKTextG
import Derived.Test.YtfffpflflggonaaGreatDoorKTextF
import Derived.Lib.ItoaNum
namespace Go.Proofs.YtfffpflflggonaaGreatDoor.text
open Go.RowKit

/-- What stands between the marks, read: e: was the byte before a backslash that escapes. -/
def unqF : Bool → List UInt8 → Option (List UInt8)
  | false, [] => some []
  | true, [] => none
  | true, c :: r => if c.toNat = 34 ∨ c.toNat = 92 then (unqF false r).map (c :: ·) else none
  | false, c :: r => if c.toNat = 34 then none else if c.toNat = 92 then unqF true r else (unqF false r).map (c :: ·)
def unquoteS (l : List UInt8) : Option (List UInt8) :=
  if l.length < 2 ∨ l.head? ≠ some 34 ∨ l.getLast? ≠ some 34 then none else unqF false ((l.take (l.length - 1)).drop 1)
def unquoteV (l : List UInt8) : Value :=
  match unquoteS l with
  | none => .tuple #[.string ⟨#[]⟩, .int .i64 1]
  | some b => if validS b then .tuple #[.string ⟨b.toArray⟩, .int .i64 0] else .tuple #[.string ⟨#[]⟩, .int .i64 2]

/-- How far the reading has come: acc has been read. -/
def UnqRel (T : Option (List UInt8)) (e : Bool) (acc rest : List UInt8) : Prop := (unqF e rest).map (acc ++ ·) = T
theorem unq_start (l : List UInt8) : UnqRel (unqF false l) false [] l := by
  unfold UnqRel
  cases unqF false l <;> rfl
theorem unq_plain {T : Option (List UInt8)} {acc r : List UInt8} {c : UInt8} (h : UnqRel T false acc (c :: r)) (h1 : c.toNat ≠ 34) (h2 : c.toNat ≠ 92) : UnqRel T false (acc ++ [c]) r := by
  unfold UnqRel at *
  rw [unqF, if_neg h1, if_neg h2, Option.map_map] at h
  rw [← h]
  congr 1
  funext x
  simp
theorem unq_esc {T : Option (List UInt8)} {acc r : List UInt8} {c : UInt8} (h : UnqRel T false acc (c :: r)) (h2 : c.toNat = 92) : UnqRel T true acc r := by
  unfold UnqRel at *
  rw [unqF, if_neg (by omega), if_pos h2] at h
  exact h
theorem unq_escd {T : Option (List UInt8)} {acc r : List UInt8} {c : UInt8} (h : UnqRel T true acc (c :: r)) (h2 : c.toNat = 34 ∨ c.toNat = 92) : UnqRel T false (acc ++ [c]) r := by
  unfold UnqRel at *
  rw [unqF, if_pos h2, Option.map_map] at h
  rw [← h]
  congr 1
  funext x
  simp
theorem unq_quote {T : Option (List UInt8)} {acc r : List UInt8} {c : UInt8} (h : UnqRel T false acc (c :: r)) (h2 : c.toNat = 34) : T = none := by
  unfold UnqRel at h
  rw [unqF, if_pos h2] at h
  exact h.symm
theorem unq_bad {T : Option (List UInt8)} {acc r : List UInt8} {c : UInt8} (h : UnqRel T true acc (c :: r)) (h1 : c.toNat ≠ 34) (h2 : c.toNat ≠ 92) : T = none := by
  unfold UnqRel at h
  rw [unqF, if_neg (by omega)] at h
  exact h.symm
theorem unq_open {T : Option (List UInt8)} {acc : List UInt8} (h : UnqRel T true acc []) : T = none := h.symm
theorem unq_end {T : Option (List UInt8)} {acc : List UInt8} (h : UnqRel T false acc []) : T = some acc := by
  unfold UnqRel at h
  rw [unqF] at h
  simpa using h.symm

theorem head_byte' {s : ByteArray} (h : 0 < s.size) : s.data.toList.head? = some s[0] := by
  rw [List.head?_eq_getElem?, Array.getElem?_toList]
  exact Array.getElem?_eq_getElem (show 0 < s.data.size from h)
/-- The text between the marks. -/
def innerL (s : ByteArray) : List UInt8 := (s.data.toList.take (s.size - 1)).drop 1
theorem unquoteV_short {s : ByteArray} (h : s.size < 2) : unquoteV s.data.toList = .tuple #[.string ⟨#[]⟩, .int .i64 1] := by
  unfold unquoteV unquoteS
  rw [if_pos (Or.inl (by simpa using h))]
theorem unquoteV_first {s : ByteArray} (h : 0 < s.size) (h1 : s[0].toNat ≠ 34) : unquoteV s.data.toList = .tuple #[.string ⟨#[]⟩, .int .i64 1] := by
  unfold unquoteV unquoteS
  have hh : s.data.toList.head? ≠ some 34 := by
    have : s.data.toList.head? = some s[0] := head_byte' h
    rw [this]
    intro e
    injection e with e
    exact h1 (by rw [e]; rfl)
  rw [if_pos (Or.inr (Or.inl hh))]
theorem last_byte {s : ByteArray} (h : 0 < s.size) : s.data.toList.getLast? = some (s[s.size - 1]'(by omega)) := by
  have e : s.data.toList.length - 1 = s.size - 1 := by simp
  rw [List.getLast?_eq_getElem?, e, Array.getElem?_toList]
  exact Array.getElem?_eq_getElem (show s.size - 1 < s.data.size by have : s.data.size = s.size := rfl; omega)
theorem unquoteV_last {s : ByteArray} (h : 0 < s.size) (h1 : (s[s.size - 1]'(by omega)).toNat ≠ 34) : unquoteV s.data.toList = .tuple #[.string ⟨#[]⟩, .int .i64 1] := by
  unfold unquoteV unquoteS
  have hh : s.data.toList.getLast? ≠ some 34 := by
    rw [last_byte h]
    intro e
    injection e with e
    exact h1 (by rw [e]; rfl)
  rw [if_pos (Or.inr (Or.inr hh))]
theorem unquoteS_inner {s : ByteArray} (h : 2 ≤ s.size) (h1 : (s[0]'(by omega)).toNat = 34) (h2 : (s[s.size - 1]'(by omega)).toNat = 34) : unquoteS s.data.toList = unqF false (innerL s) := by
  unfold unquoteS innerL
  have e1 : s.data.toList.head? = some 34 := by
    have : s.data.toList.head? = some (s[0]'(by omega)) := head_byte' (by omega)
    rw [this]
    exact congrArg some (UInt8.toNat_inj.1 h1)
  have e2 : s.data.toList.getLast? = some 34 := by
    rw [last_byte (by omega)]
    exact congrArg some (UInt8.toNat_inj.1 h2)
  have e3 : s.data.toList.length = s.size := by simp
  rw [if_neg (by rw [e1, e2, e3]; simp; omega), e3]
theorem ret_none {s : ByteArray} (h : unquoteS s.data.toList = none) : Ending.returned (.tuple #[.string ⟨#[]⟩, .int .i64 1]) = .returned (unquoteV s.data.toList) := by rw [unquoteV, h]
theorem ret_inval {s : ByteArray} {b : List UInt8} (h : unquoteS s.data.toList = some b) (hv : validS b = false) : Ending.returned (.tuple #[.string ⟨#[]⟩, .int .i64 2]) = .returned (unquoteV s.data.toList) := by
  rw [unquoteV, h]
  simp [hv]
theorem ret_read {s : ByteArray} {b : List UInt8} (h : unquoteS s.data.toList = some b) (hv : validS b = true) : Ending.returned (.tuple #[.string ⟨b.toArray⟩, .int .i64 0]) = .returned (unquoteV s.data.toList) := by
  rw [unquoteV, h]
  simp [hv]

theorem inner_byte {s : ByteArray} {k : Nat} (h1 : 1 ≤ k) (h : k + 1 < s.size) : (innerL s).drop (k - 1) = s[k] :: (innerL s).drop k := by
  unfold innerL
  rw [List.drop_drop, List.drop_drop]
  have e : 1 + (k - 1) = k := by omega
  have e2 : 1 + k = k + 1 := by omega
  rw [e, e2, List.drop_eq_getElem_cons (by simp; omega)]
  congr 1
  simp
  rfl
theorem inner_end {s : ByteArray} {k : Nat} (h : s.size ≤ k + 1) : (innerL s).drop (k - 1) = [] := by
  unfold innerL
  rw [List.drop_drop]
  exact List.drop_eq_nil_of_le (by simp; omega)

/-- What the reference's loop knows at the head of a round. -/
def RefRel (s : ByteArray) (w wr : World) (k : Nat) (va : Option Addr) (n vc : Nat) (acc : List UInt8) : Prop :=
  UnqRel (unquoteS s.data.toList) false acc ((innerL s).drop (k - 1)) ∧ n = acc.length ∧ BS w.heap.size (.slice va n vc) acc wr ∧ Below w.heap.size w wr

set_option maxRecDepth 100000 in
set_option maxHeartbeats 2000000 in
theorem unquote_ref (s : ByteArray) (w : World) (hs : s.size ≤ 140737488355328) (hT : RuneTabs w) :
    Calls Tryz.prog 116 #[.string s] w fun e w' => e = .returned (unquoteV s.data.toList) ∧ Below w.heap.size w w' := by
  go_enter Tryz.func116, Tryz.ntmps116
  by_cases h2 : s.size < 2
  · have hE := Lib.hid (unquoteV_short h2)
    have h3 : s.size = 0 ∨ s.size = 1 := by omega
    go_wp2
    go_ret2
    exact ⟨by rw [hE.out]; rfl, Below.refl _ _⟩
  have hp : 0 < s.size := by omega
  by_cases hf : s[0].toNat = 34
  rotate_left
  · have hE := Lib.hid (unquoteV_first hp hf)
    go_wp2
    go_ret2
    exact ⟨by rw [hE.out]; rfl, Below.refl _ _⟩
  by_cases hl : (s[s.size - 1]'(by omega)).toNat = 34
  rotate_left
  · have hE := Lib.hid (unquoteV_last hp hl)
    have hl1 : (((s[s.size - 1]'(by omega)).toNat : Int) != 34) = true := by simp; omega
    go_wp2
    go_ret2
    exact ⟨by rw [hE.out]; rfl, Below.refl _ _⟩
  have hI := Lib.hid (unquoteS_inner (by omega) hf hl)
  have hS := Lib.hid (show RefRel s w w 1 none 0 0 [] from ⟨by rw [hI.out]; exact unq_start _, rfl, bs_nil _ _, Below.refl _ _⟩)
  clear hI
  replace hT := Lib.hid hT
  have hl1 : (((s[s.size - 1]'(by omega)).toNat : Int) != 34) = false := by simp; omega
  have hf1 : ((s[0].toNat : Int) != 34) = false := by simp; omega
  have hd2 : decide ((s.size : Int) < 2) = false := by simp; omega
  clear hf hl
  go_wp2
  clear hd2 hl1 hf1
  go_loopw [5, 6] (fun v i wr => ∃ k va n vc, v = .slice va n vc ∧ i = .int .i64 (k : Nat) ∧ 1 ≤ k ∧ k + 1 ≤ s.size ∧ n + 1 ≤ k ∧ ∃ acc, Hid (RefRel s w wr k va n vc acc)) (fun _ i _ => s.size - (intOf i).toNat)
  case atStart => exact ⟨1, none, 0, 0, rfl, rfl, by omega, by omega, by omega, [], hS.out⟩
  case round =>
    clear hS
    obtain ⟨k, va, n, vc, rfl, rfl, hk1, hk2, hnk, acc, hR⟩ := hrel
    obtain ⟨hU, hn, hB, hb⟩ := hR.out
    replace hU := Lib.hid hU
    replace hn := Lib.hid hn
    replace hB := Lib.hid hB
    have hz := hb.size
    replace hb := Lib.hid hb
    by_cases hlt : k + 1 < s.size
    · have hD := Lib.hid (inner_byte hk1 hlt)
      replace hU := Lib.hid (show UnqRel (unquoteS s.data.toList) false acc (s[k] :: (innerL s).drop k) by rw [← hD.out]; exact hU.out)
      by_cases h34 : s[k].toNat = 34
      · have hE := Lib.hid (ret_none (unq_quote hU.out h34))
        go_wp2
        go_ret2
        exact ⟨hE.out, hb.out⟩
      by_cases h92 : s[k].toNat = 92
      · replace hU := Lib.hid (unq_esc hU.out h92)
        by_cases hl2 : k + 2 < s.size
        · have hD2 := Lib.hid (inner_byte (k := k + 1) (by omega) hl2)
          replace hU := Lib.hid (show UnqRel (unquoteS s.data.toList) true acc (s[k + 1] :: (innerL s).drop (k + 1)) by rw [← hD2.out]; exact hU.out)
          by_cases hq : s[k + 1].toNat = 34 ∨ s[k + 1].toNat = 92
          · replace hU := Lib.hid (unq_escd hU.out hq)
            have hcc : s[k + 1].toNat = 34 ∨ (((s[k + 1].toNat : Int) != 34) = true ∧ s[k + 1].toNat = 92) := by
              rcases hq with hq | hq
              · exact Or.inl hq
              · exact Or.inr ⟨by simp; omega, hq⟩
            clear hq
            rcases hcc with hq | ⟨hq1, hq⟩
            all_goals
              go_wp2_with (at_builtin; refine wpList_append_byte rfl _ _ rfl w.heap.size va n vc acc s[k + 1] rfl hB.out hn.out rfl (by rw [hq]; rfl) (by omega) (by omega) ?_; intro g' cap' w3 hB3 hb4 hlt3; replace hb4 := Lib.hid hb4; replace hB3 := Lib.hid hB3)
              go_roundw
              case rel => exact ⟨k + 2, _, _, _, rfl, by go_num, by omega, by omega, by omega, acc ++ [s[k + 1]], hU.out, by rw [hn.out]; simp, hB3.out, hb.out.trans hb4.out⟩
              case measure => simp [intOf]; omega
          · have hE := Lib.hid (ret_none (unq_bad hU.out (by omega) (by omega)))
            have hq1 : ((s[k + 1].toNat : Int) != 34) = true := by simp; omega
            have hq2 : ((s[k + 1].toNat : Int) != 92) = true := by simp; omega
            clear hq
            go_wp2
            go_ret2
            exact ⟨hE.out, hb.out⟩
        · have hE := Lib.hid (ret_none (unq_open (by have h9 := hU.out; rw [show (innerL s).drop k = [] from inner_end (k := k + 1) (by omega)] at h9; exact h9)))
          go_wp2
          go_ret2
          exact ⟨hE.out, hb.out⟩
      · replace hU := Lib.hid (unq_plain hU.out h34 h92)
        have hn1 : ((s[k].toNat : Int) == 34) = false := by simp; omega
        have hn2 : ((s[k].toNat : Int) == 92) = false := by simp; omega
        clear h34 h92
        go_wp2_with (at_builtin; refine wpList_append_byte rfl _ _ rfl w.heap.size va n vc acc s[k] rfl hB.out hn.out rfl rfl (by omega) (by omega) ?_; intro g' cap' w3 hB3 hb4 hlt3; replace hb4 := Lib.hid hb4; replace hB3 := Lib.hid hB3)
        go_roundw
        case rel => exact ⟨k + 1, _, _, _, rfl, by go_num, by omega, by omega, by omega, acc ++ [s[k]], hU.out, by rw [hn.out]; simp, hB3.out, hb.out.trans hb4.out⟩
        case measure => simp [intOf]; omega
    · have hE := Lib.hid (unq_end (T := unquoteS s.data.toList) (acc := acc) (by have h9 := hU.out; rw [inner_end (by omega)] at h9; exact h9))
      have hcv := convert_bytes hB.out
      go_wp2_with fail
      refine (valid_ref _ _ (Utf8Tabs_below hT.out hb.out)).mono ?_
      rintro e w2 ⟨rfl, hb2⟩
      have hcv2 := convert_bytes (hB.out.below hb2)
      replace hb2 := Lib.hid (hb.out.trans (hb2.mono hz))
      cases hv : validS acc with
      | false =>
        have hQ := Lib.hid (ret_inval hE.out hv)
        go_wp2
        go_ret2
        exact ⟨hQ.out, hb2.out⟩
      | true =>
        have hQ := Lib.hid (ret_read hE.out hv)
        go_wp2
        go_ret2
        exact ⟨hQ.out, hb2.out⟩

end Go.Proofs.YtfffpflflggonaaGreatDoor.text

namespace Go.Proofs.YtfffpflflggonaaGreatDoor.text

end Go.Proofs.YtfffpflflggonaaGreatDoor.text
