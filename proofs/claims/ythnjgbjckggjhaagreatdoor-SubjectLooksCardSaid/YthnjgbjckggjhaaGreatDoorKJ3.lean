/- Which texts are valid: the reference's Valid, by bytes, and the program's, by runes, give the same. strings.Builder's copyCheck and WriteByte, walked over this program: a builder that the call itself has made holds one byte more. The quoted form of a text: the program's, by a builder. Texts in order, and values: what Check, Compare and Format give, said plainly. No program in sight. What a row's list of variables gives the walks: the tables of utf8 and strconv, strconv's sentinel, and that bytealg's limit holds some number; that they stay where a call makes memory only. -/
import Derived.Test.YthnjgbjckggjhaaGreatDoorKJ2
import Derived.Test.YthnjgbjckggjhaaGreatDoorShelf
import Derived.WalkSmall
import Derived.Test.YthnjgbjckggjhaaGreatDoorChecked
import Derived.Test.YthnjgbjckggjhaaGreatDoorKJ1
import Derived.WalkKit
import Derived.WalkSpells
import Derived.WalkLawsBesides
import Derived.Lib.Builder
import Derived.Lib.Hide
import Derived.Deep.AppendLies
import Derived.KernelRfl
import Derived.Lib.LaidU8T
import Derived.Lib.LaidTab
import Derived.LaidMore
import Derived.Lib.ItoaNum
namespace Go.Proofs.YthnjgbjckggjhaaGreatDoor.text
open Go.RowKit

/-- A byte that may stand in a text. -/
def okT (c : UInt8) : Bool := decide (32 ≤ c.toNat) && decide (c.toNat ≠ 127)
def validS (l : List UInt8) : Bool := decide (l.length ≤ 200) && Lib.validD l && l.all okT

theorem all_skip (s : ByteArray) (k : Nat) : ∀ q, k + q ≤ s.size → (∀ j (h : k + j < s.size), j < q → okT s[k + j] = true) → (s.data.toList.drop k).all okT = (s.data.toList.drop (k + q)).all okT
  | 0, _, _ => rfl
  | q + 1, hq, h => by
    rw [all_skip s k q (by omega) fun j hj hlt => h j hj (by omega), drop_byte s (k + q) (by omega), List.all_cons, h q (by omega) (by omega)]
    rfl

/-- The bytes of a rune that is not of one byte. -/
theorem decode_bytes (s : ByteArray) (pos : Nat) (h : pos < s.size) (ha : 128 ≤ (s[pos]'h).toNat) :
    pos + (Utf8.decode s pos).2 ≤ s.size ∧ ∀ j (h : pos + j < s.size), j < (Utf8.decode s pos).2 → 128 ≤ s[pos + j].toNat := by
  have hn : ¬ (s[pos]'h).toNat < 128 := by omega
  have hg : ∀ j (hj : pos + j < s.size), s[pos + j].toNat = (s.get! (pos + j)).toNat := by
    intro j hj
    have := get_at s (pos + j) hj
    rw [Nat.add_zero] at this
    rw [this]
  have key : (Utf8.decode s pos).2 = 1 ∨ ((Utf8.decode s pos).2 = 2 ∧ pos + 1 < s.size ∧ 128 ≤ (s.get! (pos + 1)).toNat) ∨ ((Utf8.decode s pos).2 = 3 ∧ pos + 2 < s.size ∧ 128 ≤ (s.get! (pos + 1)).toNat ∧ 128 ≤ (s.get! (pos + 2)).toNat) ∨
      ((Utf8.decode s pos).2 = 4 ∧ pos + 3 < s.size ∧ 128 ≤ (s.get! (pos + 1)).toNat ∧ 128 ≤ (s.get! (pos + 2)).toNat ∧ 128 ≤ (s.get! (pos + 3)).toNat) := by
    simp only [Utf8.decode, get_at s pos h, hn, if_false]
    repeat' split
    all_goals simp_all
    all_goals omega
  have h0 : s[pos + 0].toNat = s[pos].toNat := rfl
  rcases key with hk | ⟨hk, h1, h2⟩ | ⟨hk, h1, h2, h3⟩ | ⟨hk, h1, h2, h3, h4⟩
  all_goals rw [hk]
  all_goals refine ⟨by omega, ?_⟩
  all_goals
    intro j hj hlt
    rw [hg j hj]
    have hz := hg 0 h
    rcases j with _ | _ | _ | _ | j
    all_goals first | omega | (simp only [Nat.zero_add]; omega)

abbrev RuneTabs (w : World) : Prop := Lib.Utf8Tabs (Tryz.laysValid_ren.g 3) (Tryz.laysValid_ren.g 4) w

theorem utf8_any (s : ByteArray) (w : World) (hs : s.size ≤ 200) (hT : RuneTabs w) :
    Calls Tryz.prog 46 #[.string s] w fun e w' => e = .returned (.bool (Lib.validD s.data.toList)) ∧ Below w.heap.size w w' :=
  Any.utf8_ValidString Tryz.laysValid s w (by omega) hT

theorem valid_long {s : ByteArray} (h : 200 < s.size) : false = validS s.data.toList := by
  unfold validS
  have h' : ¬ s.data.toList.length ≤ 200 := by simpa using h
  simp only [h', decide_false, Bool.false_and]
theorem valid_bad8 {l : List UInt8} (h : Lib.validD l = false) : false = validS l := by unfold validS; simp [h]
theorem valid_byte {s : ByteArray} {k : Nat} (h : k < s.size) (ho : okT s[k] = false) (T : (s.data.toList.drop k).all okT = s.data.toList.all okT) : false = validS s.data.toList := by
  unfold validS
  rw [← T, drop_byte s k h, List.all_cons, ho]
  simp
theorem valid_end {s : ByteArray} {k : Nat} (h : ¬ k < s.size) (hl : ¬ 200 < s.size) (hv : Lib.validD s.data.toList = true) (T : (s.data.toList.drop k).all okT = s.data.toList.all okT) : true = validS s.data.toList := by
  unfold validS
  have h' : s.data.toList.length ≤ 200 := by simpa using hl
  rw [← T, List.drop_eq_nil_of_le (by simp; omega), hv]
  simp only [h', decide_true, List.all_nil, Bool.and_self]
theorem valid_go {s : ByteArray} {k : Nat} (h : k < s.size) (ho : okT s[k] = true) (T : (s.data.toList.drop k).all okT = s.data.toList.all okT) : (s.data.toList.drop (k + 1)).all okT = s.data.toList.all okT := by
  rw [← T, drop_byte s k h, List.all_cons, ho]
  rfl
theorem okT_of {c : UInt8} (h : 32 ≤ c.toNat) (h2 : c.toNat ≠ 127) : okT c = true := by unfold okT; simp [h, h2]
theorem okT_low {c : UInt8} (h : c.toNat < 32) : okT c = false := by unfold okT; simp; omega
theorem okT_del {c : UInt8} (h : c.toNat = 127) : okT c = false := by unfold okT; simp [h]

set_option maxHeartbeats 1000000 in
theorem valid_any (s : ByteArray) (w : World) (hT : RuneTabs w) :
    Calls Tryz.prog 30 #[.string s] w fun e w' => e = .returned (.bool (validS s.data.toList)) ∧ Below w.heap.size w w' := by
  go_enter Tryz.func30, Tryz.ntmps30
  by_cases hl : 200 < s.size
  · go_wp2
    go_ret
    exact ⟨ret_bool (valid_long hl), Below.refl _ _⟩
  go_wp2_with fail
  refine (utf8_any s _ (by omega) hT).mono ?_
  rintro e w1 ⟨rfl, hb⟩
  have hb := Lib.hid hb
  clear hT
  cases hv : Lib.validD s.data.toList with
  | false =>
    go_wp2
    go_ret
    exact ⟨ret_bool (valid_bad8 hv), hb.out⟩
  | true =>
    have hV := Lib.hid hv
    have hs1 := hb.out.size
    clear hv
    go_wp2
    go_loopw [4] (fun _ wr => ∃ k : Nat, k ≤ s.size ∧ wr = w1.iter s k ∧ Hid ((s.data.toList.drop k).all okT = s.data.toList.all okT)) (fun _ wr => s.size - wr.iterPos w1.heap.size)
    case atStart => exact ⟨0, Nat.zero_le _, rfl, rfl⟩
    case round =>
      obtain ⟨k, hk, rfl, hT⟩ := hrel
      by_cases hlt : k < s.size
      · have hnx : ∀ ty, (Instr.next (.pointer (some ⟨w1.heap.size, 0, none⟩)) true ty).run Tryz.prog (w1.iter s k) = _ := fun ty => run_next_any w1 s k ty hlt
        by_cases ha : s[k].toNat < 128
        · simp only [decode_ascii s k hlt ha] at hnx
          rcases Nat.lt_or_ge s[k].toNat 32 with h1 | h1
          · have hE := Lib.hid (valid_byte hlt (okT_low h1) hT.out)
            go_wp2
            all_goals first
              | (go_ret; exact ⟨ret_bool hE.out, hb.out.alloc (by omega) _⟩)
              | (exfalso; clear hT hE; simp at *; omega)
          · by_cases h2 : s[k].toNat = 127
            · have hE := Lib.hid (valid_byte hlt (okT_del h2) hT.out)
              go_wp2
              all_goals first
                | (go_ret; exact ⟨ret_bool hE.out, hb.out.alloc (by omega) _⟩)
                | (exfalso; clear hT hE; simp at *; omega)
            · have hE := Lib.hid (valid_go hlt (okT_of h1 h2) hT.out)
              go_wp2
              all_goals first
                | (go_roundw
                   case rel => exact ⟨k + 1, by omega, rfl, hE.out⟩
                   case measure => simp; omega)
                | (exfalso; clear hT hE; simp at *; omega)
        · have hd := decode_high s k hlt (by omega)
          have hB := decode_bytes s k hlt (by omega)
          have hE := Lib.hid ((all_skip s k (Utf8.decode s k).2 hB.1 (fun j hj hq => okT_of (by have := hB.2 j hj hq; omega) (by have := hB.2 j hj hq; omega))).symm.trans hT.out)
          have hB1 := hB.1
          clear hB
          generalize (Utf8.decode s k).1 = r at hd hnx
          generalize (Utf8.decode s k).2 = q at hd hnx hE hB1
          go_wp2
          all_goals first
            | (go_roundw
               case rel => exact ⟨k + q, by omega, rfl, hE.out⟩
               case measure => simp; omega)
            | (exfalso; clear hT hE; simp at *; omega)
      · have hE := Lib.hid (valid_end hlt hl hV.out hT.out)
        have hnx : ∀ ty, (Instr.next (.pointer (some ⟨w1.heap.size, 0, none⟩)) true ty).run Tryz.prog (w1.iter s k) = _ := fun ty => run_next_end w1 s k ty hlt
        go_wp2
        go_ret
        exact ⟨ret_bool hE.out, hb.out.alloc (by omega) _⟩

end Go.Proofs.YthnjgbjckggjhaaGreatDoor.text

namespace Go.Proofs.YthnjgbjckggjhaaGreatDoor.text
open Go.RowKit

theorem info47 : (Tryz.prog.info? 81).map (fun i => (i.size, i.bytes)) = some (2, 32) := by kernel_rfl
theorem infoByte : (Tryz.prog.info? 5).map (fun i => (i.zero, i.size, i.bytes)) = some (some (.int .u8 0), 1, 1) := by kernel_rfl

set_option maxHeartbeats 1000000 in
theorem copyCheck_fresh (b : Nat) (w : World) (v : Value) (h : Own w b #[.pointer none, v] 81) :
    Calls Tryz.prog 48 #[.pointer (some ⟨b, 0, none⟩)] w fun e w' => e = .returned (.tuple #[]) ∧ w' = w.setCell ⟨b, 0, none⟩ (.pointer (some ⟨b, 0, none⟩)) := by
  have c0 := h.cell 0
  have f0 := h.free 0
  simp at c0
  have hsh : w.shape? b = some (81, 2) := by unfold Own at h; simp [World.shape?, h]
  obtain ⟨i, hi⟩ : ∃ i, Tryz.prog.info? 81 = some i := by
    cases hq : Tryz.prog.info? 81 with
    | none => have := info47; rw [hq] at this; cases this
    | some i => exact ⟨i, rfl⟩
  have hsz : i.size ≠ 0 := by have := info47; rw [hi] at this; simp at this; omega
  have hu := Lib.run_to_unsafe (P := Tryz.prog) w (j := i) (e := 81) (cells := 2) ⟨b, 0, none⟩ Tryz.underlying79 Tryz.underlying105 hi hsz hsh (show (0 : Nat) < 2 from by omega)
  have hf := Lib.run_from_unsafe (P := Tryz.prog) w (j := i) (e := 81) (cells := 2) ⟨b, 0, none⟩ Tryz.underlying105 Tryz.underlying79 hi hsh (by kernel_rfl)
  have hn : (callFunc 55 #[.pointer (some ⟨b, 0, none⟩)]).run Tryz.prog w = .ok (.value (.pointer (some ⟨b, 0, none⟩))) w := by kernel_rfl
  go_enter Tryz.func48, Tryz.ntmps48
  go_wp2
  go_end0
  exact ⟨rfl, rfl⟩

set_option maxHeartbeats 1000000 in
theorem copyCheck_used (b : Nat) (w : World) (v : Value) (h : Own w b #[.pointer (some ⟨b, 0, none⟩), v] 81) :
    Calls Tryz.prog 48 #[.pointer (some ⟨b, 0, none⟩)] w fun e w' => e = .returned (.tuple #[]) ∧ w = w' := by
  have c0 := h.cell 0
  simp at c0
  obtain ⟨i, hi⟩ : ∃ i, Tryz.prog.info? 81 = some i := by
    cases hq : Tryz.prog.info? 81 with
    | none => have := info47; rw [hq] at this; cases this
    | some i => exact ⟨i, rfl⟩
  have hn := Lib.run_neq_ptr_same (P := Tryz.prog) w (tp := 79) (j := i) ⟨b, 0, none⟩ Tryz.underlying79 hi
  go_enter Tryz.func48, Tryz.ntmps48
  go_wp2
  go_end0
  exact ⟨rfl, rfl⟩

/-- A builder that the call has made, with these bytes. -/
abbrev IsB (B b : Nat) (l : List UInt8) (w : World) : Prop := Lib.IsBuilder 81 5 B b (Lib.byteCells l) w

theorem copyCheck_any (B b : Nat) (l : List UInt8) (w : World) (h : IsB B b l w) :
    Calls Tryz.prog 48 #[.pointer (some ⟨b, 0, none⟩)] w fun e w' => e = .returned (.tuple #[]) ∧ (Lib.BuilderAt 81 5 B b (.pointer (some ⟨b, 0, none⟩)) (Lib.byteCells l) w' ∧ Below B w w') := by
  rcases h with h | h
  · have h' := h
    obtain ⟨hB, v, hb, -, -⟩ := h
    refine (copyCheck_fresh b w v hb).mono ?_
    rintro e w' ⟨rfl, rfl⟩
    exact ⟨rfl, h'.used _, (Below.refl B w).setCell (p := ⟨b, 0, none⟩) hB _⟩
  · have h' := h
    obtain ⟨hB, v, hb, -, -⟩ := h
    refine (copyCheck_used b w v hb).mono ?_
    rintro e w' ⟨rfl, rfl⟩
    exact ⟨rfl, h', Below.refl B _⟩

set_option maxHeartbeats 1000000 in
theorem writeByte_any (B b : Nat) (l : List UInt8) (u : UInt8) (c : Int) (hc : c = u.toNat) (w : World) (h : IsB B b l w) (hl : l.length + 1 ≤ 140737488355328) (hB : B ≤ w.heap.size) :
    Calls Tryz.prog 41 #[.pointer (some ⟨b, 0, none⟩), .int .u8 c] w fun e w' => e = .returned .nilIface ∧ (IsB B b (l ++ [u]) w' ∧ Below B w w') := by
  obtain ⟨i0, hi, hz0, hz1, hz2⟩ := info_parts infoByte
  have hc0 := Lib.hid hc
  clear hc
  go_enter Tryz.func41, Tryz.ntmps41
  go_wp2_with fail
  refine (copyCheck_any B b l _ h).mono ?_
  rintro e w1 ⟨rfl, h1, hb1⟩
  obtain ⟨hBb, v, hbk, hown, hne⟩ := h1
  obtain ⟨va, vc, rfl⟩ := owns_slice hown
  have hO := Lib.hid (show Own w1 b #[.pointer (some ⟨b, 0, none⟩), .slice va (Lib.byteCells l).length vc] 81 from hbk)
  have c0 := hO.out.cell 0
  have c1 := hO.out.cell 1
  simp at c0 c1
  have hlb : (Lib.byteCells l).length = l.length := by simp [Lib.byteCells]
  rw [hlb] at hown hne c1
  have hs1 := hb1.size
  have hb10 := Lib.hid hb1
  have hown0 := Lib.hid hown
  have hne0 := Lib.hid hne
  clear hown hbk hne hlb hb1
  go_wp2_with (at_builtin; refine wpList_append_lies _ rfl _ _ _ rfl B 5 i0 (.int .u8 0) 1 1 Tryz.underlying25 hi hz0 hz1 hz2 rfl (by decide) (.slice va l.length vc) l.length (Lib.byteCells l) rfl (hown0.out.alloc _) ⟨w1.heap.size, 0, none⟩ 1 1 [.int .u8 c] rfl rfl (World.news_of_block (cs := #[.int .u8 c]) (t := 5) (fr := (0, 0)) (Own.new' rfl)) (by simp [Value.oneCell']) (by decide) (by unfold maxLen; omega) (by omega) (by simp; omega) (w1.heap.size + 1) (by simp) ?_; intro g cap w2 hown2 hgrow hat hlt; have hO2 := (hO.out.alloc _).kept hgrow hne0.out; have d0 := hO2.cell 0; have d1 := hO2.cell 1; have d2 := hO2.free 1; simp at d0 d1)
  go_ret
  have e1 : Lib.byteCells (l ++ [u]) = Lib.byteCells l ++ [Value.int .u8 c] := by rw [hc0.out]; simp [Lib.byteCells]
  have e2 : (Lib.byteCells (l ++ [u])).length = l.length + 1 := by simp [Lib.byteCells]
  refine ⟨rfl, Or.inr (Lib.BuilderAt.put hBb hO2 (bs' := Lib.byteCells (l ++ [u])) (by rw [e2, e1]; exact hown2) (by decide)), ?_⟩
  exact (((hb10.out.alloc (by omega) _).grown hgrow (by simp; omega) (fun k hk => ((hown0.out).lt k hk).1)).setCell (p := ⟨b, 1, none⟩) hBb _)

theorem fresh_any (w : World) : IsB w.heap.size w.heap.size [] (w.alloc (.cells #[.pointer none, .slice none 0 0] 81)) := Lib.fresh_isBuilder _ _ w

end Go.Proofs.YthnjgbjckggjhaaGreatDoor.text

namespace Go.Proofs.YthnjgbjckggjhaaGreatDoor.text
open Go.RowKit

def esc (c : UInt8) : List UInt8 := if c.toNat = 34 ∨ c.toNat = 92 then [92, c] else [c]
def escL (l : List UInt8) : List UInt8 := l.flatMap esc
def quoteS (l : List UInt8) : List UInt8 := 34 :: (escL l ++ [34])
/-- What both Quote give. -/
def quoteV (l : List UInt8) : Value := if validS l then .tuple #[.string ⟨(quoteS l).toArray⟩, .int .i64 0] else .tuple #[.string ⟨#[]⟩, .int .i64 2]

theorem esc_len (c : UInt8) : (esc c).length ≤ 2 := by unfold esc; split <;> simp
theorem escL_len : ∀ l : List UInt8, (escL l).length ≤ 2 * l.length
  | [] => by simp [escL]
  | c :: r => by have := escL_len r; have := esc_len c; simp only [escL, List.flatMap_cons, List.length_append, List.length_cons] at *; omega
theorem take_byte (s : ByteArray) (k : Nat) (h : k < s.size) : s.data.toList.take (k + 1) = s.data.toList.take k ++ [s[k]] := by
  rw [List.take_succ_eq_append_getElem (by simpa using h)]; rfl
theorem escL_take (s : ByteArray) (k : Nat) (h : k < s.size) : escL (s.data.toList.take (k + 1)) = escL (s.data.toList.take k) ++ esc s[k] := by
  rw [take_byte s k h]; simp [escL]
theorem valid_size {l : List UInt8} (h : validS l = true) : l.length ≤ 200 := by
  unfold validS at h
  simp at h
  exact h.1.1

theorem esc_two {c : UInt8} (h : c.toNat = 34 ∨ c.toNat = 92) : esc c = [92, c] := by unfold esc; rw [if_pos h]
theorem esc_one {c : UInt8} (h : c.toNat ≠ 34) (h2 : c.toNat ≠ 92) : esc c = [c] := by unfold esc; rw [if_neg (by omega)]
theorem quote_len (s : ByteArray) (k : Nat) (h : k ≤ s.size) (hs : s.size ≤ 200) : (34 :: escL (s.data.toList.take k)).length ≤ 401 := by
  have h1 := escL_len (s.data.toList.take k)
  have h2 : (s.data.toList.take k).length ≤ k := by simp [List.length_take]; omega
  simp only [List.length_cons]
  omega
theorem isB_eq {B b : Nat} {l l' : List UInt8} {w : World} (h : IsB B b l w) (e : l = l') : IsB B b l' w := e ▸ h
theorem quote_bad {l : List UInt8} (h : validS l = false) : Ending.returned (.tuple #[.string ⟨#[]⟩, .int .i64 2]) = .returned (quoteV l) := by rw [quoteV, h]; rfl
theorem quote_good {l L : List UInt8} (h : validS l = true) (e : 34 :: escL l = L) : Ending.returned (.tuple #[.string ⟨(L ++ [34]).toArray⟩, .int .i64 0]) = .returned (quoteV l) := by rw [quoteV, h, ← e]; rfl

set_option maxHeartbeats 1000000 in
theorem quote_any (s : ByteArray) (w : World) (hT : RuneTabs w) :
    Calls Tryz.prog 27 #[.string s] w fun e w' => e = .returned (quoteV s.data.toList) ∧ Below w.heap.size w w' := by
  go_enter Tryz.func27, Tryz.ntmps27
  go_wp2_with fail
  refine (valid_any s _ hT).mono ?_
  rintro e w1 ⟨rfl, hb⟩
  have hb := Lib.hid hb
  clear hT
  cases hv : validS s.data.toList with
  | false =>
    have hQ := Lib.hid (quote_bad hv)
    clear hv
    go_wp2
    go_ret2
    exact ⟨hQ.out, hb.out⟩
  | true =>
    have hV := Lib.hid hv
    have hs : s.size ≤ 200 := by simpa using valid_size hv
    have hs1 := hb.out.size
    clear hv
    go_wp2_with fail
    refine (writeByte_any w1.heap.size w1.heap.size [] 34 34 (by decide) _ (fresh_any w1) (by simp) (by simp)).mono ?_
    rintro e w2 ⟨rfl, hB, hb2⟩
    have hB := Lib.hid hB
    have hb2 := Lib.hid ((Below.refl w1.heap.size w1).alloc (Nat.le_refl _) _ |>.trans hb2)
    go_wp2
    go_loopw [5] (fun i wr => ∃ k : Nat, k ≤ s.size ∧ i = .int .i64 k ∧ Hid (IsB w1.heap.size w1.heap.size (34 :: escL (s.data.toList.take k)) wr) ∧ Hid (Below w1.heap.size w1 wr)) (fun i _ => s.size - (intOf i).toNat)
    case atStart => exact ⟨0, Nat.zero_le _, rfl, hB.out, hb2.out⟩
    case round =>
      clear hB hb2
      obtain ⟨k, hk, rfl, hB, hb2⟩ := hrel
      have hz2 := hb2.out.size
      have hlen := quote_len s k hk hs
      obtain ⟨L, hL⟩ : ∃ L, Hid (34 :: escL (s.data.toList.take k) = L) := ⟨_, rfl⟩
      rw [hL.out] at hlen
      have hB := Lib.hid (isB_eq hB.out hL.out)
      by_cases hlt : k < s.size
      · have hT := Lib.hid (escL_take s k hlt)
        by_cases hq : s[k].toNat = 34 ∨ s[k].toNat = 92
        · have hE := Lib.hid (esc_two hq)
          rcases hq with hq | hq
          all_goals
            go_wp2_with fail
            refine (writeByte_any w1.heap.size w1.heap.size L 92 92 (by decide) _ hB.out (by omega) (by omega)).mono ?_
            rintro e w3 ⟨rfl, hB3, hb3⟩
            have hB3 := Lib.hid hB3
            have hz3 := hb3.size
            have hb3 := Lib.hid (hb2.out.trans hb3)
            have hl3 : (L ++ [92]).length + 1 ≤ 140737488355328 := by simp; omega
            go_wp2_with fail
            refine (writeByte_any w1.heap.size w1.heap.size (L ++ [92]) s[k] _ (by rw [hq]; rfl) _ hB3.out hl3 (by omega)).mono ?_
            rintro e w4 ⟨rfl, hB4, hb4⟩
            have hB4 := Lib.hid (isB_eq hB4 (l' := 34 :: escL (s.data.toList.take (k + 1))) (by rw [hT.out, hE.out, ← hL.out]; simp))
            have hb4 := Lib.hid (hb3.out.trans hb4)
            clear hl3
            go_wp2
            go_roundw
            case rel => exact ⟨k + 1, by omega, by go_num, hB4.out, hb4.out⟩
            case measure => simp [intOf]; omega
        · have hq1 : s[k].toNat ≠ 34 := by omega
          have hq2 : s[k].toNat ≠ 92 := by omega
          clear hq
          have hE := Lib.hid (esc_one hq1 hq2)
          have hn1 : ((s[k].toNat : Int) == 34) = false := by simp; omega
          have hn2 : ((s[k].toNat : Int) == 92) = false := by simp; omega
          go_wp2_with fail
          refine (writeByte_any w1.heap.size w1.heap.size L s[k] _ rfl _ hB.out (by omega) (by omega)).mono ?_
          rintro e w4 ⟨rfl, hB4, hb4⟩
          have hB4 := Lib.hid (isB_eq hB4 (l' := 34 :: escL (s.data.toList.take (k + 1))) (by rw [hT.out, hE.out, ← hL.out]; simp))
          have hb4 := Lib.hid (hb2.out.trans hb4)
          go_wp2
          go_roundw
          case rel => exact ⟨k + 1, by omega, by go_num, hB4.out, hb4.out⟩
          case measure => simp [intOf]; omega
      · have hk2 : s.data.toList.take k = s.data.toList := List.take_of_length_le (by simp; omega)
        have hQ := Lib.hid (quote_good hV.out (hk2 ▸ hL.out))
        clear hk2
        go_wp2_with fail
        refine (writeByte_any w1.heap.size w1.heap.size L 34 34 (by decide) _ hB.out (by omega) (by omega)).mono ?_
        rintro e w4 ⟨rfl, hB4, hb4⟩
        have hz4 := hb4.size
        have hB4 := Lib.hid hB4
        have hb4 := Lib.hid (hb2.out.trans hb4)
        go_wp2_with fail
        refine (Tryz.Builder_String_any w1.heap.size w1.heap.size (L ++ [34]) _ hB4.out (by omega)).mono ?_
        rintro e w5 ⟨rfl, hb5⟩
        have hb5 := Lib.hid (hb4.out.trans hb5)
        go_wp2
        go_ret2
        exact ⟨hQ.out, hb.out.trans (hb5.out.mono hs1)⟩

end Go.Proofs.YthnjgbjckggjhaaGreatDoor.text

namespace Go.Proofs.YthnjgbjckggjhaaGreatDoor.value
open Go.Proofs.YthnjgbjckggjhaaGreatDoor.text

theorem less_irrefl : ∀ a : List UInt8, Op.bytesLess a a = false
  | [] => rfl
  | c :: r => by
    rw [Op.bytesLess, less_irrefl r]
    simp
theorem less_tri : ∀ a b : List UInt8, Op.bytesLess a b = !(Op.bytesLess b a || b == a)
  | [], [] => rfl
  | [], _ :: _ => rfl
  | _ :: _, [] => rfl
  | a :: x, b :: y => by
    rw [Op.bytesLess, Op.bytesLess, less_tri x y]
    have e1 : (a == b) = (b == a) := Bool.beq_comm
    have e2 : (b :: y == a :: x) = ((b == a) && (y == x)) := rfl
    rw [e1, e2]
    rcases Nat.lt_trichotomy a.toNat b.toNat with h | h | h
    · have h1 : decide (a < b) = true := decide_eq_true (UInt8.lt_iff_toNat_lt.2 h)
      have h2 : decide (b < a) = false := decide_eq_false (fun e => by have := UInt8.lt_iff_toNat_lt.1 e; omega)
      have h3 : (b == a) = false := beq_eq_false_iff_ne.2 (fun e => by rw [e] at h; omega)
      rw [h1, h2, h3]; rfl
    · have e : a = b := UInt8.toNat_inj.1 h
      subst e
      have h2 : decide (a < a) = false := decide_eq_false (fun e => by have := UInt8.lt_iff_toNat_lt.1 e; omega)
      have h3 : (a == a) = true := beq_self_eq_true a
      rw [h2, h3]
      cases Op.bytesLess y x <;> cases (y == x) <;> rfl
    · have h1 : decide (a < b) = false := decide_eq_false (fun e => by have := UInt8.lt_iff_toNat_lt.1 e; omega)
      have h2 : decide (b < a) = true := decide_eq_true (UInt8.lt_iff_toNat_lt.2 h)
      have h3 : (b == a) = false := beq_eq_false_iff_ne.2 (fun e => by rw [e] at h; omega)
      rw [h1, h2, h3]; rfl
theorem less_trans : ∀ {a b c : List UInt8}, Op.bytesLess a b = true → Op.bytesLess b c = true → Op.bytesLess a c = true
  | [], [], c, h, _ => by cases h
  | [], _ :: _, [], _, h => by cases h
  | [], _ :: _, _ :: _, _, _ => rfl
  | _ :: _, [], _, h, _ => by cases h
  | _ :: _, _ :: _, [], _, h => by cases h
  | a :: x, b :: y, c :: z, h1, h2 => by
    rw [Op.bytesLess] at h1 h2 ⊢
    simp only [Bool.or_eq_true, Bool.and_eq_true, decide_eq_true_eq, beq_iff_eq] at h1 h2 ⊢
    rcases h1 with h1 | ⟨rfl, h1⟩
    · rcases h2 with h2 | ⟨rfl, h2⟩
      · exact Or.inl (UInt8.lt_trans h1 h2)
      · exact Or.inl h1
    · rcases h2 with h2 | ⟨rfl, h2⟩
      · exact Or.inl h2
      · exact Or.inr ⟨rfl, less_trans h1 h2⟩

/-- Are the texts of a list in ascending order. -/
def ascL : List (List UInt8) → Bool
  | a :: b :: r => Op.bytesLess a b && ascL (b :: r)
  | _ => true
/-- The first error of a list. -/
def listS (l : List (List UInt8)) : Int := if 20 < l.length then 5 else if l.all validS = false then 2 else if ascL l = false then 9 else 0

/-- A value: its kind and its fields. -/
structure VV where
  k : Int
  n : Int
  t : List UInt8
  l : List (List UInt8)
def shapeS (v : VV) : Bool :=
  if v.k = 1 ∨ v.k = 2 then v.t.isEmpty && v.l.isEmpty else if v.k = 3 ∨ v.k = 4 then decide (v.n = 0) && v.l.isEmpty else decide (v.n = 0) && v.t.isEmpty
/-- The first error of a value. -/
def checkS (v : VV) : Int :=
  if v.k < 1 ∨ 5 < v.k then 7
  else if shapeS v = false then 15
  else if v.k = 1 then (if v.n ≠ 0 ∧ v.n ≠ 1 then 3 else 0)
  else if v.k = 2 then (if v.n < -1099511627776 ∨ 1099511627776 < v.n then 3 else 0)
  else if v.k = 3 then (if validS v.t then 0 else 2)
  else if v.k = 4 then (if (verS v.t).isSome then 0 else 1)
  else listS v.l

/-- How two versions compare. -/
def cmpI (a b : Int) : Int := if a < b then -1 else if b < a then 1 else 0
def cmpT (a b : List UInt8) : Int := if Op.bytesLess a b then -1 else if Op.bytesLess b a then 1 else 0
def cmpV : Option (Int × Int × Int) → Option (Int × Int × Int) → Int
  | some (a, b, c), some (x, y, z) => if a ≠ x then cmpI a x else if b ≠ y then cmpI b y else cmpI c z
  | _, _ => 0
/-- How two values compare, or the error. -/
def compareS (a b : VV) : Int × Int :=
  if checkS a ≠ 0 then (0, checkS a)
  else if checkS b ≠ 0 then (0, checkS b)
  else if a.k ≠ b.k ∨ a.k = 1 ∨ a.k = 5 then (0, 8)
  else if a.k = 2 then (cmpI a.n b.n, 0)
  else if a.k = 3 then (cmpT a.t b.t, 0)
  else (cmpV (verS a.t) (verS b.t), 0)

/-- Texts with a comma and a space between them. -/
def joinC : List (List UInt8) → List UInt8
  | [] => []
  | [a] => a
  | a :: b :: r => a ++ 44 :: 32 :: joinC (b :: r)
/-- The source form of a value. -/
def formS (v : VV) : List UInt8 :=
  if v.k = 1 then (if v.n = 0 then [102, 97, 108, 115, 101] else [116, 114, 117, 101])
  else if v.k = 2 then Lib.itoa v.n
  else if v.k = 3 then quoteS v.t
  else if v.k = 4 then v.t
  else 91 :: (joinC (v.l.map quoteS) ++ [93])

end Go.Proofs.YthnjgbjckggjhaaGreatDoor.value

namespace Go.Proofs.YthnjgbjckggjhaaGreatDoor.text
open Go.RowKit Go.Lib

structure Tabs (w : World) : Prop where
  runes : RuneTabs w
  pow : Lib.TabIs Tryz.prog w "internal/strconv.uint64pow10" .u64 Lib.pow10Tab
  range : ∃ tp p, w.var? Tryz.prog "strconv.ErrRange" = some #[.iface tp p]
  lim : ∃ m, w.cell? ⟨7, 0, none⟩ = some (.int .i64 m)

theorem var_below {n : String} {cs : Array Value} {w w' : World} (h : Below w.heap.size w w') (hv : w.var? Tryz.prog n = some cs) : w'.var? Tryz.prog n = some cs := by
  cases hg : Tryz.prog.globalNamed n with
  | none => unfold World.var? at hv; simp [hg] at hv
  | some g =>
    refine Go.var?_below h hg ?_ hv
    rcases Nat.lt_or_ge g w.heap.size with hl | hl
    · exact hl
    · unfold World.var? at hv
      rw [hg, Option.bind_some, Array.getElem?_eq_none (by omega)] at hv
      cases hv
theorem Tabs.below {w w' : World} (h : Tabs w) (hb : Below w.heap.size w w') : Tabs w' :=
  ⟨Utf8Tabs_below h.runes hb, var_below hb h.pow, let ⟨tp, p, hr⟩ := h.range; ⟨tp, p, var_below hb hr⟩, let ⟨m, hm⟩ := h.lim; ⟨m, sub_of_below hb _ _ hm⟩⟩

theorem tab_of_reads {name : String} {k : IntKind} {zs : List Int} {g : Nat} {t e : TypeId} {n : Nat} {w : World}
    (hg : Tryz.prog.globalNamed name = some g) (hty : (Tryz.prog.globals[g]?).map (·.type) = some t) (ht : Tryz.prog.underlying t = some (.array n e)) (he : Tryz.prog.underlying e = some (.int k)) (hce : Tryz.prog.cellsOf e = 1) (hct : Tryz.prog.cellsOf t = n)
    (h : VarReads Tryz.prog w name (tabData k zs)) : TabIs Tryz.prog w name k zs := by
  obtain ⟨g', t', cs, fuel, p, hg', ht', hvar, hd⟩ := h
  obtain rfl := Option.some.inj (hg.symm.trans hg')
  obtain rfl := Option.some.inj (hty.symm.trans ht')
  unfold TabIs
  rw [hvar, ← cells_of_tab ht he hce hct hd]

end Go.Proofs.YthnjgbjckggjhaaGreatDoor.text
