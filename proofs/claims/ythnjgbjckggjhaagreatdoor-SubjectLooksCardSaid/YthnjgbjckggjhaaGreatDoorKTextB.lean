/- Which words are reserved, and which texts are keys: the reference's functions and the program's give the same. -/
import Derived.Test.YthnjgbjckggjhaaGreatDoorKTextA
import Derived.Test.YthnjgbjckggjhaaGreatDoorShelf
import Derived.WalkSmall
import Derived.Lib.ItoaMem
namespace Go.Proofs.YthnjgbjckggjhaaGreatDoor.text
open Go.RowKit

/-- The reserved words, in bytes. -/
def words46 : List (List UInt8) := [
  [97, 110, 100],
  [97, 114, 109, 115],
  [97, 116, 116, 114, 105, 98, 117, 116, 101],
  [98, 111, 111, 108],
  [99, 108, 97, 105, 109, 115],
  [99, 111, 110, 116, 97, 105, 110, 115],
  [99, 111, 111, 108],
  [99, 111, 111, 108, 105, 110, 103],
  [100, 101, 102, 97, 117, 108, 116],
  [100, 114, 97, 102, 116],
  [101, 110, 100, 115],
  [101, 120, 99, 108, 117, 100, 101],
  [101, 120, 105, 115, 116, 115],
  [101, 120, 112, 101, 114, 105, 109, 101, 110, 116],
  [102, 97, 108, 115, 101],
  [102, 108, 97, 103],
  [104, 111, 108, 100, 111, 117, 116],
  [105, 110],
  [105, 110, 99, 108, 117, 100, 101],
  [105, 115],
  [108, 97, 121, 101, 114],
  [108, 105, 115, 116],
  [109, 101, 109, 98, 101, 114],
  [110, 101, 101, 100, 115],
  [110, 111, 116],
  [110, 117, 109, 98, 101, 114],
  [111, 102, 102],
  [111, 110],
  [111, 114],
  [114, 117, 108, 101],
  [114, 117, 110, 110, 105, 110, 103],
  [115, 97, 108, 116],
  [115, 101, 103, 109, 101, 110, 116],
  [115, 101, 114, 118, 101],
  [115, 101, 116, 116, 105, 110, 103, 115],
  [115, 112, 108, 105, 116],
  [115, 116, 97, 114, 116, 115],
  [115, 116, 111, 112, 112, 101, 100],
  [116, 97, 114, 103, 101, 116],
  [116, 101, 120, 116],
  [116, 111],
  [116, 114, 117, 101],
  [117, 110, 116, 105, 108],
  [118, 97, 114, 105, 97, 116, 105, 111, 110, 115],
  [118, 101, 114, 115, 105, 111, 110],
  [119, 104, 101, 110]]

def resV : Array Value := (words46.map fun l => Value.string ⟨l.toArray⟩).toArray
theorem resV_size : resV.size = 46 := by kernel_rfl
theorem words46_len : words46.length = 46 := by kernel_rfl
theorem resV_get (i : Nat) (h : i < 46) : resV[i]? = some (.string ⟨(words46.getD i []).toArray⟩) := by
  have hl := words46_len
  unfold resV
  rw [List.getElem?_toArray, List.getElem?_map, List.getElem?_eq_getElem (by omega), List.getD_eq_getElem?_getD, List.getElem?_eq_getElem (by omega)]
  rfl

/-- Is it one of the reserved words? -/
def inWords (l : List UInt8) : Bool := words46.any fun x => x == l
def keyS (l : List UInt8) : Bool := wordS l && decide (l.length ≤ 32) && !inWords l

theorem words_step {l : List UInt8} {i : Nat} (h : i < 46) (ne : ¬ (words46.getD i [] = l)) (T : (words46.drop i).any (fun x => x == l) = inWords l) : (words46.drop (i + 1)).any (fun x => x == l) = inWords l := by
  have hl := words46_len
  rw [← T, List.drop_eq_getElem_cons (i := i) (by omega), List.any_cons]
  rw [List.getD_eq_getElem?_getD, List.getElem?_eq_getElem (by omega)] at ne
  simp at ne
  simp [ne]
theorem words_hit {l : List UInt8} {i : Nat} (h : i < 46) (eq : words46.getD i [] = l) : inWords l = true := by
  have hl := words46_len
  rw [List.getD_eq_getElem?_getD, List.getElem?_eq_getElem (by omega)] at eq
  simp at eq
  unfold inWords
  rw [List.any_eq_true]
  exact ⟨words46[i]'(by omega), List.getElem_mem _, beq_iff_eq.2 eq⟩
theorem words_end {l : List UInt8} (T : (words46.drop 46).any (fun x => x == l) = inWords l) : inWords l = false := by
  rw [← T, List.drop_eq_nil_of_le (by rw [words46_len]; omega)]
  rfl

theorem key_noword {l : List UInt8} (h : ¬ wordS l = true) : false = keyS l := by unfold keyS; simp [h]
theorem key_long {s : ByteArray} (h : 32 < s.size) : false = keyS s.data.toList := by
  unfold keyS
  have h' : ¬ s.data.toList.length ≤ 32 := by simpa using h
  simp only [h', decide_false, Bool.and_false, Bool.false_and]
theorem key_res {l : List UInt8} (h : inWords l = true) : false = keyS l := by unfold keyS; simp [h]
theorem key_yes {s : ByteArray} (h : wordS s.data.toList = true) (hl : s.size ≤ 32) (hn : inWords s.data.toList = false) : true = keyS s.data.toList := by
  unfold keyS
  have h' : s.data.toList.length ≤ 32 := by simpa using hl
  simp only [h, hn, h', decide_true, Bool.and_true, Bool.not_false]

/-- The reserved words in one text. -/
def joined : ByteArray := ⟨(List.intercalate [32] words46).toArray⟩
theorem fields_joined : Lib.fields joined.data.toList = words46 := by kernel_rfl
theorem joined_ascii (j : Nat) (b : UInt8) (h : joined.data.toList[j]? = some b) : b.toNat < 128 := by
  have hall : (joined.data.toList.all fun c => decide (c.toNat < 128)) = true := by kernel_rfl
  rw [List.all_eq_true] at hall
  have := hall b (List.mem_of_getElem? h)
  simpa using this

abbrev SpaceTab (w : World) : Prop := Lib.TabIs Tryz.prog w "strings.asciiSpace" .u8 Lib.asciiSpaceTab

theorem joined_small : joined.size < 4294967281 := by
  have h : decide (joined.size < 4294967281) = true := by kernel_rfl
  exact of_decide_eq_true h

theorem fields_any (s : ByteArray) (hs : s = joined) (w : World) (h : SpaceTab w) : Calls Tryz.prog 45 #[.string s] w fun e w' => e = .returned (.slice (some ⟨w.heap.size, 0, none⟩) 46 46) ∧ w' = w.alloc (.cells resV 9) := by
  subst hs
  refine (Tryz.strings_Fields joined w joined_small joined_ascii h).mono ?_
  rintro e w' ⟨rfl, rfl⟩
  rw [fields_joined, words46_len]
  exact ⟨rfl, rfl⟩

/-- The bytes of a word are small ones. -/
theorem okB_small {f : Bool} {c : Int} (h : okB f c = true) : c < 128 := by
  unfold okB at h
  simp at h
  omega

theorem key_bad {s : ByteArray} {k : Nat} (h : k < s.size) (ho : okB (k == 0) s[k].toNat = false) (T : wordL (k == 0) (s.data.toList.drop k) = wordL true s.data.toList) : false = keyS s.data.toList := by
  unfold keyS
  rw [word_bad h ho T]
  rfl
theorem okB_high {k : Nat} {c : Int} (h : 128 ≤ c) : okB (k == 0) c = false := by
  cases ho : okB (k == 0) c with
  | false => rfl
  | true => have := okB_small ho; omega

set_option maxRecDepth 100000 in
set_option maxHeartbeats 1000000 in
theorem key_any (s : ByteArray) (w : World) (hsp : SpaceTab w) :
    Calls Tryz.prog 29 #[.string s] w fun e w' => e = .returned (.bool (keyS s.data.toList)) ∧ Below w.heap.size w w' := by
  go_enter Tryz.func29, Tryz.ntmps29
  by_cases h0 : s.size = 0
  · have hE := Lib.hid (show false = keyS s.data.toList by
      have : s.data.toList = [] := List.eq_nil_of_length_eq_zero (by simpa using h0)
      rw [this]; rfl)
    go_wp2
    go_ret
    exact ⟨ret_bool hE.out, Below.refl _ _⟩
  by_cases hl : 32 < s.size
  · go_wp2
    go_ret
    exact ⟨ret_bool (key_long hl), Below.refl _ _⟩
  have hsp0 := Lib.hid hsp
  clear hsp
  go_wp2
  go_loopw [3] (fun _ wr => ∃ k : Nat, k ≤ s.size ∧ wr = w.iter s k ∧ Hid (wordL (k == 0) (s.data.toList.drop k) = wordL true s.data.toList)) (fun _ wr => s.size - wr.iterPos w.heap.size)
  case atStart => exact ⟨0, Nat.zero_le _, rfl, rfl⟩
  case round =>
    obtain ⟨k, hk, rfl, hT⟩ := hrel
    by_cases hlt : k < s.size
    · have hnx : ∀ ty, (Instr.next (.pointer (some ⟨w.heap.size, 0, none⟩)) true ty).run Tryz.prog (w.iter s k) = _ := fun ty => run_next_any w s k ty hlt
      by_cases ha : s[k].toNat < 128
      · simp only [decode_ascii s k hlt ha] at hnx
        rcases Nat.eq_zero_or_pos k with rfl | hkp
        · rcases classes 0 s[0].toNat with ⟨h1, h2, hO⟩ | ⟨h1, h2, hO⟩ | ⟨h1, h2, h3, hO⟩ | ⟨h1, h2, h3, hO⟩ | ⟨h1, h2, h3, hO⟩ | ⟨h1, h2, hO⟩ | ⟨h1, h2, h3, hO⟩ | ⟨h1, h2, h3, hO⟩ | ⟨h1, h2, h3, hO⟩ | ⟨h1, hO⟩
          all_goals first
            | omega
            | (go_wp2; all_goals first
                | (go_ret; exact ⟨ret_bool (key_bad hlt hO.out hT.out), (Below.refl _ _).alloc (Nat.le_refl _) _⟩)
                | (go_roundw
                   case rel => exact ⟨1, by omega, rfl, word_good hlt hO.out hT.out⟩
                   case measure => simp; omega)
                | (exfalso; clear hT hO; simp at *; omega))
        · rcases classes k s[k].toNat with ⟨h1, h2, hO⟩ | ⟨h1, h2, hO⟩ | ⟨h1, h2, h3, hO⟩ | ⟨h1, h2, h3, hO⟩ | ⟨h1, h2, h3, hO⟩ | ⟨h1, h2, hO⟩ | ⟨h1, h2, h3, hO⟩ | ⟨h1, h2, h3, hO⟩ | ⟨h1, h2, h3, hO⟩ | ⟨h1, hO⟩
          all_goals first
            | omega
            | (go_wp2; all_goals first
                | (go_ret; exact ⟨ret_bool (key_bad hlt hO.out hT.out), (Below.refl _ _).alloc (Nat.le_refl _) _⟩)
                | (go_roundw
                   case rel => exact ⟨k + 1, by omega, rfl, word_good hlt hO.out hT.out⟩
                   case measure => simp; omega)
                | (exfalso; clear hT hO; simp at *; first | omega | (clear hnx; simp_all; done)))
      · have hd := (decode_high s k hlt (by omega)).1
        have hO := Lib.hid (okB_high (k := k) (c := s[k].toNat) (by omega))
        generalize (Utf8.decode s k).1 = r at hd hnx
        generalize (Utf8.decode s k).2 = q at hnx
        go_wp2
        all_goals first
          | (go_ret; exact ⟨ret_bool (key_bad hlt hO.out hT.out), (Below.refl _ _).alloc (Nat.le_refl _) _⟩)
          | (exfalso; clear hT hO; simp at *; omega)
    · have hnx : ∀ ty, (Instr.next (.pointer (some ⟨w.heap.size, 0, none⟩)) true ty).run Tryz.prog (w.iter s k) = _ := fun ty => run_next_end w s k ty hlt
      have hW := Lib.hid (word_end hlt hk hT.out)
      go_wp2_with fail
      refine (fields_any _ (by kernel_rfl) _ (Lib.tabIs_alloc hsp0.out _)).mono ?_
      rintro e w' ⟨rfl, rfl⟩
      go_wp2
      go_loop [7, 52] (fun _ i => ∃ k : Nat, k ≤ 46 ∧ i = .int .i64 k ∧ Hid ((words46.drop k).any (fun x => x == s.data.toList) = inWords s.data.toList)) (fun _ i => 46 - (intOf i).toNat)
      case atStart => exact ⟨0, by omega, rfl, rfl⟩
      case round =>
        obtain ⟨k, hk, rfl, hT⟩ := hrel
        by_cases hlt : k < 46
        · have hg := resV_get k hlt
          by_cases heq : words46.getD k [] = s.data.toList
          · have hE := Lib.hid (key_res (words_hit hlt heq))
            go_wp2
            all_goals first
              | (go_ret; exact ⟨ret_bool hE.out, ((Below.refl _ _).alloc (Nat.le_refl _) _).alloc (by simp) _⟩)
              | (exfalso; clear hT hE hW; simp_all [ByteArray.toList_eq]; done)
          · have hE := Lib.hid (words_step hlt heq hT.out)
            go_wp2
            all_goals first
              | (go_round
                 case rel => exact ⟨k + 1, by omega, by go_num, hE.out⟩
                 case measure => simp [intOf]; omega)
              | (exfalso; clear hT hE hW; simp_all [ByteArray.toList_eq]; done)
        · obtain rfl : k = 46 := by omega
          have hE := Lib.hid (key_yes (by rw [hW.out]; simp; omega) (by omega) (words_end hT.out))
          go_wp2
          go_ret
          exact ⟨ret_bool hE.out, ((Below.refl _ _).alloc (Nat.le_refl _) _).alloc (by simp) _⟩

end Go.Proofs.YthnjgbjckggjhaaGreatDoor.text

