/- The law TextKeys: which texts are keys, also at the greatest length. -/
import Derived.Test.YtppljigkilccdaaDoorTextLQ
import Derived.Lib.QuietBelow
import Derived.Deep.QuietTactic
import Derived.BigQuiet
namespace Go.Proofs.YtppljigkilccdaaDoor.law
open Go.RowKit Go.Proofs.YtppljigkilccdaaDoor.text

theorem place_k (at' : Int) (n : Nat) (hn : 0 < n) : -(n : Int) < Int.tmod at' n ∧ Int.tmod at' n < n := by
  constructor
  · rcases Int.le_total 0 at' with h | h
    · have := Int.tmod_nonneg (n : Int) h; omega
    · have h1 : Int.tmod at' n = -Int.tmod (-at') n := by rw [Int.neg_tmod]; simp
      have h2 := Int.tmod_lt_of_pos (-at') (show (0 : Int) < n by omega)
      omega
  · exact Int.tmod_lt_of_pos at' (by omega)

/-- What is known while the list is gone through. -/
def ListAt (w w2 : World) (A n M : Nat) : Prop := Below w.heap.size w w2 ∧ Texts w2 A n M ∧ Tabs w2
theorem ListAt.below {w w2 w3 : World} {A n M : Nat} (h : ListAt w w2 A n M) (hb : Below w2.heap.size w2 w3) : ListAt w w3 A n M :=
  ⟨h.1.trans (hb.mono h.1.size), h.2.1.below hb, h.2.2.below hb⟩

set_option maxRecDepth 100000 in
set_option maxHeartbeats 2000000 in
theorem keys_walk (s : ByteArray) (n c : Int) (w : World) (hs : s.size ≤ 140737488351232) (hc0 : 0 ≤ c) (hc1 : c ≤ 255) (hT : Tabs w) :
    Calls Tryd.prog 3 #[.string s, .int .i64 n, .int .u8 c] w fun e w' => e = .returned (.bool true) ∧ Below w.heap.size w w' := by
  replace hT := Lib.hid hT
  go_enter Tryd.func3, Tryd.ntmps3
  go_wp2_with fail
  refine (awake_any _ hT.out).mono ?_
  rintro e w1 ⟨rfl, hb1⟩
  have hT1 := Lib.hid (hT.out.below hb1)
  replace hb1 := Lib.hid hb1
  clear hT
  have hp := place_k n 40 (by decide)
  have hp0 : -40 < n.tmod 40 := by simpa using hp.1
  have hp1 : n.tmod 40 < 40 := by simpa using hp.2
  have hi0 : 0 ≤ (n.tmod 40 + 40) % 40 := Int.emod_nonneg _ (by omega)
  have hi1 : (n.tmod 40 + 40) % 40 < 40 := Int.emod_lt_of_pos _ (by omega)
  clear hp
  go_wp2
  obtain ⟨m, hm, hm40⟩ : ∃ m : Nat, (n.tmod 40 + 40) % 40 = (m : Int) ∧ m < 40 := ⟨((n.tmod 40 + 40) % 40).toNat, by omega, by omega⟩
  rw [hm]
  clear hm hi0 hi1 hp0 hp1
  generalize n.tmod 40 + 40 = z1
  generalize n.tmod 40 = z2
  go_loop [7, 8] (fun v i => ∃ (k : Nat) (l : ByteArray), i = .int .i64 k ∧ k ≤ m ∧ v = .string l ∧ l.size ≤ 4 * k) (fun _ i => m - (intOf i).toNat)
  case atStart => exact ⟨0, _, rfl, Nat.zero_le _, rfl, Nat.le_refl _⟩
  case round =>
    obtain ⟨k, l, rfl, hk, rfl, hl⟩ := hrel
    by_cases hlt : k < m
    · have he := encode_size4 (r := 97 + (k : Int) % 26) (by omega) (by omega)
      have hz := Lib.hid (show (l ++ Utf8.encode (97 + (k : Int) % 26)).size ≤ 4 * (k + 1) by rw [ByteArray.size_append]; omega)
      go_wp2
      go_round
      case rel => exact ⟨k + 1, _, by go_num, by omega, rfl, hz.out⟩
      case measure => simp [intOf]; omega
    · have hl2 : l.size ≤ 160 := by omega
      have henc := encode_size4 (r := c) hc0 hc1
      clear hl
      go_wp2
      have hg : Below w1.heap.size w1 (w1.alloc (.cells #[.string s, .string l, .string (l ++ Utf8.encode c), .string (Utf8.encode c ++ l), .string (⟨#[97]⟩ ++ s), .string (s ++ ⟨#[48]⟩)] 9)) := (Below.refl _ _).alloc (Nat.le_refl _) _
      have hF := Lib.hid (show ListAt w (w1.alloc (.cells #[.string s, .string l, .string (l ++ Utf8.encode c), .string (Utf8.encode c ++ l), .string (⟨#[97]⟩ ++ s), .string (s ++ ⟨#[48]⟩)] 9)) w1.heap.size 6 140737488355328 from
        ⟨hb1.out.trans (hg.mono hb1.out.size), texts_new (ts := [s, l, l ++ Utf8.encode c, Utf8.encode c ++ l, ⟨#[97]⟩ ++ s, s ++ ⟨#[48]⟩]) rfl rfl rfl (by
          intro t ht
          simp at ht
          have e1 : (⟨#[97]⟩ : ByteArray).size = 1 := rfl
          have e2 : (⟨#[48]⟩ : ByteArray).size = 1 := rfl
          rcases ht with rfl | rfl | rfl | rfl | rfl | rfl
          · omega
          · omega
          · rw [ByteArray.size_append]; omega
          · rw [ByteArray.size_append]; omega
          · rw [ByteArray.size_append]; omega
          · rw [ByteArray.size_append]; omega), hT1.out.below hg⟩)
      clear hg hl2 henc
      generalize w1.alloc (.cells #[.string s, .string l, .string (l ++ Utf8.encode c), .string (Utf8.encode c ++ l), .string (⟨#[97]⟩ ++ s), .string (s ++ ⟨#[48]⟩)] 9) = w2 at hF ⊢
      generalize w1.heap.size = A at hF ⊢
      go_loopw [10] (fun i wr => ∃ k : Nat, k ≤ 6 ∧ i = .int .i64 k ∧ Hid (ListAt w wr A 6 140737488355328)) (fun i _ => 6 - (intOf i).toNat)
      case atStart => exact ⟨0, by omega, rfl, hF.out⟩
      case round =>
        clear hF
        obtain ⟨j, hj, rfl, hF⟩ := hrel
        by_cases hlj : j < 6
        · obtain ⟨t, hcell, hts⟩ := hF.out.2.1 j hlj
          have n0 : (0 : Int) ≤ (j : Int) := Int.natCast_nonneg _
          have n1 : (j : Int) < 6 := by omega
          have k1 := cell_regrown hcell
          have cK := Lib.hid (fun (d : Nat) (os : Array Obj) => Calls.regrown_of (key_any t _ (hF.out.2.2.below (below_regrown wr d os)).space))
          have cR := Lib.hid (fun (d : Nat) (os : Array Obj) => Calls.regrown_of (key_ref t (Sort.grow (redrawn wr d) os) (by unfold maxLen; omega)))
          go_wp2_with fail
          refine wp_region_quiet_below (by kernel_rfl) (by kernel_rfl) ?_
          repeat (go_big_quiet_step (first | exact cK.out _ _ | exact cR.out _ _))
          refine wpQuiet_nil ?_
          intro _ hw'
          obtain ⟨⟨dq, osq⟩, hw''⟩ := hw'
          subst hw''
          replace hF := Lib.hid (hF.out.below (below_regrown wr dq osq))
          generalize Sort.grow (redrawn wr dq) osq = w5 at hF ⊢
          clear cK cR k1 hcell
          go_wp2
          go_roundw
          case rel => exact ⟨j + 1, by omega, by go_num, hF.out⟩
          case measure => simp [intOf]; omega
        · go_wp2
          go_ret
          exact ⟨rfl, hF.out.1⟩

end Go.Proofs.YtppljigkilccdaaDoor.law
