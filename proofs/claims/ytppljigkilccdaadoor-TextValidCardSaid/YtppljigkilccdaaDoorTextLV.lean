/- The law TextValid: which texts are valid, also at the greatest length. -/
import Derived.Test.YtppljigkilccdaaDoorTextLK
import Derived.RegionTactic
import Derived.ChangeAlike
import Derived.BigRegion
namespace Go.Proofs.YtppljigkilccdaaDoor.law
open Go.RowKit Go.Proofs.YtppljigkilccdaaDoor.text

set_option maxRecDepth 100000 in
set_option maxHeartbeats 2000000 in
theorem valid_walk (s : ByteArray) (n c : Int) (w : World) (hs : s.size ≤ 140737488351232) (hc0 : 0 ≤ c) (hc1 : c ≤ 255) (hT : Tabs w) :
    Calls Tryd.prog 4 #[.string s, .int .i64 n, .int .u8 c] w fun e w' => e = .returned (.bool true) ∧ Below w.heap.size w w' := by
  replace hT := Lib.hid hT
  go_enter Tryd.func4, Tryd.ntmps4
  go_wp2_with fail
  refine (awake_any _ hT.out).mono ?_
  rintro e w1 ⟨rfl, hb1⟩
  have hT1 := Lib.hid (hT.out.below hb1)
  replace hb1 := Lib.hid hb1
  clear hT
  have hp := place_k n 7 (by decide)
  have hp0 : -7 < n.tmod 7 := by simpa using hp.1
  have hp1 : n.tmod 7 < 7 := by simpa using hp.2
  have hi0 : 0 ≤ (n.tmod 7 + 7) % 7 := Int.emod_nonneg _ (by omega)
  have hi1 : (n.tmod 7 + 7) % 7 < 7 := Int.emod_lt_of_pos _ (by omega)
  clear hp
  go_wp2
  obtain ⟨m, hm, hm40⟩ : ∃ m : Nat, (n.tmod 7 + 7) % 7 = (m : Int) ∧ m < 7 := ⟨((n.tmod 7 + 7) % 7).toNat, by omega, by omega⟩
  rw [hm]
  clear hm hi0 hi1 hp0 hp1
  generalize n.tmod 7 + 7 = z1
  generalize n.tmod 7 = z2
  go_loop [7] (fun v => ∃ (l : ByteArray), v = .string l ∧ l.size ≤ 197 + m) (fun v => match v with | .string l => 197 + m - l.size | _ => 0)
  case atStart => exact ⟨_, rfl, Nat.zero_le _⟩
  case round =>
    obtain ⟨l, rfl, hl⟩ := hrel
    by_cases hlt : l.size < 197 + m
    · have hz := Lib.hid (show (l ++ ⟨#[120]⟩ : ByteArray).size = l.size + 1 by rw [ByteArray.size_append]; rfl)
      go_wp2
      go_round
      case rel => exact ⟨_, rfl, by rw [hz.out]; omega⟩
      case measure => simp only []; rw [hz.out]; omega
    · have hl2 : l.size = 197 + m := by omega
      have hl3 : 197 ≤ l.size := by omega
      replace hl2 := Lib.hid hl2
      go_wp2
      obtain ⟨u, hu⟩ : ∃ u : UInt8, c = u.toNat := ⟨UInt8.ofNat c.toNat, by simp; omega⟩
      have hBS := bs_new (B := w1.heap.size) (w := w1) (u := u) (c := c) hu (Nat.le_refl _)
      replace hu := Lib.hid hu
      have hcv := convert_bytes (show BS w1.heap.size (.slice (some ⟨w1.heap.size, 0, none⟩) 1 1) [u] ((w1.alloc (.cells #[.int .u8 c] 5)).drew) from hBS)
      clear hBS
      have hsl : (l.extract 0 190).size = 190 := by rw [ByteArray.size_extract]; omega
      have hq : (190 : Int) ≤ (l.size : Int) := by omega
      have m1 : ¬ 9223372036854775807 < s.size + 1 := by omega
      have m2 : ¬ 9223372036854775807 < 190 + s.size := by omega
      go_region
      go_wp2_with fail
      have hF := Lib.hid (show ListAt w (((w1.alloc (.cells #[.int .u8 c] 5)).alloc (.cells #[.string s, .string l, .string (s ++ ⟨#[u]⟩), .string (l.extract 0 190 ++ s)] 9)).drew) (w1.heap.size + 1) 4 140737488355328 from by
        have hg0 : Below w1.heap.size w1 (w1.alloc (.cells #[.int .u8 c] 5)) := (Below.refl _ _).alloc (Nat.le_refl _) _
        have hg : Below (w1.alloc (.cells #[.int .u8 c] 5)).heap.size (w1.alloc (.cells #[.int .u8 c] 5)) ((w1.alloc (.cells #[.int .u8 c] 5)).alloc (.cells #[.string s, .string l, .string (s ++ ⟨#[u]⟩), .string (l.extract 0 190 ++ s)] 9)) := (Below.refl _ _).alloc (Nat.le_refl _) _
        have hT2 := hT1.out.below hg0
        have hb2 := hb1.out.trans (hg0.mono hb1.out.size)
        have hX : ListAt w ((w1.alloc (.cells #[.int .u8 c] 5)).alloc (.cells #[.string s, .string l, .string (s ++ ⟨#[u]⟩), .string (l.extract 0 190 ++ s)] 9)) (w1.heap.size + 1) 4 140737488355328 :=
          ⟨hb2.trans (hg.mono hb2.size), texts_new (ts := [s, l, s ++ ⟨#[u]⟩, l.extract 0 190 ++ s]) (by simp) rfl rfl (by
            intro t ht
            simp at ht
            have e1 : (⟨#[u]⟩ : ByteArray).size = 1 := rfl
            rcases ht with rfl | rfl | rfl | rfl
            · omega
            · omega
            · rw [ByteArray.size_append]; omega
            · rw [ByteArray.size_append]; omega), hT2.below hg⟩
        exact hX.below ((Below.refl _ _).drew))
      clear hcv hsl hq m1 m2
      generalize ((w1.alloc (.cells #[.int .u8 c] 5)).alloc (.cells #[.string s, .string l, .string (s ++ ⟨#[u]⟩), .string (l.extract 0 190 ++ s)] 9)).drew = w2 at hF ⊢
      generalize w1.heap.size + 1 = A at hF ⊢
      go_loopw [9] (fun i wr => ∃ k : Nat, k ≤ 4 ∧ i = .int .i64 k ∧ Hid (ListAt w wr A 4 140737488355328)) (fun i _ => 4 - (intOf i).toNat)
      case atStart => exact ⟨0, by omega, rfl, hF.out⟩
      case round =>
        clear hF
        obtain ⟨j, hj, rfl, hF⟩ := hrel
        by_cases hlj : j < 4
        · obtain ⟨t, hcell, hts⟩ := hF.out.2.1 j hlj
          have n0 : (0 : Int) ≤ (j : Int) := Int.natCast_nonneg _
          have n1 : (j : Int) < 4 := by omega
          have k1 := cell_regrown hcell
          have cK := Lib.hid (fun (d : Nat) (os : Array Obj) => Calls.regrown_of (valid_any t _ (hF.out.2.2.below (below_regrown wr d os)).runes))
          have cR := Lib.hid (fun (d : Nat) (os : Array Obj) => Calls.regrown_of (valid_ref t (Sort.grow (redrawn wr d) os) (hF.out.2.2.below (below_regrown wr d os)).runes))
          go_wp2_with fail
          refine wp_region_quiet_below (by kernel_rfl) (by kernel_rfl) ?_
          repeat (go_big_quiet_step (first | exact cK.out _ _ | exact cR.out _ _))
          refine wpQuiet_nil ?_
          intro _ hw'
          obtain ⟨⟨dq, osq⟩, hw''⟩ := hw'
          subst hw''
          replace hF := Lib.hid (hF.out.below (below_regrown wr dq osq))
          generalize Sort.grow (redrawn wr dq) osq = w5 at hF ⊢
          clear cK cR k1 hcell
          go_wp2
          go_roundw
          case rel => exact ⟨j + 1, by omega, by go_num, hF.out⟩
          case measure => simp [intOf]; omega
        · go_wp2
          go_ret
          exact ⟨rfl, hF.out.1⟩

end Go.Proofs.YtppljigkilccdaaDoor.law
