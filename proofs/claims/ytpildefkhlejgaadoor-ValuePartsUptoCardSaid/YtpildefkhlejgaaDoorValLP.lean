/- The law ValueParts: the parts of any version, or the error, and the names of kinds, are the reference's. -/
import Derived.Test.YtpildefkhlejgaaDoorValU
import Derived.Test.YtpildefkhlejgaaDoorValL
namespace Go.Proofs.YtpildefkhlejgaaDoor.law
open Go.RowKit Go.Proofs.YtpildefkhlejgaaDoor.text Go.Proofs.YtpildefkhlejgaaDoor.value

theorem typeOf_name (k : Int) (h0 : -1 ≤ k) (h1 : k < 7) : typeOfS (typeS k).toList = (if 0 < k then k else 0) % 6 := by
  rcases (show k = -1 ∨ k = 0 ∨ k = 1 ∨ k = 2 ∨ k = 3 ∨ k = 4 ∨ k = 5 ∨ k = 6 by omega) with rfl | rfl | rfl | rfl | rfl | rfl | rfl | rfl <;> kernel_rfl

set_option maxRecDepth 100000 in
set_option maxHeartbeats 8000000 in
theorem parts_walk (s : ByteArray) (i kind : Int) (w : World) (hs : s.size ≤ 1048576) (hk0 : -9223372036854775808 ≤ kind) (hk1 : kind ≤ 9223372036854775807) (hT : Tabs w) (hN : Names w) :
    Calls Tryd.prog 10 #[.string s, .int .i64 i, .int .i64 kind] w fun e w' => e = .returned (.bool true) ∧ Below w.heap.size w w' := by
  replace hT := Lib.hid hT
  replace hN := Lib.hid hN
  go_enter Tryd.func10, Tryd.ntmps10
  go_wp2_with fail
  refine (awake_any _ hT.out).mono ?_
  rintro e w1 ⟨rfl, hb1⟩
  have hT1 := Lib.hid (hT.out.below hb1)
  replace hb1 := Lib.hid hb1
  clear hT
  have hg : Below w1.heap.size w1 (w1.alloc (.cells #[.string s, .string (s ++ ⟨#[46, 50, 46, 51]⟩), .string (⟨#[49, 46]⟩ ++ s ++ ⟨#[46, 51]⟩), .string (⟨#[49, 46, 50, 46, 51]⟩ ++ s)] 9)) := (Below.refl _ _).alloc (Nat.le_refl _) _
  have hF := Lib.hid (show ListAt w (w1.alloc (.cells #[.string s, .string (s ++ ⟨#[46, 50, 46, 51]⟩), .string (⟨#[49, 46]⟩ ++ s ++ ⟨#[46, 51]⟩), .string (⟨#[49, 46, 50, 46, 51]⟩ ++ s)] 9)) w1.heap.size 4 2000000 from
    ⟨hb1.out.trans (hg.mono hb1.out.size), texts_new (ts := [s, s ++ ⟨#[46, 50, 46, 51]⟩, ⟨#[49, 46]⟩ ++ s ++ ⟨#[46, 51]⟩, ⟨#[49, 46, 50, 46, 51]⟩ ++ s]) rfl rfl rfl (by
      intro t ht
      simp at ht
      have e1 : (⟨#[46, 50, 46, 51]⟩ : ByteArray).size = 4 := rfl
      have e2 : (⟨#[49, 46]⟩ : ByteArray).size = 2 := rfl
      have e3 : (⟨#[46, 51]⟩ : ByteArray).size = 2 := rfl
      have e4 : (⟨#[49, 46, 50, 46, 51]⟩ : ByteArray).size = 5 := rfl
      rcases ht with rfl | rfl | rfl | rfl
      · omega
      · rw [ByteArray.size_append]; omega
      · rw [ByteArray.size_append, ByteArray.size_append]; omega
      · rw [ByteArray.size_append]; omega), hT1.out.below hg⟩)
  clear hg hT1 hb1
  go_wp2
  generalize w1.alloc (.cells #[.string s, .string (s ++ ⟨#[46, 50, 46, 51]⟩), .string (⟨#[49, 46]⟩ ++ s ++ ⟨#[46, 51]⟩), .string (⟨#[49, 46, 50, 46, 51]⟩ ++ s)] 9) = w2 at hF ⊢
  generalize w1.heap.size = A at hF ⊢
  go_loopw [26] (fun i wr => ∃ k : Nat, k ≤ 4 ∧ i = .int .i64 k ∧ Hid (ListAt w wr A 4 2000000)) (fun i _ => 4 - (intOf i).toNat)
  case atStart => exact ⟨0, by omega, rfl, hF.out⟩
  case round =>
    clear hF
    obtain ⟨k, hk, rfl, hF⟩ := hrel
    by_cases hlt : k < 4
    · obtain ⟨t, hcell, hts⟩ := hF.out.2.1 k hlt
      go_wp2_with fail
      refine (part_any t i _ (by omega) hF.out.2.2).mono ?_
      rintro e w3 ⟨rfl, hb3⟩
      replace hF := Lib.hid (hF.out.below hb3)
      clear hb3 hcell
      unfold partR
      go_wp2_with fail
      refine (part_ref t i _ (by omega)).mono ?_
      rintro e w4 ⟨rfl, hb4⟩
      replace hF := Lib.hid (hF.out.below hb4)
      clear hb4
      unfold partR
      generalize (partS t.data.toList i).1 = x
      generalize (partS t.data.toList i).2 = y
      go_wp2
      go_roundw
      case rel => exact ⟨k + 1, by omega, by go_num, hF.out⟩
      case measure => simp [intOf]; omega
    · have hN2 := Lib.hid (hN.out.below hF.out.1)
      clear hN
      go_wp2_with fail
      refine (mod_eq kind 8 _ (by omega) (by omega) hk0 hk1).mono ?_
      rintro e w5 ⟨rfl, rfl⟩
      obtain ⟨m, hm⟩ : ∃ m, m = kind % 8 := ⟨_, rfl⟩
      have hm0 : 0 ≤ m := by omega
      have hm1 : m < 8 := by omega
      rw [← hm]
      clear hm
      go_wp2_with fail
      refine (type_any kind _ hN2.out).mono ?_
      rintro e w6 ⟨rfl, rfl⟩
      go_wp2_with fail
      refine (type_ref kind _).mono ?_
      rintro e w6 ⟨rfl, hb6⟩
      replace hF := Lib.hid (hF.out.below hb6)
      replace hN2 := Lib.hid (hN2.out.below hb6)
      clear hb6
      have hsm := Lib.hid (typeOf_name (m - 1) (by omega) (by omega))
      generalize typeS kind = n1
      go_wp2_with fail
      refine (type_any (m - 1) _ hN2.out).mono ?_
      rintro e w7 ⟨rfl, rfl⟩
      go_wp2_with fail
      refine (type_ref (m - 1) _).mono ?_
      rintro e w7 ⟨rfl, hb7⟩
      replace hF := Lib.hid (hF.out.below hb7)
      replace hN2 := Lib.hid (hN2.out.below hb7)
      clear hb7
      obtain ⟨n2, hn2⟩ : ∃ n, Hid (n = typeS (m - 1)) := ⟨_, rfl⟩
      rw [← hn2.out]
      go_wp2_with fail
      refine (typeOf_any s _ hN2.out).mono ?_
      rintro e w8 ⟨rfl, rfl⟩
      go_wp2_with fail
      refine (typeOf_ref s _).mono ?_
      rintro e w8 ⟨rfl, hb8⟩
      replace hF := Lib.hid (hF.out.below hb8)
      replace hN2 := Lib.hid (hN2.out.below hb8)
      clear hb8
      generalize typeOfS s.toList = z1
      go_wp2_with fail
      rw [hn2.out]
      refine (type_any (m - 1) _ hN2.out).mono ?_
      rintro e w9 ⟨rfl, rfl⟩
      rw [← hn2.out]
      go_wp2_with fail
      refine (typeOf_any n2 _ hN2.out).mono ?_
      rintro e w9 ⟨rfl, rfl⟩
      have hz : typeOfS n2.toList = (if 0 < m - 1 then m - 1 else 0) % 6 := by rw [hn2.out]; exact hsm.out
      rw [hz]
      clear hz hsm hn2
      rcases (show m = 0 ∨ m = 1 ∨ m = 2 ∨ m = 3 ∨ m = 4 ∨ m = 5 ∨ m = 6 ∨ m = 7 by omega) with rfl | rfl | rfl | rfl | rfl | rfl | rfl | rfl
      all_goals
        go_wp2
        go_ret
        exact ⟨rfl, hF.out.1⟩

end Go.Proofs.YtpildefkhlejgaaDoor.law
