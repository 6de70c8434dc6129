/- The law TextReserved: which words are reserved; none of them is a key. -/
import Derived.Test.YtppljigkilccdaaDoorTextLU
import Derived.IntWalk
import Derived.Lib.QuietBelow
import Derived.Deep.QuietTactic
import Derived.BigQuiet
namespace Go.Proofs.YtppljigkilccdaaDoor.law
open Go.RowKit Go.Proofs.YtppljigkilccdaaDoor.text

def wordAt (k : Nat) : ByteArray := ⟨(words46.getD k []).toArray⟩
theorem word_nokey (k : Nat) (h : k < 46) : keyS (wordAt k).data.toList = false := by
  have : inWords (wordAt k).data.toList = true := words_hit h rfl
  exact (key_res this).symm
theorem word_size (k : Nat) (h : k < 46) : (wordAt k).size ≤ 20 := by
  have : ∀ k : Fin 46, (words46.getD k.val []).length ≤ 20 := by decide +kernel
  show (words46.getD k []).toArray.size ≤ 20
  rw [List.size_toArray]
  exact this ⟨k, h⟩

theorem word_less (k : Nat) (h : k < 46) (h0 : 0 < k) : Op.bytesLess (wordAt (k - 1)).toList (wordAt k).toList = true := by
  have : ∀ k : Fin 46, 0 < k.val → Op.bytesLess (words46.getD (k.val - 1) []) (words46.getD k.val []) = true := by decide +kernel
  rw [ByteArray.toList_eq, ByteArray.toList_eq]
  exact this ⟨k, h⟩ h0
theorem word_more (k : Nat) (h : k < 46) : (wordAt k ++ ⟨#[115]⟩ : ByteArray).size ≤ maxLen := by
  have := word_size k h
  have e : (⟨#[115]⟩ : ByteArray).size = 1 := rfl
  rw [ByteArray.size_append, e]
  unfold maxLen
  omega
theorem row_cells {w : World} {A : Nat} (h : Own w A resV 9) (k : Nat) (hk : k < 46) : w.cell? ⟨A, k, none⟩ = some (.string (wordAt k)) := by
  rw [h.cell, resV_get k hk]; rfl

theorem five_chain {w w4 u1 u2 u3 : World} (h : Below w.heap.size w w4) (h1 : Below w4.drew.heap.size w4.drew u1) (h2 : Below u1.heap.size u1 u2) (h3 : Below u2.heap.size u2 u3) : Below w.heap.size w u3 := by
  have a := h.drew
  have b := a.trans (h1.mono a.size)
  have c := b.trans (h2.mono b.size)
  exact c.trans (h3.mono c.size)

set_option maxRecDepth 100000 in
set_option maxHeartbeats 2000000 in
theorem reserved_walk (i : Int) (w : World) (hT : Tabs w) :
    Calls Tryd.prog 7 #[.int .i64 i] w fun e w' => e = .returned (.bool true) ∧ Below w.heap.size w w' := by
  replace hT := Lib.hid hT
  go_enter Tryd.func7, Tryd.ntmps7
  go_wp2_with fail
  refine (awake_any _ hT.out).mono ?_
  rintro e w1 ⟨rfl, hb1⟩
  have hT1 := Lib.hid (hT.out.below hb1)
  replace hb1 := Lib.hid hb1
  clear hT
  go_wp2_with fail
  refine (reserved_any _ hT1.out.space).mono ?_
  rintro e w2 ⟨rfl, hw2⟩
  have hO2 : Own w2 w1.heap.size resV 9 := by rw [hw2]; exact Own.new _ _ _
  have hb12 : Below w1.heap.size w1 w2 := by rw [hw2]; exact (Below.refl _ _).alloc (Nat.le_refl _) _
  replace hw2 := Lib.hid hw2
  have hT2 := Lib.hid (hT1.out.below hb12)
  have hB2 := Lib.hid (hb1.out.trans (hb12.mono hb1.out.size))
  have hz2 : w1.heap.size < w2.heap.size := hO2.lt
  replace hO2 := Lib.hid hO2
  clear hb12 hT1 hw2
  go_wp2_with fail
  refine (reserved_ref _).mono ?_
  rintro e w3 ⟨rfl, hw3⟩
  have hO3 : Own w3 w2.heap.size resV 9 := by rw [hw3]; exact Own.new _ _ _
  have hb23 : Below w2.heap.size w2 w3 := by rw [hw3]; exact (Below.refl _ _).alloc (Nat.le_refl _) _
  have hO23 := hO2.out.below hb23 hz2
  replace hw3 := Lib.hid hw3
  have hT3 := Lib.hid (hT2.out.below hb23)
  have hB3 := Lib.hid (hB2.out.trans (hb23.mono hB2.out.size))
  have hcA := Lib.hid (row_cells hO23)
  have hcB := Lib.hid (row_cells hO3)
  have hz3 : w2.heap.size < w3.heap.size := hO3.lt
  clear hb23 hT2 hw3 hO2 hO3 hO23 hB2
  go_wp2_with fail
  refine (same_any w1.heap.size w2.heap.size _ hcA.out hcB.out).mono ?_
  rintro e w4 ⟨rfl, hb34⟩
  have hT4 := Lib.hid (hT3.out.below hb34)
  have hB4 := Lib.hid (hB3.out.trans (hb34.mono hB3.out.size))
  have hc4 := Lib.hid (show ∀ k, k < 46 → w4.cell? ⟨w2.heap.size, k, none⟩ = some (.string (wordAt k)) from fun k hk => (sub_of_below hb34) _ _ (hcB.out k hk))
  have hz4 : w2.heap.size < w4.heap.size := by have := hb34.size; omega
  clear hb34 hT3 hB3 hcA hcB hz3 hz2 hb1
  have hp := place i 46 (by decide)
  have hp0 : -46 < i.tmod 46 := by simpa using hp.1
  have hp1 : i.tmod 46 < 46 := by simpa using hp.2
  have hi0 : 0 ≤ (i.tmod 46 + 46) % 46 := Int.emod_nonneg _ (by omega)
  have hi1 : (i.tmod 46 + 46) % 46 < 46 := Int.emod_lt_of_pos _ (by omega)
  clear hp
  go_wp2_with fail
  obtain ⟨k, hk, hk46⟩ : ∃ k : Nat, (i.tmod 46 + 46) % 46 = (k : Int) ∧ k < 46 := ⟨((i.tmod 46 + 46) % 46).toNat, by omega, by omega⟩
  rw [hk]
  clear hk hi0 hi1 hp0 hp1
  generalize i.tmod 46 + 46 = z1
  generalize i.tmod 46 = z2
  have hk1 := Lib.hid (word_nokey k hk46)
  have hT5 := Lib.hid (hT4.out.below ((Below.refl _ _).drew))
  have tok1 : True := trivial
  have hws := word_size k hk46
  have n0 : (0 : Int) ≤ (k : Int) := Int.natCast_nonneg _
  have n1 : (k : Int) < 46 := by omega
  clear tok1 hT5
  have c1 := hc4.out k hk46
  have cK : ∀ (s : ByteArray) (d : Nat) (os : Array Obj), Calls Tryd.prog 11 #[.string s] (Sort.grow (redrawn w4 d) os) fun e w'' => e = .returned (.bool (keyS s.data.toList)) ∧ ∃ p : Regrown, w'' = Sort.grow (redrawn w4 p.d) p.os :=
    fun s d os => Calls.regrown_of (key_any s _ (hT4.out.below (below_regrown w4 d os)).space)
  have cR : ∀ (s : ByteArray) (hs : s.size ≤ maxLen) (d : Nat) (os : Array Obj), Calls Tryd.prog 12 #[.string s] (Sort.grow (redrawn w4 d) os) fun e w'' => e = .returned (.bool (keyS s.data.toList)) ∧ ∃ p : Regrown, w'' = Sort.grow (redrawn w4 p.d) p.os :=
    fun s hs d os => Calls.regrown_of (key_ref s _ hs)
  replace cK := Lib.hid cK
  replace cR := Lib.hid cR
  have hm := Lib.hid (word_more k hk46)
  have hk1' := hk1.out
  have k1 := cell_regrown c1
  rcases Nat.eq_zero_or_pos k with hkz | hkp
  · subst hkz
    rw [show (((0 : Nat) : Int)) = 0 from rfl]
    clear n0 n1
    have m1 : ¬ 9223372036854775807 < (wordAt 0).size + 1 := by omega
    refine wp_region_quiet_below (by kernel_rfl) (by kernel_rfl) ?_
    repeat (go_big_quiet_step (first | (rw [← hk1.out]; exact cK.out _ _ _) | exact cK.out _ _ _ | exact cR.out _ hm.out _ _))
    refine wpQuiet_nil ?_
    intro _ hw'
    obtain ⟨⟨dq, osq⟩, hw''⟩ := hw'
    subst hw''
    have hB5 := Lib.hid (hB4.out.trans ((below_regrown w4 dq osq).mono hB4.out.size))
    go_wp2
    go_ret
    exact ⟨ret_bool rfl, hB5.out⟩
  · have c0 := hc4.out (k - 1) (by omega)
    have k0 := cell_regrown c0
    have p1 : IntKind.i64.wrap ((k : Int) - 1) = (k : Int) - 1 := IntWalk.i64_in _ (by omega)
    have p2 : (0 : Int) ≤ (k : Int) - 1 := by omega
    have p3 : (k : Int) - 1 < 46 := by omega
    have p4 : ((k : Int) - 1).toNat = k - 1 := by omega
    have p5 : ((k : Int) == 0) = false := by simp; omega
    have m1 : ¬ 9223372036854775807 < (wordAt k).size + 1 := by omega
    have hE := Lib.hid (word_less k hk46 hkp)
    refine wp_region_quiet_below (by kernel_rfl) (by kernel_rfl) ?_
    repeat (go_big_quiet_step (first | (rw [← hk1.out]; exact cK.out _ _ _) | exact cK.out _ _ _ | exact cR.out _ hm.out _ _))
    refine wpQuiet_nil ?_
    intro _ hw'
    obtain ⟨⟨dq, osq⟩, hw''⟩ := hw'
    subst hw''
    have hB5 := Lib.hid (hB4.out.trans ((below_regrown w4 dq osq).mono hB4.out.size))
    go_wp2
    go_ret
    exact ⟨ret_bool hE.out, hB5.out⟩

end Go.Proofs.YtppljigkilccdaaDoor.law
