/- Whether a test holds: the reference's Test. -/
import Derived.Test.YtlohdmghaeabjaaGreatDoorKClT
import Derived.Test.YtlohdmghaeabjaaGreatDoorKClR
namespace Go.Proofs.YtlohdmghaeabjaaGreatDoor.clause
open Go.RowKit Go.Proofs.YtlohdmghaeabjaaGreatDoor Go.Proofs.YtlohdmghaeabjaaGreatDoor.schema Go.Proofs.YtlohdmghaeabjaaGreatDoor.value Go.Proofs.YtlohdmghaeabjaaGreatDoor.text Go.Proofs.YtlohdmghaeabjaaGreatDoor.draw

set_option maxHeartbeats 1000000 in
theorem within_ref (s t : ByteArray) (k : Nat) (w : World) (hs : s.size < 4294967281) (ht : t.size < 4294967281) (hk : k + t.size ≤ s.size) :
    Calls Tryz.prog 49 #[.string s, .string t, .int .i64 k] w fun e w' => e = .returned (.bool ((s.extract k (k + t.size)).toList == t.toList)) ∧ w' = w := by
  have h0 : (0 : Int) ≤ (k : Int) := by omega
  have h1 : IntKind.i64.wrap ((k : Int) + (t.size : Int)) = (k : Int) + (t.size : Int) := IntWalk.i64_in _ (by omega)
  have h2 : (k : Int) + (t.size : Int) ≤ (s.size : Int) := by omega
  go_enter Tryz.func49, Tryz.ntmps49
  go_wp2
  go_ret
  exact ⟨rfl, rfl⟩
set_option maxHeartbeats 1000000 in
theorem within_no (s t : ByteArray) (k : Int) (w : World) (_hs : s.size < 4294967281) (ht : t.size < 4294967281) (hk0 : -4294967296 < k) (hk1 : k < 4294967296) (hk : ¬ (0 ≤ k ∧ k + t.size ≤ s.size)) :
    Calls Tryz.prog 49 #[.string s, .string t, .int .i64 k] w fun e w' => e = .returned (.bool false) ∧ w' = w := by
  have h1 : IntKind.i64.wrap (k + (t.size : Int)) = k + (t.size : Int) := IntWalk.i64_in _ (by omega)
  go_enter Tryz.func49, Tryz.ntmps49
  by_cases h0 : 0 ≤ k
  · have h2 : ¬ (k + (t.size : Int) ≤ (s.size : Int)) := by omega
    go_wp2
    go_ret
    exact ⟨rfl, rfl⟩
  · go_wp2
    go_ret
    exact ⟨rfl, rfl⟩

theorem occ_ext {s t : ByteArray} {k : Nat} (h : k + t.size ≤ s.size) : ((s.extract k (k + t.size)).toList == t.toList) = Lib.occAt s.data.toList t.data.toList k := by
  unfold Lib.occAt
  have h1 := Lib.hasPrefix_of_take (s.data.toList.drop k) t.data.toList
  unfold Lib.hasPrefix at h1
  rw [← h1, Lib.toList_data, Lib.toList_data, Lib.extract_data, Nat.add_sub_cancel_left]
  have e1 : s.data.toList.length = s.size := (Lib.size_eq s).symm
  have e2 : t.data.toList.length = t.size := (Lib.size_eq t).symm
  rw [e2, List.length_drop, e1, decide_eq_true (by omega : t.size ≤ s.size - k), Bool.true_and]
def NoOcc (s t : ByteArray) (k : Nat) : Prop := ∀ j, j < k → Lib.occAt s.data.toList t.data.toList j = false
theorem occ_hit {s t : ByteArray} {k : Nat} (h : k + t.size ≤ s.size) (h1 : Lib.occAt s.data.toList t.data.toList k = true) (hN : NoOcc s t k) : Lib.contains s.data.toList t.data.toList = true := by
  have e1 : s.data.toList.length = s.size := (Lib.size_eq s).symm
  unfold Lib.contains
  rw [Lib.index_first (by omega) h1 hN]
  exact decide_eq_true (by omega)
theorem occ_end {s t : ByteArray} {k : Nat} (h : ¬ k + t.size ≤ s.size) (hN : NoOcc s t k) : Lib.contains s.data.toList t.data.toList = false := by
  have e1 : s.data.toList.length = s.size := (Lib.size_eq s).symm
  have e2 : t.data.toList.length = t.size := (Lib.size_eq t).symm
  unfold Lib.contains
  rw [Lib.index_none (fun j hj => by
    rcases Nat.lt_or_ge j k with h1 | h1
    · exact hN j h1
    · cases ho : Lib.occAt s.data.toList t.data.toList j with
      | false => rfl
      | true =>
        rcases Lib.occAt_room ho with h2 | h2
        · omega
        · have h3 := hN 0 (by rw [h2] at e2; simp at e2; omega)
          rw [h2] at h3
          simp [Lib.occAt] at h3)]
  rfl

set_option maxRecDepth 100000 in
set_option maxHeartbeats 2000000 in
/-- The reference's contains. -/
theorem contains_ref (v x : VD) (w : World) (hv : LAt w.cell? v) (hx : LAt w.cell? x) :
    Calls Tryz.prog 50 #[.agg #[.int .i64 v.kind, .int .i64 v.num, .string v.text, .slice v.ptr v.len v.cap], .agg #[.int .i64 x.kind, .int .i64 x.num, .string x.text, .slice x.ptr x.len x.cap]] w fun e w' => e = .returned (.bool (oneS 11 v x)) ∧ Below w.heap.size w w' := by
  have hB : Below w.heap.size w ((w.alloc (.cells #[.int .i64 v.kind, .int .i64 v.num, .string v.text, .slice v.ptr v.len v.cap] 43)).alloc (.cells #[.int .i64 x.kind, .int .i64 x.num, .string x.text, .slice x.ptr x.len x.cap] 43)) := ((Below.refl _ _).alloc (Nat.le_refl _) _).alloc (by simp) _
  have hV := (Own.new w #[.int .i64 v.kind, .int .i64 v.num, .string v.text, .slice v.ptr v.len v.cap] 43).alloc (.cells #[.int .i64 x.kind, .int .i64 x.num, .string x.text, .slice x.ptr x.len x.cap] 43)
  have hX := Own.new (w.alloc (.cells #[.int .i64 v.kind, .int .i64 v.num, .string v.text, .slice v.ptr v.len v.cap] 43)) #[.int .i64 x.kind, .int .i64 x.num, .string x.text, .slice x.ptr x.len x.cap] 43
  rw [World.size_alloc] at hX
  have hL := Lib.hid (hv.mono (sub_of_below hB))
  have hsv := hv.text
  have hsx := hx.text
  replace hB := Lib.hid hB
  replace hV := Lib.hid hV
  replace hX := Lib.hid hX
  have hQ := Lib.hid (one11 (v := v) (w := x))
  clear hv hx
  go_enter Tryz.func50, Tryz.ntmps50
  cases hw : (x.kind == 3) with
  | false =>
    have hw2 : (x.kind != 3) = true := by simp only [bne, hw]; rfl
    have hQ2 := Lib.hid (show oneS 11 v x = false by rw [hQ.out, hw]; simp)
    go_wp2
    go_ret
    exact ⟨ret_to hQ2.out, hB.out⟩
  | true =>
    have hw2 : (x.kind != 3) = false := by simp only [bne, hw]; rfl
    cases h5 : (v.kind == 5) with
    | true =>
      have h3 : (v.kind == 3) = false := by have := of_beq h5; simp; omega
      have hQ2 := Lib.hid (show oneS 11 v x = hasS x.text.toList v.ls by rw [hQ.out, hw, h5, h3]; simp)
      go_wp2_with fail
      refine (has_any _ v.ls x.text _ hL.out.rows).mono ?_
      rintro e w4 ⟨rfl, rfl⟩
      generalize hasS x.text.toList v.ls = bb at hQ2 ⊢
      go_wp2
      go_ret
      exact ⟨ret_to hQ2.out, hB.out⟩
    | false =>
      cases h3 : (v.kind == 3) with
      | false =>
        have hQ2 := Lib.hid (show oneS 11 v x = false by rw [hQ.out, hw, h5, h3]; simp)
        go_wp2
        go_loopw [5] (fun s5 wr => s5 = .int .i64 0 ∧ wr = (w.alloc (.cells #[.int .i64 v.kind, .int .i64 v.num, .string v.text, .slice v.ptr v.len v.cap] 43)).alloc (.cells #[.int .i64 x.kind, .int .i64 x.num, .string x.text, .slice x.ptr x.len x.cap] 43)) (fun _ _ => 0)
        case atStart => exact ⟨rfl, rfl⟩
        case round =>
          obtain ⟨rfl, rfl⟩ := hrel
          go_wp2
          go_ret
          exact ⟨ret_to hQ2.out, hB.out⟩
      | true =>
        have hQ2 := Lib.hid (show oneS 11 v x = Lib.contains v.text.data.toList x.text.data.toList by rw [hQ.out, hw, h5, h3]; simp)
        go_wp2
        generalize (w.alloc (.cells #[.int .i64 v.kind, .int .i64 v.num, .string v.text, .slice v.ptr v.len v.cap] 43)).alloc (.cells #[.int .i64 x.kind, .int .i64 x.num, .string x.text, .slice x.ptr x.len x.cap] 43) = w1 at hB hV hX hL ⊢
        obtain ⟨V, hVe⟩ : ∃ V : Nat, V = w.heap.size := ⟨_, rfl⟩
        obtain ⟨X, hXe⟩ : ∃ X : Nat, X = w.heap.size + 1 := ⟨_, rfl⟩
        rw [← hXe] at hX ⊢
        rw [← hVe] at hV ⊢
        clear hVe hXe
        obtain ⟨v0, v1, v2, v3⟩ := box4 hV.out
        obtain ⟨x0, x1, x2, x3⟩ := box4 hX.out
        have hVl : V < w1.heap.size := hV.out.lt
        have hXl : X < w1.heap.size := hX.out.lt
        go_loopw [5] (fun s5 wr => ∃ k : Nat, k ≤ v.text.size + 1 ∧ s5 = .int .i64 k ∧ wr = w1 ∧ Hid (NoOcc v.text x.text k)) (fun s5 _ => v.text.size + 1 - (intOf s5).toNat)
        case atStart => exact ⟨0, by omega, rfl, rfl, Lib.hid (fun j hj => by omega)⟩
        case round =>
          obtain ⟨k, hk, rfl, rfl, hN⟩ := hrel
          have hwk : IntKind.i64.wrap ((k : Int) + (x.text.size : Int)) = (k : Int) + (x.text.size : Int) := IntWalk.i64_in _ (by omega)
          by_cases hkk : k + x.text.size ≤ v.text.size
          · have hk1 : (k : Int) + (x.text.size : Int) ≤ (v.text.size : Int) := by omega
            go_wp2_with fail
            refine (within_ref v.text x.text k _ hsv hsx hkk).mono ?_
            rintro e w4 ⟨rfl, rfl⟩
            rw [occ_ext hkk]
            cases ho : Lib.occAt v.text.data.toList x.text.data.toList k with
            | true =>
              have hQ3 := Lib.hid (hQ2.out.trans (occ_hit hkk ho hN.out))
              go_wp2
              go_ret
              exact ⟨ret_to hQ3.out, hB.out⟩
            | false =>
              have hN2 := Lib.hid (show NoOcc v.text x.text (k + 1) from fun j hj => by
                rcases Nat.lt_or_ge j k with h1 | h1
                · exact hN.out j h1
                · obtain rfl : j = k := by omega
                  exact ho)
              go_wp2
              go_roundw
              case rel => exact ⟨k + 1, by omega, by go_num, by first | rfl | trivial, hN2⟩
              case measure => simp [intOf]; omega
          · have hk1 : ¬ ((k : Int) + (x.text.size : Int) ≤ (v.text.size : Int)) := by omega
            have hQ3 := Lib.hid (hQ2.out.trans (occ_end hkk hN.out))
            go_wp2
            go_ret
            exact ⟨ret_to hQ3.out, hB.out⟩

end Go.Proofs.YtlohdmghaeabjaaGreatDoor.clause

