/- The example of chapter 5: the law's awake. Whether a subject is not too large to be looked at: the law's small. -/
import Derived.Test.YtamkmdlfhlbbeaaGreatDoorKSuQ
import Derived.Lib.QuietBelow
import Derived.Test.YtamkmdlfhlbbeaaGreatDoorKSuE
namespace Go.Proofs.YtamkmdlfhlbbeaaGreatDoor.subj
open Go.RowKit Go.Sort Go.Proofs.YtamkmdlfhlbbeaaGreatDoor Go.Proofs.YtamkmdlfhlbbeaaGreatDoor.schema Go.Proofs.YtamkmdlfhlbbeaaGreatDoor.value Go.Proofs.YtamkmdlfhlbbeaaGreatDoor.text Go.Proofs.YtamkmdlfhlbbeaaGreatDoor.clause Go.Proofs.YtamkmdlfhlbbeaaGreatDoor.draw

def exL : List CT := [⟨⟨#[100, 101, 118, 105, 99, 101]⟩, ⟨#[100, 49]⟩, none, 0, 0, []⟩, ⟨⟨#[117, 115, 101, 114]⟩, ⟨#[97, 110, 110]⟩, none, 0, 0, []⟩]
def exA : Array Value := #[.string ⟨#[100, 101, 118, 105, 99, 101]⟩, .string ⟨#[100, 49]⟩, .slice none 0 0, .string ⟨#[117, 115, 101, 114]⟩, .string ⟨#[97, 110, 110]⟩, .slice none 0 0]
theorem ex_ok : subS exL = 0 := by decide +kernel
theorem ex_can : canV exL = .tuple #[.string ⟨#[100, 101, 118, 105, 99, 101, 58, 34, 100, 49, 34, 44, 117, 115, 101, 114, 58, 34, 97, 110, 110, 34]⟩, .int .i64 0] := by
  have h : (canS exL).1 = [100, 101, 118, 105, 99, 101, 58, 34, 100, 49, 34, 44, 117, 115, 101, 114, 58, 34, 97, 110, 110, 34] ∧ (canS exL).2 = 0 := by decide +kernel
  rw [canV, h.1, h.2]
theorem ex_at {w : World} {g : Nat} (h : Own w g exA 37) : SAt w.cell? (.slice (some ⟨g, 0, none⟩) 2 2) exL := by
  refine ⟨rows_of_own h 3 (exL.map CT.row) (by intro r hr; obtain ⟨d, -, rfl⟩ := List.mem_map.1 hr; rfl) rfl 2 (by decide) (by decide), fun c hc => ?_⟩
  simp [exL] at hc
  rcases hc with rfl | rfl
  all_goals exact ⟨rows_nil _ _, (fun a ha => by cases ha), (by simp only; decide)⟩

set_option maxRecDepth 100000 in
set_option maxHeartbeats 4000000 in
theorem sawake_any (w : World) (hT : STabs w) :
    Calls Tryz.prog 10 #[] w fun e w' => e = .returned (.bool true) ∧ Below w.heap.size w w' := by
  have hB1 : Below w.heap.size w ((w.alloc (.cells exA 37)).alloc (.cells #[.slice (some ⟨w.heap.size, 0, none⟩) 2 2] 24)) := ((Below.refl _ _).alloc (Nat.le_refl _) _).alloc (by simp) _
  have hX := (Own.new w exA 37).alloc (.cells #[.slice (some ⟨w.heap.size, 0, none⟩) 2 2] 24)
  have hS := Own.new' (w := w.alloc (.cells exA 37)) (n := w.heap.size + 1) (A := #[.slice (some ⟨w.heap.size, 0, none⟩) 2 2]) (t := 24) (by simp)
  have hT1 := Lib.hid (hT.below hB1)
  replace hB1 := Lib.hid hB1
  replace hX := Lib.hid hX
  replace hS := Lib.hid hS
  clear hT
  go_enter Tryz.func10, Tryz.ntmps10
  go_wp2_with fail
  unfold exA at hB1 hX hS hT1
  generalize (w.alloc (.cells #[.string ⟨#[100, 101, 118, 105, 99, 101]⟩, .string ⟨#[100, 49]⟩, .slice none 0 0, .string ⟨#[117, 115, 101, 114]⟩, .string ⟨#[97, 110, 110]⟩, .slice none 0 0] 37)).alloc (.cells #[.slice (some ⟨w.heap.size, 0, none⟩) 2 2] 24) = w1 at hB1 hX hS hT1 ⊢
  refine (can_any exL _ 2 2 _ (ex_at hX.out) hT1.out).mono ?_
  rintro e w2 ⟨rfl, hb2⟩
  rw [ex_can]
  have hB2 := Lib.hid (hB1.out.trans (hb2.mono hB1.out.size))
  have hX2 := Lib.hid (hX.out.below hb2 hX.out.lt)
  have hS2 := hS.out.below hb2 hS.out.lt
  have hT2 := Lib.hid (hT1.out.below hb2)
  have s0 := hS2.cell 0
  have hsl := hS2.lt
  simp only [List.getElem?_toArray, List.getElem?_cons_zero] at s0
  clear hb2 hB1 hX hS hT1 hS2
  go_wp2_with fail
  refine (scheck_any exL _ 2 2 _ (ex_at hX2.out) hT2.out).mono ?_
  rintro e w3 ⟨rfl, hb3⟩
  rw [ex_ok]
  have hB3 := Lib.hid (hB2.out.trans (hb3.mono hB2.out.size))
  clear hb3
  go_wp2
  go_ret
  exact ⟨rfl, hB3.out⟩

end Go.Proofs.YtamkmdlfhlbbeaaGreatDoor.subj

namespace Go.Proofs.YtamkmdlfhlbbeaaGreatDoor.subj
open Go.RowKit Go.Proofs.YtamkmdlfhlbbeaaGreatDoor Go.Proofs.YtamkmdlfhlbbeaaGreatDoor.schema Go.Proofs.YtamkmdlfhlbbeaaGreatDoor.value Go.Proofs.YtamkmdlfhlbbeaaGreatDoor.text Go.Proofs.YtamkmdlfhlbbeaaGreatDoor.clause Go.Proofs.YtamkmdlfhlbbeaaGreatDoor.draw

def smallC (c : CT) : Bool := decide (c.attrs.length ≤ 30) && decide (c.key.size ≤ 400)
def smallB (l : List CT) : Bool := decide (l.length ≤ 8) && l.all smallC
theorem small_long {l : List CT} (h : 8 < l.length) : smallB l = false := by unfold smallB; rw [decide_eq_false (by omega)]; rfl
def SmAt (l : List CT) (k : Nat) : Prop := (l.drop k).all smallC = l.all smallC
theorem SmAt.bad {l : List CT} {k : Nat} (T : SmAt l k) (h : k < l.length) (h1 : smallC l[k] = false) : smallB l = false := by
  unfold SmAt at T; unfold smallB; rw [← T, List.drop_eq_getElem_cons h, List.all_cons, h1]; simp
theorem SmAt.next {l : List CT} {k : Nat} (T : SmAt l k) (h : k < l.length) (h1 : smallC l[k] = true) : SmAt l (k + 1) := by
  unfold SmAt at *; rw [← T, List.drop_eq_getElem_cons h, List.all_cons, h1]; rfl
theorem SmAt.done {l : List CT} {k : Nat} (T : SmAt l k) (h : ¬ k < l.length) (h8 : ¬ 8 < l.length) : smallB l = true := by
  unfold SmAt at T; unfold smallB; rw [← T, List.drop_eq_nil_of_le (by omega), decide_eq_true (by omega)]; rfl
theorem small_len {l : List CT} (h : smallB l = true) : l.length ≤ 8 := by
  unfold smallB at h
  simp only [Bool.and_eq_true, decide_eq_true_eq] at h
  exact h.1
theorem small_few {l : List CT} (h : smallB l = true) : ∀ c ∈ l, c.attrs.length ≤ 30 ∧ c.key.size ≤ 400 := by
  unfold smallB at h
  simp only [Bool.and_eq_true, List.all_eq_true] at h
  intro c hc
  have := h.2 c hc
  unfold smallC at this
  simpa using this

set_option maxRecDepth 100000 in
set_option maxHeartbeats 4000000 in
theorem small_any (l : List CT) (va : Option Addr) (n vc : Nat) (w : World) (h : SAt w.cell? (.slice va n vc) l) :
    Calls Tryz.prog 11 #[.agg #[.slice va n vc]] w fun e w' => e = .returned (.bool (smallB l)) ∧ Below w.heap.size w w' := by
  have hn := (len_of h.rows).1
  have hm := (len_of h.rows).2
  simp only [List.length_map] at hn
  subst hn
  have hB0 : Below w.heap.size w (w.alloc (.cells #[.slice va l.length vc] 24)) := (Below.refl _ _).alloc (Nat.le_refl _) _
  have hSx := Own.new w #[.slice va l.length vc] 24
  have hA := Lib.hid (h.mono (sub_of_below hB0))
  replace hB0 := Lib.hid hB0
  clear h
  go_enter Tryz.func11, Tryz.ntmps11
  by_cases hlong : 8 < l.length
  · have hQ := Lib.hid (small_long hlong)
    go_wp2
    go_ret
    exact ⟨text.ret_bool hQ.out.symm, hB0.out⟩
  go_wp2_with fail
  generalize w.alloc (.cells #[.slice va l.length vc] 24) = w0 at hB0 hSx hA ⊢
  obtain ⟨gs, hgs⟩ : ∃ g : Nat, Hid (g = w.heap.size) := ⟨_, Lib.hid rfl⟩
  rw [← hgs.out] at hSx ⊢
  have s0 := hSx.cell 0
  have hsl := hSx.lt
  simp only [List.getElem?_toArray, List.getElem?_cons_zero] at s0
  go_loop [3] (fun s => ∃ k : Nat, k ≤ l.length ∧ s = .int .i64 k ∧ Hid (SmAt l k)) (fun s => l.length - (intOf s).toNat)
  case atStart => exact ⟨0, by omega, rfl, Lib.hid rfl⟩
  case round =>
    obtain ⟨k, hk, rfl, hT⟩ := hrel
    by_cases hlt : k < l.length
    case neg =>
      have hE := Lib.hid (hT.out.done hlt hlong)
      go_wp2
      go_ret
      exact ⟨text.ret_bool hE.out.symm, hB0.out⟩
    obtain ⟨blk, off, rfl, -, -, c0, c1, c2⟩ := ct_at hA.out.rows hlt
    have hCk := hA.out.each l[k] (List.getElem_mem hlt)
    have hcl := (len_of hCk.rows).1
    simp only [List.length_map] at hcl
    have hbad := Lib.hid (fun h1 => hT.out.bad hlt h1)
    have hnext := Lib.hid (fun h1 => hT.out.next hlt h1)
    have n0 : (0 : Int) ≤ (k : Int) := by omega
    have n1 : (k : Int) < (l.length : Int) := by omega
    have hbl : blk < w0.heap.size := World.block_lt_of_cell? w0 _ c0
    clear hCk
    generalize l[k] = ct at c0 c1 c2 hcl hbad hnext
    obtain ⟨ck, cy, cp, cl, cc, ca⟩ := ct
    simp only at c0 c1 c2 hcl
    by_cases h1 : 30 < cl
    · have hE := Lib.hid (hbad.out (by unfold smallC; rw [decide_eq_false (by simp only; omega)]; rfl))
      clear hbad hnext hcl
      go_wp2
      go_ret
      exact ⟨text.ret_bool hE.out.symm, hB0.out⟩
    by_cases h2 : 400 < cy.size
    · have hE := Lib.hid (hbad.out (by unfold smallC; rw [decide_eq_false (p := cy.size ≤ 400) (by omega)]; simp))
      clear hbad hnext hcl
      go_wp2
      go_ret
      exact ⟨text.ret_bool hE.out.symm, hB0.out⟩
    have hN := Lib.hid (hnext.out (by unfold smallC; rw [decide_eq_true (by simp only; omega), decide_eq_true (p := cy.size ≤ 400) (by omega)]; rfl))
    clear hbad hnext hcl
    go_wp2
    go_round
    case rel => exact ⟨k + 1, by omega, by go_num, hN⟩
    case measure => simp [intOf]; omega

end Go.Proofs.YtamkmdlfhlbbeaaGreatDoor.subj
