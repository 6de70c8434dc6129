/- Whether a subject is not too large to be looked at: the law's small. -/
import Derived.Test.YthnjgbjckggjhaaGreatDoorKSuE
import Derived.Test.YthnjgbjckggjhaaGreatDoorKWd
namespace Go.Proofs.YthnjgbjckggjhaaGreatDoor.subj.wide
open Go.RowKit Go.Proofs.YthnjgbjckggjhaaGreatDoor Go.Proofs.YthnjgbjckggjhaaGreatDoor.schema Go.Proofs.YthnjgbjckggjhaaGreatDoor.value Go.Proofs.YthnjgbjckggjhaaGreatDoor.text Go.Proofs.YthnjgbjckggjhaaGreatDoor.clause Go.Proofs.YthnjgbjckggjhaaGreatDoor.draw

def smallC (c : CT) : Bool := decide (c.attrs.length ≤ 30) && decide (c.key.size ≤ 400)
def smallB (l : List CT) : Bool := decide (l.length ≤ 8) && l.all smallC
theorem small_long {l : List CT} (h : 8 < l.length) : smallB l = false := by unfold smallB; rw [decide_eq_false (by omega)]; rfl
def SmAt (l : List CT) (k : Nat) : Prop := (l.drop k).all smallC = l.all smallC
theorem SmAt.bad {l : List CT} {k : Nat} (T : SmAt l k) (h : k < l.length) (h1 : smallC l[k] = false) : smallB l = false := by
  unfold SmAt at T; unfold smallB; rw [← T, List.drop_eq_getElem_cons h, List.all_cons, h1]; simp
theorem SmAt.next {l : List CT} {k : Nat} (T : SmAt l k) (h : k < l.length) (h1 : smallC l[k] = true) : SmAt l (k + 1) := by
  unfold SmAt at *; rw [← T, List.drop_eq_getElem_cons h, List.all_cons, h1]; rfl
theorem SmAt.done {l : List CT} {k : Nat} (T : SmAt l k) (h : ¬ k < l.length) (h8 : ¬ 8 < l.length) : smallB l = true := by
  unfold SmAt at T; unfold smallB; rw [← T, List.drop_eq_nil_of_le (by omega), decide_eq_true (by omega)]; rfl
theorem small_len {l : List CT} (h : smallB l = true) : l.length ≤ 8 := by
  unfold smallB at h
  simp only [Bool.and_eq_true, decide_eq_true_eq] at h
  exact h.1
theorem small_few {l : List CT} (h : smallB l = true) : ∀ c ∈ l, c.attrs.length ≤ 30 ∧ c.key.size ≤ 400 := by
  unfold smallB at h
  simp only [Bool.and_eq_true, List.all_eq_true] at h
  intro c hc
  have := h.2 c hc
  unfold smallC at this
  simpa using this

set_option maxRecDepth 100000 in
set_option maxHeartbeats 4000000 in
theorem small_any (l : List CT) (va : Option Addr) (n vc : Nat) (w : World) (h : SAt w.cell? (.slice va n vc) l) :
    Calls Tryz.prog 5 #[.agg #[.slice va n vc]] w fun e w' => e = .returned (.bool (smallB l)) ∧ Below w.heap.size w w' := by
  have hn := (len_of h.rows).1
  have hm := (len_of h.rows).2
  simp only [List.length_map] at hn
  subst hn
  have hB0 : Below w.heap.size w (w.alloc (.cells #[.slice va l.length vc] 24)) := (Below.refl _ _).alloc (Nat.le_refl _) _
  have hSx := Own.new w #[.slice va l.length vc] 24
  have hA := Lib.hid (h.mono (sub_of_below hB0))
  replace hB0 := Lib.hid hB0
  clear h
  go_enter Tryz.func5, Tryz.ntmps5
  by_cases hlong : 8 < l.length
  · have hQ := Lib.hid (small_long hlong)
    go_wp2
    go_ret
    exact ⟨text.ret_bool hQ.out.symm, hB0.out⟩
  go_wp2_with fail
  generalize w.alloc (.cells #[.slice va l.length vc] 24) = w0 at hB0 hSx hA ⊢
  obtain ⟨gs, hgs⟩ : ∃ g : Nat, Hid (g = w.heap.size) := ⟨_, Lib.hid rfl⟩
  rw [← hgs.out] at hSx ⊢
  have s0 := hSx.cell 0
  have hsl := hSx.lt
  simp only [List.getElem?_toArray, List.getElem?_cons_zero] at s0
  go_loop [3] (fun s => ∃ k : Nat, k ≤ l.length ∧ s = .int .i64 k ∧ Hid (SmAt l k)) (fun s => l.length - (intOf s).toNat)
  case atStart => exact ⟨0, by omega, rfl, Lib.hid rfl⟩
  case round =>
    obtain ⟨k, hk, rfl, hT⟩ := hrel
    by_cases hlt : k < l.length
    case neg =>
      have hE := Lib.hid (hT.out.done hlt hlong)
      go_wp2
      go_ret
      exact ⟨text.ret_bool hE.out.symm, hB0.out⟩
    obtain ⟨blk, off, rfl, -, -, c0, c1, c2⟩ := ct_at hA.out.rows hlt
    have hCk := hA.out.each l[k] (List.getElem_mem hlt)
    have hcl := (len_of hCk.rows).1
    simp only [List.length_map] at hcl
    have hbad := Lib.hid (fun h1 => hT.out.bad hlt h1)
    have hnext := Lib.hid (fun h1 => hT.out.next hlt h1)
    have n0 : (0 : Int) ≤ (k : Int) := by omega
    have n1 : (k : Int) < (l.length : Int) := by omega
    have hbl : blk < w0.heap.size := World.block_lt_of_cell? w0 _ c0
    clear hCk
    generalize l[k] = ct at c0 c1 c2 hcl hbad hnext
    obtain ⟨ck, cy, cp, cl, cc, ca⟩ := ct
    simp only at c0 c1 c2 hcl
    by_cases h1 : 30 < cl
    · have hE := Lib.hid (hbad.out (by unfold smallC; rw [decide_eq_false (by simp only; omega)]; rfl))
      clear hbad hnext hcl
      go_wp2
      go_ret
      exact ⟨text.ret_bool hE.out.symm, hB0.out⟩
    by_cases h2 : 400 < cy.size
    · have hE := Lib.hid (hbad.out (by unfold smallC; rw [decide_eq_false (p := cy.size ≤ 400) (by omega)]; simp))
      clear hbad hnext hcl
      go_wp2
      go_ret
      exact ⟨text.ret_bool hE.out.symm, hB0.out⟩
    have hN := Lib.hid (hnext.out (by unfold smallC; rw [decide_eq_true (by simp only; omega), decide_eq_true (p := cy.size ≤ 400) (by omega)]; rfl))
    clear hbad hnext hcl
    go_wp2
    go_round
    case rel => exact ⟨k + 1, by omega, by go_num, hN⟩
    case measure => simp [intOf]; omega

end Go.Proofs.YthnjgbjckggjhaaGreatDoor.subj.wide

