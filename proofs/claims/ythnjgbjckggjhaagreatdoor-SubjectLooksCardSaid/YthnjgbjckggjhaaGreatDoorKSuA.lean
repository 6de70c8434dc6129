/- The example of chapter 5: the law's awake. -/
import Derived.Test.YthnjgbjckggjhaaGreatDoorKSuQ
import Derived.Lib.QuietBelow
namespace Go.Proofs.YthnjgbjckggjhaaGreatDoor.subj
open Go.RowKit Go.Sort Go.Proofs.YthnjgbjckggjhaaGreatDoor Go.Proofs.YthnjgbjckggjhaaGreatDoor.schema Go.Proofs.YthnjgbjckggjhaaGreatDoor.value Go.Proofs.YthnjgbjckggjhaaGreatDoor.text Go.Proofs.YthnjgbjckggjhaaGreatDoor.clause Go.Proofs.YthnjgbjckggjhaaGreatDoor.draw

def exL : List CT := [⟨⟨#[100, 101, 118, 105, 99, 101]⟩, ⟨#[100, 49]⟩, none, 0, 0, []⟩, ⟨⟨#[117, 115, 101, 114]⟩, ⟨#[97, 110, 110]⟩, none, 0, 0, []⟩]
def exA : Array Value := #[.string ⟨#[100, 101, 118, 105, 99, 101]⟩, .string ⟨#[100, 49]⟩, .slice none 0 0, .string ⟨#[117, 115, 101, 114]⟩, .string ⟨#[97, 110, 110]⟩, .slice none 0 0]
theorem ex_ok : subS exL = 0 := by decide +kernel
theorem ex_can : canV exL = .tuple #[.string ⟨#[100, 101, 118, 105, 99, 101, 58, 34, 100, 49, 34, 44, 117, 115, 101, 114, 58, 34, 97, 110, 110, 34]⟩, .int .i64 0] := by
  have h : (canS exL).1 = [100, 101, 118, 105, 99, 101, 58, 34, 100, 49, 34, 44, 117, 115, 101, 114, 58, 34, 97, 110, 110, 34] ∧ (canS exL).2 = 0 := by decide +kernel
  rw [canV, h.1, h.2]
theorem ex_at {w : World} {g : Nat} (h : Own w g exA 37) : SAt w.cell? (.slice (some ⟨g, 0, none⟩) 2 2) exL := by
  refine ⟨rows_of_own h 3 (exL.map CT.row) (by intro r hr; obtain ⟨d, -, rfl⟩ := List.mem_map.1 hr; rfl) rfl 2 (by decide) (by decide), fun c hc => ?_⟩
  simp [exL] at hc
  rcases hc with rfl | rfl
  all_goals exact ⟨rows_nil _ _, (fun a ha => by cases ha), (by simp only; decide)⟩

set_option maxRecDepth 100000 in
set_option maxHeartbeats 4000000 in
theorem sawake_any (w : World) (hT : STabs w) :
    Calls Tryz.prog 4 #[] w fun e w' => e = .returned (.bool true) ∧ Below w.heap.size w w' := by
  have hB1 : Below w.heap.size w ((w.alloc (.cells exA 37)).alloc (.cells #[.slice (some ⟨w.heap.size, 0, none⟩) 2 2] 24)) := ((Below.refl _ _).alloc (Nat.le_refl _) _).alloc (by simp) _
  have hX := (Own.new w exA 37).alloc (.cells #[.slice (some ⟨w.heap.size, 0, none⟩) 2 2] 24)
  have hS := Own.new' (w := w.alloc (.cells exA 37)) (n := w.heap.size + 1) (A := #[.slice (some ⟨w.heap.size, 0, none⟩) 2 2]) (t := 24) (by simp)
  have hT1 := Lib.hid (hT.below hB1)
  replace hB1 := Lib.hid hB1
  replace hX := Lib.hid hX
  replace hS := Lib.hid hS
  clear hT
  go_enter Tryz.func4, Tryz.ntmps4
  go_wp2_with fail
  unfold exA at hB1 hX hS hT1
  generalize (w.alloc (.cells #[.string ⟨#[100, 101, 118, 105, 99, 101]⟩, .string ⟨#[100, 49]⟩, .slice none 0 0, .string ⟨#[117, 115, 101, 114]⟩, .string ⟨#[97, 110, 110]⟩, .slice none 0 0] 37)).alloc (.cells #[.slice (some ⟨w.heap.size, 0, none⟩) 2 2] 24) = w1 at hB1 hX hS hT1 ⊢
  refine (can_any exL _ 2 2 _ (ex_at hX.out) hT1.out).mono ?_
  rintro e w2 ⟨rfl, hb2⟩
  rw [ex_can]
  have hB2 := Lib.hid (hB1.out.trans (hb2.mono hB1.out.size))
  have hX2 := Lib.hid (hX.out.below hb2 hX.out.lt)
  have hS2 := hS.out.below hb2 hS.out.lt
  have hT2 := Lib.hid (hT1.out.below hb2)
  have s0 := hS2.cell 0
  have hsl := hS2.lt
  simp only [List.getElem?_toArray, List.getElem?_cons_zero] at s0
  clear hb2 hB1 hX hS hT1 hS2
  go_wp2_with fail
  refine (scheck_any exL _ 2 2 _ (ex_at hX2.out) hT2.out).mono ?_
  rintro e w3 ⟨rfl, hb3⟩
  rw [ex_ok]
  have hB3 := Lib.hid (hB2.out.trans (hb3.mono hB2.out.size))
  clear hb3
  go_wp2
  go_ret
  exact ⟨rfl, hB3.out⟩

end Go.Proofs.YthnjgbjckggjhaaGreatDoor.subj

