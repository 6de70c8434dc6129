/- The program's Find: an own copy of a subject's context. -/
import Derived.Test.YtamkmdlfhlbbeaaGreatDoorKSuK
import Derived.Test.YtamkmdlfhlbbeaaGreatDoorKClL
namespace Go.Proofs.YtamkmdlfhlbbeaaGreatDoor.subj
open Go.RowKit Go.Proofs.YtamkmdlfhlbbeaaGreatDoor Go.Proofs.YtamkmdlfhlbbeaaGreatDoor.schema Go.Proofs.YtamkmdlfhlbbeaaGreatDoor.value Go.Proofs.YtamkmdlfhlbbeaaGreatDoor.text Go.Proofs.YtamkmdlfhlbbeaaGreatDoor.clause Go.Proofs.YtamkmdlfhlbbeaaGreatDoor.draw

attribute [local go_sem ↓] Go.wp_at_zero Go.wp_at_succ

def FoundIs : Option CT → Mem → Ending → Prop
  | none, _, e => e = .returned (.tuple #[.agg #[.string ⟨#[]⟩, .string ⟨#[]⟩, .slice none 0 0], .bool false])
  | some c, M, e => ∃ d : CT, e = .returned (.tuple #[.agg #[.string d.kind, .string d.key, .slice d.ptr d.len d.cap], .bool true]) ∧ SameC d c ∧ CAt M d

set_option maxRecDepth 100000 in
set_option maxHeartbeats 2000000 in
theorem found_any (l : List CT) (a : Option Addr) (n c : Nat) (kind : ByteArray) (w : World) (h : SAt w.cell? (.slice a n c) l) (hfew : ∀ x ∈ l, x.attrs.length ≤ 1099511627776) :
    Calls Tryz.prog 21 #[.agg #[.slice a n c], .string kind] w fun e w' => FoundIs (findS kind.toList l) (newM w.heap.size 0 w') e ∧ Below w.heap.size w w' := by
  have hB : Below w.heap.size w ((w.alloc (.cells #[.slice a n c] 24)).alloc (.cells #[.string ⟨#[]⟩, .string ⟨#[]⟩, .slice none 0 0] 37)) := ((Below.refl _ _).alloc (Nat.le_refl _) _).alloc (by simp) _
  have hX := Lib.hid ((Own.new w #[.slice a n c] 24).alloc (.cells #[.string ⟨#[]⟩, .string ⟨#[]⟩, .slice none 0 0] 37))
  have hZ := Own.new (w.alloc (.cells #[.slice a n c] 24)) #[.string ⟨#[]⟩, .string ⟨#[]⟩, .slice none 0 0] 37
  rw [World.size_alloc] at hZ
  replace hZ := Lib.hid hZ
  have hS := Lib.hid (h.mono (sub_of_below hB))
  replace hB := Lib.hid hB
  replace hfew := Lib.hid hfew
  clear h
  go_enter Tryz.func21, Tryz.ntmps21
  go_wp2_with fail
  refine (index_any kind a n c l _ hS.out.rows).mono ?_
  rintro e w1 ⟨⟨q, rfl, hq⟩, hb⟩
  have hX1 := Lib.hid (hX.out.below hb (by simp; omega))
  have hZ1 := Lib.hid (hZ.out.below hb (by simp))
  have hS1 := Lib.hid (hS.out.mono (sub_of_below hb))
  have hB1 := Lib.hid (hB.out.trans (hb.mono hB.out.size))
  clear hX hZ hS hB hb
  obtain ⟨z0, z1, z2⟩ := own3c hZ1.out
  have g0 := hZ1.out.free 0
  have g1 := hZ1.out.free 1
  have g2 := hZ1.out.free 2
  have hzl : w.heap.size + 1 < w1.heap.size := hZ1.out.lt
  have hxl : w.heap.size < w1.heap.size := by omega
  have x0 := hX1.out.cell 0
  rcases hq with ⟨k, hk, rfl, hf⟩ | ⟨rfl, hf⟩
  case inr =>
    replace hf := Lib.hid hf
    go_wp2
    refine bodyPost_ret (v := .tuple #[.agg #[.string ⟨#[]⟩, .string ⟨#[]⟩, .slice none 0 0], .bool false]) (by simp [results, Tryz.results21, go_sem, z0, z1, z2]) rfl ?_
    refine ⟨?_, ((hB1.out.setCell (by simp <;> omega) _).setCell (by simp <;> omega) _).setCell (by simp <;> omega) _⟩
    rw [hf.out]
    rfl
  obtain ⟨blk, off, rfl, rfl, hn, c0, c1, c2⟩ := ct_at hS1.out.rows hk
  have hCt := Lib.hid (hS1.out.each l[k] (List.getElem_mem hk))
  have hfk := Lib.hid (hfew.out l[k] (List.getElem_mem hk))
  generalize l[k] = ct at c0 c1 c2 hCt hf hfk
  obtain ⟨ckd, cky, cp, cl, cc, attrs⟩ := ct
  simp only at c0 c1 c2
  replace hf := Lib.hid hf
  have n0 : (0 : Int) ≤ (k : Int) := by omega
  have n1 : (k : Int) < (l.length : Int) := by omega
  clear hfew hS1
  go_wp2_with fail
  refine (clone_context ⟨ckd, cky, cp, cl, cc, attrs⟩ _ hCt.out hfk.out).mono ?_
  rintro e w2 ⟨⟨d, rfl, hd, hdA⟩, hb⟩
  have hZ2 := Lib.hid (hZ1.out.below hb hzl)
  have hB2 := Lib.hid (hB1.out.trans (hb.mono hB1.out.size))
  have hd2 := Lib.hid (hdA.mono (newM_set (q := ⟨w.heap.size + 1, 0, none⟩) (by show w.heap.size + 1 < w1.heap.size; omega) (.string d.kind)))
  have hd3 := Lib.hid (hd2.out.mono (newM_set (q := ⟨w.heap.size + 1, 1, none⟩) (by show w.heap.size + 1 < w1.heap.size; omega) (.string d.key)))
  have hd4 := Lib.hid ((hd3.out.mono (newM_set (q := ⟨w.heap.size + 1, 2, none⟩) (by show w.heap.size + 1 < w1.heap.size; omega) (.slice d.ptr d.len d.cap))).mono (newM_mono (B := w.heap.size) (B' := w1.heap.size) (by omega) 0 _))
  replace hd := Lib.hid hd
  clear hZ1 hB1 hb hdA hd2 hd3 z0 z1 z2 g0 g1 g2 c0 c1 c2 x0 hCt hX1
  obtain ⟨z0, z1, z2⟩ := own3c hZ2.out
  have g0 := hZ2.out.free 0
  have g1 := hZ2.out.free 1
  have g2 := hZ2.out.free 2
  have hz2 : w.heap.size + 1 < w2.heap.size := hZ2.out.lt
  go_wp2
  refine bodyPost_ret (v := .tuple #[.agg #[.string d.kind, .string d.key, .slice d.ptr d.len d.cap], .bool true]) (by simp [results, Tryz.results21, go_sem, z0, z1, z2]) rfl ?_
  refine ⟨?_, ((hB2.out.setCell (by simp <;> omega) _).setCell (by simp <;> omega) _).setCell (by simp <;> omega) _⟩
  rw [hf.out]
  exact ⟨d, rfl, hd.out, hd4.out⟩

end Go.Proofs.YtamkmdlfhlbbeaaGreatDoor.subj

