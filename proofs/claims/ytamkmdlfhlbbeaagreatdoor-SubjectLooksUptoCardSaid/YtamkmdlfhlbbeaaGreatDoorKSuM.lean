/- The kinds and keys of a subject, in a row: the law's names. -/
import Derived.Test.YtamkmdlfhlbbeaaGreatDoorKSuX
import Derived.Test.YtamkmdlfhlbbeaaGreatDoorKSuN
import Derived.Deep.RegionWith
import Derived.Deep.RegionLaw
namespace Go.Proofs.YtamkmdlfhlbbeaaGreatDoor.subj
open Go.RowKit Go.Proofs.YtamkmdlfhlbbeaaGreatDoor Go.Proofs.YtamkmdlfhlbbeaaGreatDoor.schema Go.Proofs.YtamkmdlfhlbbeaaGreatDoor.value Go.Proofs.YtamkmdlfhlbbeaaGreatDoor.text Go.Proofs.YtamkmdlfhlbbeaaGreatDoor.clause Go.Proofs.YtamkmdlfhlbbeaaGreatDoor.draw

attribute [local go_sem ↓] Go.wp_at_zero Go.wp_at_succ

theorem owns_le {w : World} {base base' size n : Nat} {e : TypeId} {v : Value} {xs : List Value} (h : w.ownsRow base e size v n xs) (hb : base' ≤ base) : w.ownsRow base' e size v n xs :=
  ⟨h.1, h.2.imp id (fun ⟨g, cap, cur, e1, e2, e3⟩ => ⟨g, cap, cur, e1, Nat.le_trans hb e2, e3⟩)⟩
def nmRow (c : CT) : List Value := [.string c.kind, .string c.key]
theorem info2s : (Tryz.prog.info? 43).map (fun i => (i.zero, i.size, i.bytes)) = some (some (.agg #[.string ⟨#[]⟩, .string ⟨#[]⟩]), 2, 32) := by kernel_rfl

set_option maxRecDepth 100000 in
set_option maxHeartbeats 8000000 in
theorem names_any (l : List CT) (va : Option Addr) (n vc : Nat) (w : World) (h : SAt w.cell? (.slice va n vc) l) (hl8 : l.length ≤ 8) :
    Calls Tryz.prog 19 #[.agg #[.slice va n vc]] w fun e w' => (∃ pa pc, e = .returned (.slice pa l.length pc) ∧ w'.ownsRow w.heap.size 43 2 (.slice pa l.length pc) l.length (l.map nmRow).flatten) ∧ Below w.heap.size w w' := by
  have hn := (len_of h.rows).1
  have hm := (len_of h.rows).2
  simp only [List.length_map] at hn
  subst hn
  obtain ⟨i0, hi, hz0, hz1, hz2⟩ := info_parts info2s
  have hB0 : Below w.heap.size w (w.alloc (.cells #[.slice va l.length vc] 24)) := (Below.refl _ _).alloc (Nat.le_refl _) _
  have hSx := Lib.hid (Own.new w #[.slice va l.length vc] 24)
  have hA := Lib.hid (h.mono (sub_of_below hB0))
  replace hB0 := Lib.hid hB0
  clear h
  go_enter Tryz.func19, Tryz.ntmps19
  go_wp2_with fail
  have hz := Lib.hid (show (w.alloc (.cells #[.slice va l.length vc] 24)).heap.size = w.heap.size + 1 by simp)
  generalize w.alloc (.cells #[.slice va l.length vc] 24) = w0 at hB0 hSx hA hz ⊢
  obtain ⟨gs, hgs⟩ : ∃ g : Nat, Hid (g = w.heap.size) := ⟨_, Lib.hid rfl⟩
  rw [← hgs.out] at hSx hz hB0 ⊢
  have hS := Lib.hid (show w0.ownsRow (gs + 1) 43 2 (.slice none 0 0) 0 ((l.take 0).map nmRow).flatten from World.ownsRow_nil _ _ _ _)
  go_loopw [3, 4] (fun s3 s4 wr => ∃ (k : Nat) (pa : Option Addr) (pc : Nat), k ≤ l.length ∧ s4 = .int .i64 k ∧ s3 = .slice pa k pc ∧ Hid (wr.ownsRow (gs + 1) 43 2 (.slice pa k pc) k ((l.take k).map nmRow).flatten) ∧ Hid (Below (gs + 1) w0 wr)) (fun _ s4 _ => l.length - (intOf s4).toNat)
  case atStart => exact ⟨0, none, 0, by omega, rfl, rfl, hS, Lib.hid (Below.refl _ _)⟩
  case round =>
    clear hS
    obtain ⟨k, pa, pc, hk, rfl, rfl, hown, hBw⟩ := hrel
    have hSr := hSx.out.below hBw.out (by omega)
    have s0 := hSr.cell 0
    have hsl := hSr.lt
    simp only [List.getElem?_toArray, List.getElem?_cons_zero] at s0
    have hBr : gs + 1 ≤ wr.heap.size := by have := hBw.out.size; have := hz.out; omega
    by_cases hlt : k < l.length
    case neg =>
      obtain rfl : k = l.length := by omega
      have ho := hown.out
      rw [List.take_length] at ho
      have hBx := hB0.out.trans (hBw.out.mono (by omega))
      replace ho := owns_le ho (Nat.le_succ gs)
      rw [hgs.out] at ho hBx
      replace ho := Lib.hid ho
      replace hBx := Lib.hid hBx
      go_wp2
      go_ret
      first | exact ⟨⟨pa, pc, rfl, ho.out⟩, hBx.out⟩ | (rw [hgs.out]; exact ⟨⟨pa, pc, rfl, ho.out⟩, hBx.out⟩)
    obtain ⟨blk, off, rfl, -, -, c0, c1, c2⟩ := ct_at (hA.out.rows.mono (sub_of_below (show Below w0.heap.size w0 wr by rw [hz.out]; exact hBw.out))) hlt
    have htk := Lib.hid (show ((l.take (k + 1)).map nmRow).flatten = ((l.take k).map nmRow).flatten ++ [.string l[k].kind, .string l[k].key] by rw [List.take_succ_eq_append_getElem hlt, List.map_append, List.flatten_append]; rfl)
    have n0 : (0 : Int) ≤ (k : Int) := by omega
    have n1 : (k : Int) < (l.length : Int) := by omega
    have hbl : blk < wr.heap.size := World.block_lt_of_cell? wr _ c0
    generalize l[k] = ct at c0 c1 c2 htk
    obtain ⟨ck, cy, cp, cl, cc, ca⟩ := ct
    simp only at c0 c1 c2 htk
    have hB3 := Lib.hid (bel_drew hBw.out 1)
    have hown3 := Lib.hid (owns_drew hown.out)
    clear c2 hSr
    go_wp2_with fail
    go_region_law
      ((first
        | (refine step_append_lies _ (by rfl) _ _ _ (by rfl) (gs + 1) 43 i0 _ 2 32 Tryz.underlying41 hi hz0 hz1 hz2 rfl (by omega) (.slice pa k pc) k _ (by rfl) (hown3.out.alloc _) ⟨wr.heap.size, 0, none⟩ 1 1 [.string ck, .string cy] (by rfl) (by rfl) (World.news_of_block (cs := #[.string ck, .string cy]) (t := 43) (fr := (0, 0)) (heap_alloc_new wr.drew _)) (by simp [Value.oneCell']) (by omega) (by unfold maxLen; omega) (by omega) (by simp; omega) (wr.heap.size + 1) (by simp) ?_; intro gg cap w6 hown6 hgrow6 hat6 hlt6)))
    all_goals
      have hN := Lib.hid (show w6.ownsRow (gs + 1) 43 2 (.slice (some ⟨gg, 0, none⟩) (k + 1) cap) (k + 1) ((l.take (k + 1)).map nmRow).flatten by rw [htk.out]; exact hown6)
      have hB6 := Lib.hid (show Below (gs + 1) w0 w6 from (hB3.out.alloc (by show gs + 1 ≤ wr.heap.size; omega) _).grown hgrow6 (by simp; omega) (fun j hj => (hown3.out.lt j hj).1))
      clear hown6 hgrow6 hat6 hlt6
      go_wp2
      go_roundw
      case rel => exact ⟨k + 1, _, _, by omega, by go_num, rfl, hN, hB6⟩
      case measure => simp [intOf]; omega

end Go.Proofs.YtamkmdlfhlbbeaaGreatDoor.subj

