/- The copy of a row of events. -/
import Derived.Test.YtnghpjijfdpmkaaDoorMetW
namespace Go.Proofs.YtnghpjijfdpmkaaDoor.metric
open Go.RowKit Go.Proofs.YtnghpjijfdpmkaaDoor Go.Proofs.YtnghpjijfdpmkaaDoor.text

def dflt : EV := ⟨⟨#[]⟩, 0, 0, 0, ⟨#[]⟩, ⟨#[]⟩, ⟨#[]⟩, 0, 0, 0⟩
/-- The events as a function of their places. -/
def rowF (E : List EV) : Nat → EV := fun k => E.getD k dflt
def flatE (E : List EV) : List Value := E.flatMap fun e => (evA e).toList
theorem flatE_len (E : List EV) : (flatE E).length = E.length * 10 := by
  unfold flatE
  induction E with
  | nil => rfl
  | cons e r ih => rw [List.flatMap_cons, List.length_append, ih]; simp [evA]; omega
theorem flatE_at : ∀ (E : List EV) (k j : Nat) (e : EV), E[k]? = some e → j < 10 → (flatE E)[k * 10 + j]? = (evA e)[j]?
  | [], k, j, e, h, _ => by cases h
  | a :: r, 0, j, e, h, hj => by
    injection h with h
    subst h
    unfold flatE
    rw [List.flatMap_cons, Nat.zero_mul, Nat.zero_add, List.getElem?_append_left (by simpa [evA] using hj), Array.getElem?_toList]
  | a :: r, k + 1, j, e, h, hj => by
    have ih := flatE_at r k j e h hj
    unfold flatE at ih ⊢
    have hl : (evA a).toList.length = 10 := rfl
    rw [List.flatMap_cons, List.getElem?_append_right (by omega), hl, show (k + 1) * 10 + j - 10 = k * 10 + j by omega, ih]
theorem flatE_one (E : List EV) : ∀ v ∈ flatE E, v.oneCell' = true := by
  intro v hv
  unfold flatE at hv
  obtain ⟨e, -, hv⟩ := List.mem_flatMap.1 hv
  simp only [evA, List.mem_cons, List.not_mem_nil, or_false] at hv
  rcases hv with rfl | rfl | rfl | rfl | rfl | rfl | rfl | rfl | rfl | rfl <;> rfl
theorem infoEv : (Tryd.prog.info? 40).map (fun i => (i.zero, i.size, i.bytes)) = some (some (.agg zeroE.toArray), 10, 112) := by kernel_rfl
/-- What the copy gives: nil, or a row of the call's own. -/
def Cloned (E : List EV) (u : World) (r : Ending) (u' : World) : Prop :=
  Below u.heap.size u u' ∧ ((r = .returned (.slice none 0 0) ∧ E = []) ∨ ∃ g cap, r = .returned (.slice (some ⟨g, 0, none⟩) E.length cap) ∧ u.heap.size ≤ g ∧ OwnE u' g cap E.length (rowF E))
theorem cloned_of {u w2 : World} {E : List EV} {v : Value} (hown : w2.ownsRow u.heap.size 40 10 v E.length (flatE E)) (hb : Below u.heap.size u w2) : Cloned E u (.returned v) w2 := by
  refine ⟨hb, ?_⟩
  rcases hown.2 with ⟨h3, h4⟩ | ⟨g, cap, cur, h3, hg0, h4, h5, h6, h7, h8⟩
  · exact Or.inl ⟨by rw [h3], List.eq_nil_of_length_eq_zero h4⟩
  · have hO : Own w2 g cur 40 := h4
    unfold maxLen at h6
    refine Or.inr ⟨g, cap, by rw [h3], hg0, hO.lt, h5, h6, fun k hk j hj => ?_, fun i => hO.free i⟩
    have h9 := flatE_at E k j E[k] (List.getElem?_eq_getElem hk) hj
    have h10 : (cur.toList.take (E.length * 10))[k * 10 + j]? = (flatE E)[k * 10 + j]? := by rw [h8]
    rw [List.getElem?_take, if_pos (by omega)] at h10
    rw [hO.cell, ← Array.getElem?_toList, h10, h9]
    unfold rowF
    rw [List.getD_eq_getElem?_getD, List.getElem?_eq_getElem hk]
    rfl
set_option maxRecDepth 100000 in
set_option maxHeartbeats 4000000 in
theorem clone_any (a : Option Addr) (c : Nat) (E : List EV) (u : World) (hE : EvsAt u.cell? a E) (hn : E.length ≤ 100000) (ha : a = none → E = []) (hc : a = none → c = 0) : Calls Tryd.prog 48 #[.slice a E.length c] u (Cloned E u) := by
  cases a with
  | none =>
    obtain rfl := ha rfl
    obtain rfl := hc rfl
    have hnil : (Go.binOp .eql 38 (.slice none 0 0) (.slice none 0 0)).run Tryd.prog u = .ok (.bool true) u := Lib.run_eql_slice_nil (P := Tryd.prog) u 38 40 none 0 0 0 0 Tryd.underlying38
    go_enter Tryd.func48, Tryd.ntmps48
    go_wp2
    go_ret
    exact ⟨Below.refl _ _, Or.inl ⟨rfl, rfl⟩⟩
  | some ad =>
    obtain ⟨i0, hi, hz0, hz1, hz2⟩ := info_parts infoEv
    have hcells : ∀ j v, (flatE E)[j]? = some v → u.cell? (ad.add j) = some v := by
      intro j v hv
      rcases hE with rfl | ⟨blk, off, hb, hcell⟩
      · cases hv
      · injection hb with hb
        subst hb
        have hj : j < E.length * 10 := by rw [← flatE_len]; exact (List.getElem?_eq_some_iff.1 hv).1
        have hk : j / 10 < E.length := by omega
        have h1 := flatE_at E (j / 10) (j % 10) E[j / 10] (List.getElem?_eq_getElem hk) (Nat.mod_lt _ (by omega))
        have h2 := hcell (j / 10) E[j / 10] (List.getElem?_eq_getElem hk) (j % 10) (Nat.mod_lt _ (by omega))
        rw [show j / 10 * 10 + j % 10 = j by omega, hv] at h1
        rw [show off + j / 10 * 10 + j % 10 = off + j by omega, ← h1] at h2
        have e : (⟨blk, off, none⟩ : Addr).add j = ⟨blk, off + j, none⟩ := by unfold Addr.add; split <;> simp_all
        rw [e]
        exact h2
    have hcells2 := Lib.hid (fun j v hv => Lib.cell?_alloc_some (.cells #[] 40) (hcells j v hv))
    have hl := Lib.hid (flatE_len E)
    have hone := Lib.hid (flatE_one E)
    have hown0 := Lib.hid (World.ownsRow_lit (base := u.heap.size) (e := 40) (size := 10) u #[] 0 (Nat.le_refl _) (by decide) rfl)
    have hnil : (Go.binOp .eql 38 (.slice (some ad) E.length c) (.slice none 0 0)).run Tryd.prog u = .ok (.bool false) u := Lib.run_eql_slice_nil (P := Tryd.prog) u 38 40 (some ad) E.length c 0 0 Tryd.underlying38
    clear hE hcells ha hc
    go_enter Tryd.func48, Tryd.ntmps48
    go_wp2_with (at_builtin; refine wpList_append_own _ rfl _ _ 38 rfl u.heap.size 40 i0 (.agg zeroE.toArray) 10 112 Tryd.underlying38 hi hz0 hz1 hz2 rfl ?g8 _ 0 [] rfl hown0.out ad E.length c (flatE E) rfl hl.out hcells2.out hone.out ?h63 ?hb ?hbase ?_)
    case h63 => unfold maxLen; omega
    case hb => omega
    intro v1 w2 hown hgrow hnil2
    clear hnil2
    have hO := Lib.hid hown
    have hB := Lib.hid (((Below.refl u.heap.size u).alloc (Nat.le_refl _) (.cells #[] 40)).grown hgrow (by simp) (fun j hj => by cases hj; exact Nat.le_refl _))
    clear hown hgrow hown0 hcells2
    go_wp2
    go_ret
    exact cloned_of hO.out hB.out

end Go.Proofs.YtnghpjijfdpmkaaDoor.metric

