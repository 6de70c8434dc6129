/- Events made of events: a row of the call's own beside the event that is being made. -/
import Derived.Test.YtnghpjijfdpmkaaDoorMetEv
import Derived.Test.YtnghpjijfdpmkaaDoorMetY
namespace Go.Proofs.YtnghpjijfdpmkaaDoor.metric
open Go.RowKit Go.Proofs.YtnghpjijfdpmkaaDoor Go.Proofs.YtnghpjijfdpmkaaDoor.text

/-- The events so far. -/
structure RwS (u0 : World) (L : List EV) (v : Value) (u : World) : Prop where
  row : u.ownsRow u0.heap.size 40 10 v L.length (flatE L)
  small : Small L
  below : Below u0.heap.size u0 u
theorem RwS.world {u0 u u' : World} {L : List EV} {v : Value} (h : RwS u0 L v u) (hb : Below u.heap.size u u') : RwS u0 L v u' :=
  ⟨h.row.kept (grown_of_below hb none) (by cases v.ownBlock <;> simp), h.small, h.below.trans (hb.mono h.below.size)⟩
theorem RwS.append {u0 u u' : World} {L : List EV} {v v' : Value} (h : RwS u0 L v u) {e : EV} (h1 : -1099511627776 ≤ e.value) (h2 : e.value ≤ 1099511627776) (ho : u'.ownsRow u0.heap.size 40 10 v' (L.length + 1) (flatE L ++ (evA e).toList)) (hg : u.grownBy u' v.ownBlock) : RwS u0 (L ++ [e]) v' u' := by
  refine ⟨?_, fun f hf => ?_, h.below.grown hg h.below.size (fun j hj => (h.row.lt j hj).1)⟩
  · have e1 : flatE (L ++ [e]) = flatE L ++ (evA e).toList := by unfold flatE; simp
    rw [e1, List.length_append]
    exact ho
  · rcases List.mem_append.1 hf with hf | hf
    · exact h.small f hf
    · rw [List.mem_singleton.1 hf]; exact ⟨h1, h2⟩
/-- The event that is being made, some event of a small value; and cells that are known. -/
structure RwX (u0 : World) (L : List EV) (v : Value) (eb : Nat) (C : List (Addr × Value)) (u : World) : Prop where
  s : RwS u0 L v u
  ev : ∃ e : EV, -1099511627776 ≤ e.value ∧ e.value ≤ 1099511627776 ∧ Own u eb (evA e) 40
  lo : u0.heap.size ≤ eb
  far : v.ownBlock ≠ some eb
  cell : ∀ p ∈ C, u.cell? p.1 = some p.2 ∧ p.1.block ≠ eb
theorem RwX.lt {u0 u : World} {L : List EV} {v : Value} {eb : Nat} {C : List (Addr × Value)} (h : RwX u0 L v eb C u) : eb < u.heap.size := by
  obtain ⟨e, -, -, hX⟩ := h.ev
  exact hX.lt
theorem RwX.new {u0 u : World} {L : List EV} {v : Value} (h : RwS u0 L v u) (e : EV) (h1 : -1099511627776 ≤ e.value) (h2 : e.value ≤ 1099511627776) : RwX u0 L v u.heap.size [] (u.alloc (.cells (evA e) 40)) :=
  ⟨h.world ((Below.refl _ _).alloc (Nat.le_refl _) _), ⟨e, h1, h2, Own.new u _ _⟩, h.below.size, fun e => by have := (h.row.lt _ e).2; omega, fun p hp => by cases hp⟩
theorem RwX.cons {u0 u : World} {L : List EV} {v : Value} {eb : Nat} {C : List (Addr × Value)} (h : RwX u0 L v eb C u) {p : Addr} {x : Value} (hp : u.cell? p = some x) (hb : p.block ≠ eb) : RwX u0 L v eb ((p, x) :: C) u :=
  ⟨h.s, h.ev, h.lo, h.far, fun q hq => by
    rcases List.mem_cons.1 hq with rfl | hq
    · exact ⟨hp, hb⟩
    · exact h.cell q hq⟩
theorem RwX.tail {u0 u : World} {L : List EV} {v : Value} {eb : Nat} {C : List (Addr × Value)} {p : Addr × Value} (h : RwX u0 L v eb (p :: C) u) : RwX u0 L v eb C u := ⟨h.s, h.ev, h.lo, h.far, fun q hq => h.cell q (List.mem_cons_of_mem _ hq)⟩
theorem RwX.world {u0 u u' : World} {L : List EV} {v : Value} {eb : Nat} {C : List (Addr × Value)} (h : RwX u0 L v eb C u) (hb : Below u.heap.size u u') : RwX u0 L v eb C u' := by
  obtain ⟨e, h1, h2, hX⟩ := h.ev
  exact ⟨h.s.world hb, ⟨e, h1, h2, hX.below hb hX.lt⟩, h.lo, h.far, fun p hp => ⟨sub_of_below hb _ _ (h.cell p hp).1, (h.cell p hp).2⟩⟩
theorem RwX.drew {u0 u : World} {L : List EV} {v : Value} {eb : Nat} {C : List (Addr × Value)} (h : RwX u0 L v eb C u) : RwX u0 L v eb C u.drew := h.world ⟨rfl, rfl, rfl, Nat.le_refl _, fun _ _ => rfl⟩
theorem RwX.keep {u0 u : World} {L : List EV} {v : Value} {eb : Nat} {C : List (Addr × Value)} (h : RwX u0 L v eb C u) {e : EV} {i : Nat} {x : Value} (h1 : -1099511627776 ≤ e.value) (h2 : e.value ≤ 1099511627776) (hX : Own (u.setCell ⟨eb, i, none⟩ x) eb (evA e) 40) : RwX u0 L v eb C (u.setCell ⟨eb, i, none⟩ x) := by
  have hg := grown_setS u eb i x
  exact ⟨⟨h.s.row.kept hg (Or.inr h.far), h.s.small, h.s.below.setCell (by exact h.lo) _⟩, ⟨e, h1, h2, hX⟩, h.lo, h.far, fun p hp => ⟨(World.cell?_setCell_far _ _ _ _ (fun e => (h.cell p hp).2 e.symm)).trans (h.cell p hp).1, (h.cell p hp).2⟩⟩
theorem RwX.put2 {u0 u : World} {L : List EV} {v : Value} {eb : Nat} {C : List (Addr × Value)} (h : RwX u0 L v eb C u) (x : Int) : RwX u0 L v eb C (u.setCell ⟨eb, 2, none⟩ (.int .i64 x)) := by
  obtain ⟨e, h1, h2, hX⟩ := h.ev
  exact h.keep (e := { e with kind := x }) h1 h2 (hX.set 2 (.int .i64 x))
theorem RwX.put5 {u0 u : World} {L : List EV} {v : Value} {eb : Nat} {C : List (Addr × Value)} (h : RwX u0 L v eb C u) (x : ByteArray) : RwX u0 L v eb C (u.setCell ⟨eb, 5, none⟩ (.string x)) := by
  obtain ⟨e, h1, h2, hX⟩ := h.ev
  exact h.keep (e := { e with name := x }) h1 h2 (hX.set 5 (.string x))
theorem RwX.open {u0 u : World} {L : List EV} {v : Value} {eb : Nat} {C : List (Addr × Value)} (h : RwX u0 L v eb C u) (i : Nat) (hi : i < 10) : (∃ x, u.cell? ⟨eb, i, none⟩ = some x) ∧ u.frozen? ⟨eb, i, none⟩ = false := by
  obtain ⟨e, -, -, hX⟩ := h.ev
  refine ⟨?_, hX.free i⟩
  rw [hX.cell i]
  exact ⟨(evA e)[i]'(by rw [evA_size]; exact hi), Array.getElem?_eq_getElem _⟩
theorem tmod_small (x : Int) : -1099511627776 ≤ x.tmod 1099511627777 ∧ x.tmod 1099511627777 ≤ 1099511627776 := by
  have h1 := Int.tmod_lt_of_pos x (show (0 : Int) < 1099511627777 by decide)
  have h2 := Int.lt_tmod_of_pos x (show (0 : Int) < 1099511627777 by decide)
  omega

end Go.Proofs.YtnghpjijfdpmkaaDoor.metric

