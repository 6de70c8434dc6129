/- The program's With. Attributes of the call's own, appended to; what the reference's With holds while it goes over the contexts. What SubjectWith's walk holds. -/
import Derived.Test.YtkglejfkfeahcaaGreatDoorKJ20
import Derived.Test.YtkglejfkfeahcaaGreatDoorKSuWb
import Derived.Test.YtkglejfkfeahcaaGreatDoorKSuWi
import Derived.Test.YtkglejfkfeahcaaGreatDoorKSuE
import Derived.Test.YtkglejfkfeahcaaGreatDoorKClL
import Derived.Deep.RegionHeld
import Derived.Laws.IdiomCopy
import Derived.Test.YtkglejfkfeahcaaGreatDoorKSuX
import Derived.Deep.AppendLies
import Derived.Test.YtkglejfkfeahcaaGreatDoorKJ16
namespace Go.Proofs.YtkglejfkfeahcaaGreatDoor.subj
open Go.RowKit Go.Proofs.YtkglejfkfeahcaaGreatDoor Go.Proofs.YtkglejfkfeahcaaGreatDoor.schema Go.Proofs.YtkglejfkfeahcaaGreatDoor.value Go.Proofs.YtkglejfkfeahcaaGreatDoor.text Go.Proofs.YtkglejfkfeahcaaGreatDoor.clause Go.Proofs.YtkglejfkfeahcaaGreatDoor.draw

/-- What With gives. -/
def WithIs (l : List CT) (kind name : ByteArray) (v : VD) (e : Ending) (w : World) : Prop :=
  ∃ (a : Option Addr) (n c : Nat) (l' : List CT), e = .returned (.tuple #[.agg #[.slice a n c], .int .i64 (withS l kind name v).2]) ∧ Alike SameC l' (withS l kind name v).1 ∧ SAt w.cell? (.slice a n c) l'
theorem with_err {l : List CT} {kind name : ByteArray} {v : VD} {w : World} {x : Int} (h : withS l kind name v = ([], x)) : WithIs l kind name v (.returned (.tuple #[.agg #[.slice none 0 0], .int .i64 x])) w := by
  refine ⟨none, 0, 0, [], by rw [h], by rw [h]; exact ⟨rfl, fun i h1 => by simp at h1⟩, ⟨rows_nil _ _, fun c hc => (List.not_mem_nil hc).elim⟩⟩
theorem withS_check {l : List CT} {kind name : ByteArray} {v : VD} (h : subS l ≠ 0) : withS l kind name v = ([], subS l) := by unfold withS; rw [if_pos h]
theorem withS_none {l : List CT} {kind name : ByteArray} {v : VD} (h : subS l = 0) (h1 : findS kind.toList l = none) : withS l kind name v = ([], 11) := by unfold withS; rw [if_neg (by rw [h]; decide), h1]
theorem withS_key {l : List CT} {kind name : ByteArray} {v : VD} {c : CT} (h : subS l = 0) (h1 : findS kind.toList l = some c) (h2 : keyS name.data.toList = false ∨ (name.data.toList == [107, 101, 121]) = true) : withS l kind name v = ([], 6) := by unfold withS; rw [if_neg (by rw [h]; decide), h1]; exact if_pos h2
theorem withS_val {l : List CT} {kind name : ByteArray} {v : VD} {c : CT} (h : subS l = 0) (h1 : findS kind.toList l = some c) (h2 : ¬ (keyS name.data.toList = false ∨ (name.data.toList == [107, 101, 121]) = true)) (h3 : checkS (vv v) ≠ 0) : withS l kind name v = ([], checkS (vv v)) := by unfold withS; rw [if_neg (by rw [h]; decide), h1]; simp only []; rw [if_neg h2, if_pos h3]
theorem withS_many {l : List CT} {kind name : ByteArray} {v : VD} {c : CT} (h : subS l = 0) (h1 : findS kind.toList l = some c) (h2 : ¬ (keyS name.data.toList = false ∨ (name.data.toList == [107, 101, 121]) = true)) (h3 : checkS (vv v) = 0) (h4 : 20 < (insA ⟨name, v⟩ c.attrs).length) : withS l kind name v = ([], 5) := by unfold withS; rw [if_neg (by rw [h]; decide), h1]; simp only []; rw [if_neg h2, if_neg (by rw [h3]; decide), if_pos h4]
theorem withS_good {l : List CT} {kind name : ByteArray} {v : VD} {c : CT} (h : subS l = 0) (h1 : findS kind.toList l = some c) (h2 : ¬ (keyS name.data.toList = false ∨ (name.data.toList == [107, 101, 121]) = true)) (h3 : checkS (vv v) = 0) (h4 : ¬ 20 < (insA ⟨name, v⟩ c.attrs).length) : withS l kind name v = (putC kind.toList ⟨name, v⟩ l, 0) := by unfold withS; rw [if_neg (by rw [h]; decide), h1]; simp only []; rw [if_neg h2, if_neg (by rw [h3]; decide), if_neg h4]

/-- The boxes of With. -/
structure WX (w wr : World) (pa : Option Addr) (n c : Nat) (v : VD) : Prop where
  low : Below w.heap.size w wr
  s : Own wr w.heap.size #[.slice pa n c] 25
  v : Own wr (w.heap.size + 1) #[.int .i64 v.kind, .int .i64 v.num, .string v.text, .slice v.ptr v.len v.cap] 52
  z : Own wr (w.heap.size + 1 + 1) #[.slice none 0 0] 25
theorem WX.call {w wr u : World} {pa : Option Addr} {n c : Nat} {v : VD} (h : WX w wr pa n c v) (hb : Below wr.heap.size wr u) : WX w u pa n c v :=
  ⟨h.low.trans (hb.mono h.low.size), h.s.below hb h.s.lt, h.v.below hb h.v.lt, h.z.below hb h.z.lt⟩
theorem WX.start (w : World) (pa : Option Addr) (n c : Nat) (v : VD) : WX w (((w.alloc (.cells #[.slice pa n c] 25)).alloc (.cells #[.int .i64 v.kind, .int .i64 v.num, .string v.text, .slice v.ptr v.len v.cap] 52)).alloc (.cells #[.slice none 0 0] 25)) pa n c v :=
  ⟨(((Below.refl _ _).alloc (Nat.le_refl _) _).alloc (by simp) _).alloc (by simp; omega) _, ((Own.new _ _ _).alloc _).alloc _, (Own.new' (by simp)).alloc _, Own.new' (by simp)⟩
theorem WX.res {w wr : World} {pa : Option Addr} {n c : Nat} {v : VD} (h : WX w wr pa n c v) (x : Value) : (wr.setCell ⟨w.heap.size + 1 + 1, 0, none⟩ x).cell? ⟨w.heap.size + 1 + 1, 0, none⟩ = some x := by
  have := (h.z.set 0 x).cell 0
  simpa using this
theorem WX.low' {w wr : World} {pa : Option Addr} {n c : Nat} {v : VD} (h : WX w wr pa n c v) : w.heap.size + 1 + 1 < wr.heap.size := h.z.lt

/-- The boxes and the copy of With. -/
structure WY (w wr : World) (pa : Option Addr) (n c : Nat) (v : VD) (G B g k : Nat) (l' : List CT) : Prop where
  x : WX w wr pa n c v
  o : Own wr G #[.slice (some ⟨B, 0, none⟩) l'.length l'.length] 25
  row : wr.ownsRow B 41 3 (.slice (some ⟨B, 0, none⟩) l'.length l'.length) l'.length (l'.map CT.row).flatten
  par : Parted wr B g k l'
  low : w.heap.size + 1 + 1 < B
  lt : B < g ∧ g < G
theorem WY.call {w wr u : World} {pa : Option Addr} {n c : Nat} {v : VD} {G B g k : Nat} {l' : List CT} (h : WY w wr pa n c v G B g k l') (hb : Below wr.heap.size wr u) : WY w u pa n c v G B g k l' :=
  ⟨h.x.call hb, h.o.below hb h.o.lt, h.row.kept (grown_of_below hb none) (Or.inr (by intro e; cases e)), h.par.grown (grown_of_below hb none) (fun x hx => by cases hx), h.low, h.lt⟩
theorem WY.ctx {w wr : World} {pa : Option Addr} {n c : Nat} {v : VD} {G B g k : Nat} {l' : List CT} (h : WY w wr pa n c v G B g k l') {kd ky : ByteArray} {m m' : Nat} {pp : Option Addr} {at' : List AD} (hk : l'[k]? = some ⟨kd, ky, pp, m, m', at'⟩) :
    wr.cell? ⟨B, k * 3 + 2, none⟩ = some (.slice (some ⟨g, 0, none⟩) at'.length at'.length) ∧ RowsAt wr.cell? 5 (.slice (some ⟨g, 0, none⟩) at'.length at'.length) (at'.map AD.row) ∧ wr.frozen? ⟨B, k * 3 + 2, none⟩ = false := by
  have hkl : k < l'.length := (List.getElem?_eq_some_iff.1 hk).1
  have hke : l'[k] = ⟨kd, ky, pp, m, m', at'⟩ := (List.getElem?_eq_some_iff.1 hk).2
  have hR := rows_of_owns h.row (l'.map CT.row) (by simp) (by intro r hr; obtain ⟨d, -, rfl⟩ := List.mem_map.1 hr; rfl) rfl
  obtain ⟨blk, off, e, -, -, -, -, c2⟩ := ct_at hR hkl
  injection e with e
  injection e with e1 e2
  subst e1
  subst e2
  rw [hke] at c2
  have ho := (h.par.kth _ hk).2
  have e1 := ho.ptr
  have e2 := ho.len
  have e3 := ho.cap
  simp only at e1 e2 e3 c2
  subst e1; subst e2; subst e3
  rw [Nat.zero_add] at c2
  refine ⟨c2, rows_of_owns ho.own (at'.map AD.row) (by simp) (by intro r hr; obtain ⟨d, -, rfl⟩ := List.mem_map.1 hr; rfl) rfl, ?_⟩
  obtain ⟨-, h2⟩ := h.row
  rcases h2 with ⟨h2, -⟩ | ⟨g', cap', cur, h3, -, h4, -⟩
  · cases h2
  · injection h3 with h3
    injection h3 with h3
    injection h3 with h3
    subst h3
    simp [World.frozen?, h4]
theorem OwnC.free {w : World} {g : Nat} {c : CT} (h : OwnC w g c) (q : Nat) : w.frozen? ⟨g, q, none⟩ = false := by
  rcases h.own.2 with ⟨h2, -⟩ | ⟨g', cap', cur, h3, -, h4, -⟩
  · cases h2
  · injection h3 with h3
    injection h3 with h3
    injection h3 with h3
    subst h3
    simp [World.frozen?, h4]
theorem asc_alike {l' l : List AD} (h : Alike SameA l' l) (ha : Asc l) : Asc l' := by
  refine List.pairwise_iff_getElem.2 fun i j hi hj hij => ?_
  rw [(h.2 i hi (by rw [← h.1]; exact hi)).1, (h.2 j hj (by rw [← h.1]; exact hj)).1]
  exact ha.at hij _

theorem newG_in (B b : Nat) (g : Option Nat) (w : World) : Sub (newG B b g w) w.cell? := by
  intro p v h
  unfold newG at h
  split at h
  · cases h
  · exact h
theorem newM_keep {B b : Nat} {r : Option Nat} {w u : World} (gr : w.grownBy u r) (hr : ∀ x, r = some x → x < B) : Sub (newM B b w) (newM B b u) := by
  intro p v h
  unfold newM at *
  split at h
  · cases h
  · rename_i hne
    rw [if_neg hne]
    exact gr.cell h (fun e => hne (Or.inl (hr _ e.symm)))
theorem newM_in' (B b : Nat) (w : World) : Sub (newM B b w) w.cell? := by
  intro p v h
  unfold newM at h
  split at h
  · cases h
  · exact h
theorem grown_set {w u : World} {g : Nat} (h : w.grownBy u (some g)) (o : Nat) (v : Value) : w.grownBy (u.setCell ⟨g, o, none⟩ v) (some g) :=
  ⟨h.os, h.tape, h.output, by simpa using h.size, fun k hk hne => by rw [Below.heap_setCell _ _ _ k (fun e => hne (by rw [e]))]; exact h.block k hk hne⟩
theorem insA_len_alike {name : ByteArray} {v : VD} {at' l : List AD} (h : Alike SameA at' l) (hf : hasAt name.data.toList at' (posA name.data.toList at') = false) : (insA ⟨name, v⟩ l).length = at'.length + 1 := by
  have h1 : hasAt name.data.toList l (posA name.data.toList l) = false := by rw [← posA_alike h, ← hasAt_alike h]; exact hf
  have := insA_len ⟨name, v⟩ l
  simp only [h1] at this
  rw [this, h.1]
  simp
/-- Five cells are set. -/
theorem set5 {w : World} {g o : Nat} {x0 x1 x2 x3 x4 y0 y1 y2 y3 y4 : Value} (h0 : w.cell? ⟨g, o, none⟩ = some y0) (h1 : w.cell? ⟨g, o + 1, none⟩ = some y1) (h2 : w.cell? ⟨g, o + 2, none⟩ = some y2) (h3 : w.cell? ⟨g, o + 3, none⟩ = some y3) (h4 : w.cell? ⟨g, o + 4, none⟩ = some y4) :
    ∃ u, u = ((((w.setCell ⟨g, o, none⟩ x0).setCell ⟨g, o + 1, none⟩ x1).setCell ⟨g, o + 2, none⟩ x2).setCell ⟨g, o + 3, none⟩ x3).setCell ⟨g, o + 4, none⟩ x4 ∧ (∀ j x, [x0, x1, x2, x3, x4][j]? = some x → u.cell? ⟨g, o + j, none⟩ = some x) ∧ (∀ q, q < o ∨ o + 5 ≤ q → u.cell? ⟨g, q, none⟩ = w.cell? ⟨g, q, none⟩) ∧ w.grownBy u (some g) := by
  refine ⟨w.setCells g o [x0, x1, x2, x3, x4], rfl, fun j x hj => ?_, fun q hq => ?_, ?_⟩
  · have hjl : j < [x0, x1, x2, x3, x4].length := (List.getElem?_eq_some_iff.1 hj).1
    have := World.cell?_setCells_in g [x0, x1, x2, x3, x4] o w (fun i hi => by
      have hi5 : i < 5 := hi
      rcases (show i = 0 ∨ i = 1 ∨ i = 2 ∨ i = 3 ∨ i = 4 by omega) with rfl | rfl | rfl | rfl | rfl
      · rw [Nat.add_zero, h0]; rfl
      · rw [h1]; rfl
      · rw [h2]; rfl
      · rw [h3]; rfl
      · rw [h4]; rfl) j hjl
    rw [this, ← List.getElem?_eq_getElem hjl]
    exact hj
  · exact World.cell?_setCells_out g _ o w _ (fun _ _ => hq)
  · exact grown_set (grown_set (grown_set (grown_set (grown_set ⟨rfl, rfl, rfl, Nat.le_refl _, fun _ _ _ => rfl⟩ _ _) _ _) _ _) _ _) _ _
theorem map_set_same {α β : Type} (f : α → β) {l : List α} {k : Nat} {x y : α} (h : l[k]? = some y) (he : f x = f y) : (l.set k x).map f = l.map f := by
  apply List.ext_getElem?
  intro i
  rw [List.getElem?_map, List.getElem?_map, List.getElem?_set]
  split
  · rename_i e
    subst e
    have hk := (List.getElem?_eq_some_iff.1 h).1
    rw [if_pos hk, h]
    simp [he]
  · rfl
/-- An attribute set in place. -/
theorem WY.place {w wr W : World} {pa : Option Addr} {n c : Nat} {v v' : VD} {G B g k p E : Nat} {l' : List CT} (h : WY w wr pa n c v G B g k l') {kd ky name : ByteArray} {m m' : Nat} {pp : Option Addr} {at' : List AD} (hk : l'[k]? = some ⟨kd, ky, pp, m, m', at'⟩)
    (hin : ∀ j x, (AD.row ⟨name, v'⟩)[j]? = some x → W.cell? ⟨g, p * 5 + j, none⟩ = some x) (hout : ∀ q, q < p * 5 ∨ p * 5 + 5 ≤ q → W.cell? ⟨g, q, none⟩ = wr.cell? ⟨g, q, none⟩) (hgr : wr.grownBy W (some g)) (hE : g < E) (hv : LAt (newM E 0 wr) v') (x : Value) :
    SAt (W.setCell ⟨w.heap.size + 1 + 1, 0, none⟩ x).cell? (.slice (some ⟨B, 0, none⟩) l'.length l'.length) (l'.set k ⟨kd, ky, pp, m, m', at'.set p ⟨name, v'⟩⟩) ∧ Below w.heap.size w (W.setCell ⟨w.heap.size + 1 + 1, 0, none⟩ x) := by
  have hlow := h.low
  have hlt := h.lt
  have hg0 := (h.par.kth _ hk).2
  have hz := grown_setCell W (w.heap.size + 1 + 1) 0 x
  have hcx := (h.ctx hk).2.1
  have e1 := hg0.ptr
  have e2 := hg0.len
  have e3 := hg0.cap
  simp only at e1 e2 e3
  refine ⟨⟨?_, fun d hd => ?_⟩, ?_⟩
  · rw [map_set_same CT.row (x := ⟨kd, ky, pp, m, m', at'.set p ⟨name, v'⟩⟩) hk rfl]
    have := rows_of_owns ((h.row.kept hgr (Or.inr (fun e => by have e' : B = g := Option.some.inj e; omega))).kept hz (Or.inr (fun e => by have e' : B = w.heap.size + 1 + 1 := Option.some.inj e; omega))) (l'.map CT.row) (by simp) (by intro r hr; obtain ⟨d, -, rfl⟩ := List.mem_map.1 hr; rfl) rfl
    exact this
  · obtain ⟨i, hi⟩ := List.getElem?_of_mem hd
    rw [List.getElem?_set] at hi
    split at hi
    · split at hi
      · injection hi with hi
        subst hi
        subst e1; subst e2; subst e3
        refine ⟨rows_put hcx (fun j y hj => ?_) (fun q hq => ?_), fun a ha => ?_, hg0.key⟩
        · rw [World.cell?_setCell_far _ _ _ _ (by simp; omega)]
          exact hin j y hj
        · rw [World.cell?_setCell_far _ _ _ _ (by simp; omega)]
          exact hout q hq
        · rcases List.mem_or_eq_of_mem_set ha with ha | rfl
          · exact (((hg0.lats a ha).mono (newG_app hgr (Or.inl rfl))).mono (newG_set (by simp; omega) x)).mono (newG_in _ _ _ _)
          · exact ((hv.mono (newM_keep hgr (fun y hy => by injection hy with hy; omega))).mono (newM_set (by simp; omega) x)).mono (newM_in' _ _ _)
      · cases hi
    · rename_i hne
      exact (((h.par.others i d hi (fun e => hne e.symm)).mono (newG_grown hgr)).mono (newG_set (by simp; omega) x)).mono (newG_in _ _ _ _)
  · exact (h.x.low.grown hgr h.x.low.size (fun j hj => by injection hj with hj; omega)).setCell (by simp; omega) x

theorem owns_slice {w : World} {b : Nat} {e : TypeId} {z : Nat} {v : Value} {n : Nat} {xs : List Value} (h : w.ownsRow b e z v n xs) : ∃ (a : Option Addr) (m c : Nat), v = .slice a m c := by
  rcases h.2 with ⟨h1, -⟩ | ⟨q1, q2, q3, h1, -⟩
  · exact ⟨_, _, _, h1⟩
  · exact ⟨_, _, _, h1⟩
/-- A list of attributes anew. -/
theorem WY.fresh {w wr : World} {pa : Option Addr} {n c : Nat} {v v' : VD} {G B g k E E2 : Nat} {l' : List CT} (h : WY w wr pa n c v G B g k l') {kd ky : ByteArray} {m m' : Nat} {pp : Option Addr} {at' L : List AD} (hk : l'[k]? = some ⟨kd, ky, pp, m, m', at'⟩) {vv : Value}
    (own : wr.ownsRow E 55 5 vv L.length (L.map AD.row).flatten) (hE : B < E) (hL : ∀ a ∈ L, a ∈ at' ∨ a.val = v') (hE2 : B < E2) (hv : LAt (newM E2 0 wr) v') (x : Value) :
    ∃ (pp2 : Option Addr) (n2 c2 : Nat), SAt ((wr.setCell ⟨B, k * 3 + 2, none⟩ vv).setCell ⟨w.heap.size + 1 + 1, 0, none⟩ x).cell? (.slice (some ⟨B, 0, none⟩) l'.length l'.length) (l'.set k ⟨kd, ky, pp2, n2, c2, L⟩) ∧ Below w.heap.size w ((wr.setCell ⟨B, k * 3 + 2, none⟩ vv).setCell ⟨w.heap.size + 1 + 1, 0, none⟩ x) := by
  have hlow := h.low
  have hlt := h.lt
  have hg0 := (h.par.kth _ hk).2
  have hB1 := grown_setCell wr B (k * 3 + 2) vv
  have hz := grown_setCell (wr.setCell ⟨B, k * 3 + 2, none⟩ vv) (w.heap.size + 1 + 1) 0 x
  have hkl : k < l'.length := (List.getElem?_eq_some_iff.1 hk).1
  have hke : l'[k] = ⟨kd, ky, pp, m, m', at'⟩ := (List.getElem?_eq_some_iff.1 hk).2
  have hR := rows_of_owns h.row (l'.map CT.row) (by simp) (by intro r hr; obtain ⟨d, -, rfl⟩ := List.mem_map.1 hr; rfl) rfl
  have hc2 := (h.ctx hk).1
  obtain ⟨blk, off, e, -, -, c0, c1, -⟩ := ct_at hR hkl
  injection e with e
  injection e with e1 e2
  subst e1
  subst e2
  rw [hke] at c0 c1
  simp only [Nat.zero_add] at c0 c1
  have hrl := rows_of_owns_new (B := E) (b := 0) own (Nat.le_refl _) (by omega) (L.map AD.row) (by simp) (by intro r hr; obtain ⟨d, -, rfl⟩ := List.mem_map.1 hr; rfl) rfl
  have hrl' := (((hrl.mono (newM_keep hB1 (fun y hy => by injection hy with hy; omega))).mono (newM_set (q := ⟨w.heap.size + 1 + 1, 0, none⟩) (by simp; omega) x)).mono (newM_in' _ _ _))
  obtain ⟨pp2, n2, c2, rfl⟩ : ∃ (pp2 : Option Addr) (n2 c2 : Nat), vv = .slice pp2 n2 c2 := by
    rcases own.2 with ⟨h1, -⟩ | ⟨q1, q2, q3, h1, -⟩
    · exact ⟨_, _, _, h1⟩
    · exact ⟨_, _, _, h1⟩
  have hne : ∀ {a b : Nat}, a ≠ b → (⟨B, a, none⟩ : Addr) ≠ ⟨B, b, none⟩ := fun h e => h (by injection e)
  refine ⟨pp2, n2, c2, ⟨?_, fun d hd => ?_⟩, ?_⟩
  · refine rows_put3 hR (fun j y hj => ?_) (fun q hq => ?_)
    · rw [World.cell?_setCell_far _ _ _ _ (by simp; omega)]
      match j, hj with
      | 0, hj => injection hj with hj; subst hj; rw [World.cell?_setCell_other _ _ _ _ (hne (by omega))]; exact c0
      | 1, hj => injection hj with hj; subst hj; rw [World.cell?_setCell_other _ _ _ _ (hne (by omega))]; exact c1
      | 2, hj => injection hj with hj; subst hj; exact World.cell?_setCell_same _ _ _ hc2
    · rw [World.cell?_setCell_far _ _ _ _ (by simp; omega), World.cell?_setCell_other _ _ _ _ (hne (by omega))]
  · obtain ⟨i, hi⟩ := List.getElem?_of_mem hd
    rw [List.getElem?_set] at hi
    split at hi
    · injection hi with hi
      subst hi
      refine ⟨hrl', fun a ha => ?_, hg0.key⟩
      rcases hL a ha with ha | ha
      · exact (((hg0.lats a ha).mono (newG_keep hB1 (fun y hy => by injection hy with hy; omega))).mono (newG_set (by simp; omega) x)).mono (newG_in _ _ _ _)
      · rw [show a.val = v' from ha]
        exact ((hv.mono (newM_keep hB1 (fun y hy => by injection hy with hy; omega))).mono (newM_set (by simp; omega) x)).mono (newM_in' _ _ _)
    · rename_i hne
      exact (((h.par.others i d hi (fun e => hne e.symm)).mono (newG_keep hB1 (fun y hy => by injection hy with hy; exact Or.inr (by rw [hy])))).mono (newG_set (by simp; omega) x)).mono (newG_in _ _ _ _)
  · exact (h.x.low.setCell (by simp; omega) _).setCell (by simp; omega) x

end Go.Proofs.YtkglejfkfeahcaaGreatDoor.subj

namespace Go.Proofs.YtkglejfkfeahcaaGreatDoor.subj
open Go.RowKit Go.Deep Go.Proofs.YtkglejfkfeahcaaGreatDoor Go.Proofs.YtkglejfkfeahcaaGreatDoor.schema Go.Proofs.YtkglejfkfeahcaaGreatDoor.value Go.Proofs.YtkglejfkfeahcaaGreatDoor.text Go.Proofs.YtkglejfkfeahcaaGreatDoor.clause Go.Proofs.YtkglejfkfeahcaaGreatDoor.draw

/-- Attributes in a row of the call's own. -/
def AS (B : Nat) (v : Value) (L : List AD) (w : World) : Prop := w.ownsRow B 55 5 v L.length (L.map AD.row).flatten
theorem AS.out {B : Nat} {v : Value} {L : List AD} {w : World} (h : AS B v L w) : w.ownsRow B 55 5 v L.length (L.map AD.row).flatten := h
theorem as_nil (B : Nat) (w : World) : AS B (.slice none 0 0) [] w := World.ownsRow_nil w B _ _
theorem AS.kept {B : Nat} {v : Value} {L : List AD} {w u : World} {r : Option Nat} (h : AS B v L w) (g : w.grownBy u r) (hr : ∀ x, r = some x → x < B) : AS B v L u := by
  have ho := h.out
  refine ho.kept g ?_
  cases hv : v.ownBlock with
  | none => exact Or.inl rfl
  | some k => exact Or.inr (fun e => by have := (ho.lt k hv).1; have := hr k e.symm; omega)
theorem AS.below {B : Nat} {v : Value} {L : List AD} {w u : World} (h : AS B v L w) (hb : Below w.heap.size w u) : AS B v L u := h.kept (grown_of_below hb none) (fun x e => by cases e)
theorem AS.rows {B : Nat} {v : Value} {L : List AD} {w : World} (h : AS B v L w) : RowsAt w.cell? 5 v (L.map AD.row) := rows_of_owns h.out (L.map AD.row) (by simp) (rows5a L) rfl
theorem as_form {B : Nat} {v : Value} {L : List AD} {w : World} (h : AS B v L w) : ∃ a c, v = .slice a L.length c := by
  obtain ⟨a, c, h1, -⟩ := h.rows
  rw [List.length_map] at h1
  exact ⟨a, c, h1⟩
theorem AS.below_own {B : Nat} {v : Value} {L : List AD} {w u : World} (h : AS B v L w) (hB : B ≤ w.heap.size) (g : w.grownBy u v.ownBlock) : Below B w u :=
  (Below.refl B w).grown g hB (fun k hk => (h.out.lt k hk).1)
/-- One attribute, written out. -/
theorem row_lit {w : World} {g : Nat} {d : AD} (h : Own w g #[.string d.name, .int .i64 d.val.kind, .int .i64 d.val.num, .string d.val.text, .slice d.val.ptr d.val.len d.val.cap] 55) : RowsAt w.cell? 5 (.slice (some ⟨g, 0, none⟩) 1 1) ([d].map AD.row) := by
  refine ⟨_, 1, rfl, by simp, by decide, Or.inr ⟨g, 0, rfl, fun i r hr j x hx => ?_⟩⟩
  match i, hr with
  | 0, hr =>
    injection hr with hr
    subst hr
    rw [Nat.zero_mul, Nat.add_zero, Nat.zero_add, ← hx]
    exact (h.cell j).trans (by simp [AD.row, VD.row])
  | i + 1, hr => simp at hr
/-- Rows cut off at a place. -/
theorem rows_take {m : Mem} {sz : Nat} {a : Option Addr} {n c k : Nat} {rows : List (List Value)} (h : RowsAt m sz (.slice a n c) rows) (hk : k ≤ rows.length) : RowsAt m sz (.slice a k c) (rows.take k) := by
  obtain ⟨a0, c0, e, h2, h3, h4⟩ := h
  injection e with e1 e2 e3
  subst e1; subst e3
  refine ⟨a, c, by rw [List.length_take, Nat.min_eq_left hk], by rw [List.length_take]; omega, h3, ?_⟩
  rcases h4 with rfl | ⟨blk, off, rfl, h5⟩
  · exact Or.inl (by simp)
  · refine Or.inr ⟨blk, off, rfl, fun i r hr j x hx => h5 i r ?_ j x hx⟩
    rw [List.getElem?_take] at hr
    split at hr
    · exact hr
    · cases hr
/-- Rows from a place on. -/
theorem rows_drop {m : Mem} {sz : Nat} {blk off n c k : Nat} {rows : List (List Value)} (h : RowsAt m sz (.slice (some ⟨blk, off, none⟩) n c) rows) (hk : k ≤ rows.length) : RowsAt m sz (.slice (some ⟨blk, off + k * sz, none⟩) (n - k) (c - k)) (rows.drop k) := by
  obtain ⟨a0, c0, e, h2, h3, h4⟩ := h
  injection e with e1 e2 e3
  subst e1; subst e3; subst e2
  refine ⟨_, c - k, by rw [List.length_drop], by rw [List.length_drop]; omega, by omega, ?_⟩
  rcases h4 with rfl | ⟨b2, o2, e, h5⟩
  · exact Or.inl (by simp)
  · injection e with e
    injection e with e1 e2
    subst e1; subst e2
    refine Or.inr ⟨blk, off + k * sz, rfl, fun i r hr j x hx => ?_⟩
    rw [List.getElem?_drop] at hr
    have := h5 (k + i) r hr j x hx
    rw [show off + k * sz + i * sz + j = off + (k + i) * sz + j by rw [Nat.add_mul]; omega]
    exact this
theorem rows_end {m : Mem} {sz : Nat} {b : Option Addr} {c' k : Nat} {rows : List (List Value)} (hk : k = rows.length) (hc : c' ≤ maxLen) : RowsAt m sz (.slice b 0 c') (rows.drop k) := by
  refine ⟨b, c', by rw [hk]; simp, by rw [hk]; simp, hc, Or.inl (by rw [hk]; simp)⟩

/-- 'append(l, m...)' of attributes that lie somewhere, be they none, at a step of a region that draws its order. -/
theorem step_append_attrs {ops : Array Oper} {o : Oper} {a : Act} {K : Act → World → Prop} {Q : Exit → Act → World → Prop} {E : Prop} {w : World} (hgd : o.guard = none) (s x : Operand)
    (ho : o.op = .call { callee := .builtin .append, args := #[s, x], argTypes := #[39, 39] })
    (B : Nat) (va : Option Addr) (n vc : Nat) (L : List AD) (hs : a.eval s = .slice va n vc) (hown : AS B (.slice va n vc) L w) (hn : n = L.length)
    (sa : Option Addr) (m c : Nat) (L2 : List AD) (hx : a.eval x = .slice sa m c) (hR : RowsAt w.cell? 5 (.slice sa m c) (L2.map AD.row))
    (hl : n + m ≤ 1099511627776) (hB : B ≤ w.heap.size)
    (h : ∀ va' vc' w', AS B (.slice va' (n + m) vc') (L ++ L2) w' → n + m = (L ++ L2).length → Below B w w' → w.grownBy w' (Value.slice va n vc).ownBlock → K (a.put o.dst (.slice va' (n + m) vc')) w') :
    if Region.wanted o (yielded ops a.tmps) = true then Oper.wp Tryz.prog o a w K Q else E := by
  have hw : Region.wanted o (yielded ops a.tmps) = true := by simp [Region.wanted, hgd]
  rw [if_pos hw]
  subst hn
  have hm := (rows_len hR).1
  rw [List.length_map] at hm
  subst hm
  obtain ⟨i0, hi, hz0, hz1, hz2⟩ := info_parts info5
  refine wp_append_rows s x _ ho B 55 i0 (.agg #[.string ⟨#[]⟩, .int .i64 0, .int .i64 0, .string ⟨#[]⟩, .slice none 0 0]) 5 72 Tryz.underlying39 hi hz0 hz1 hz2 rfl (by decide) (.slice va L.length vc) L.length (L.map AD.row).flatten hs hown.out sa L2.length c (L2.map AD.row) w.cell? hx hR (fun _ _ e => e) (rows5a L2) (flat5a L2) (by unfold maxLen; omega) (by omega) hB ?_
  intro v' w' h2 h3
  have e1 : (L.map AD.row).flatten ++ (L2.map AD.row).flatten = ((L ++ L2).map AD.row).flatten := by rw [List.map_append, List.flatten_append]
  have e2 : L.length + L2.length = (L ++ L2).length := by simp
  rw [e1] at h2
  have hbs : AS B v' (L ++ L2) w' := by
    show w'.ownsRow B _ 5 _ (L ++ L2).length _
    rw [← e2]
    exact h2
  obtain ⟨va', vc', rfl⟩ := as_form hbs
  have hb := hown.below_own hB h3
  rw [← e2] at hbs ⊢
  exact h va' vc' w' hbs e2 hb h3
/-- The same, where one operation comes behind another. -/
theorem wpList_append_attrs {ops : Array Oper} {rest : List Oper} {o : Oper} {a : Act} {Q : Exit → Act → World → Prop} {w : World} (hgd : o.guard = none) (s x : Operand)
    (ho : o.op = .call { callee := .builtin .append, args := #[s, x], argTypes := #[39, 39] })
    (B : Nat) (va : Option Addr) (n vc : Nat) (L : List AD) (hs : a.eval s = .slice va n vc) (hown : AS B (.slice va n vc) L w) (hn : n = L.length)
    (sa : Option Addr) (m c : Nat) (L2 : List AD) (hx : a.eval x = .slice sa m c) (hR : RowsAt w.cell? 5 (.slice sa m c) (L2.map AD.row))
    (hl : n + m ≤ 1099511627776) (hB : B ≤ w.heap.size)
    (h : ∀ va' vc' w', AS B (.slice va' (n + m) vc') (L ++ L2) w' → n + m = (L ++ L2).length → Below B w w' → w.grownBy w' (Value.slice va n vc).ownBlock → wpList Tryz.prog ops Q rest (a.put o.dst (.slice va' (n + m) vc')) w') :
    wpList Tryz.prog ops Q (o :: rest) a w := by
  subst hn
  have hm := (rows_len hR).1
  rw [List.length_map] at hm
  subst hm
  obtain ⟨i0, hi, hz0, hz1, hz2⟩ := info_parts info5
  refine wpList_append_rows hgd s x _ ho B 55 i0 (.agg #[.string ⟨#[]⟩, .int .i64 0, .int .i64 0, .string ⟨#[]⟩, .slice none 0 0]) 5 72 Tryz.underlying39 hi hz0 hz1 hz2 rfl (by decide) (.slice va L.length vc) L.length (L.map AD.row).flatten hs hown.out sa L2.length c (L2.map AD.row) w.cell? hx hR (fun _ _ e => e) (rows5a L2) (flat5a L2) (by unfold maxLen; omega) (by omega) hB ?_
  intro v' w' h2 h3
  have e1 : (L.map AD.row).flatten ++ (L2.map AD.row).flatten = ((L ++ L2).map AD.row).flatten := by rw [List.map_append, List.flatten_append]
  have e2 : L.length + L2.length = (L ++ L2).length := by simp
  rw [e1] at h2
  have hbs : AS B v' (L ++ L2) w' := by
    show w'.ownsRow B _ 5 _ (L ++ L2).length _
    rw [← e2]
    exact h2
  obtain ⟨va', vc', rfl⟩ := as_form hbs
  have hb := hown.below_own hB h3
  rw [← e2] at hbs ⊢
  exact h va' vc' w' hbs e2 hb h3

/-- A value in its box. -/
def VC (n : Nat) (v : VD) (W : World) : Prop := W.cell? ⟨n + 1, 0, none⟩ = some (.int .i64 v.kind) ∧ W.cell? ⟨n + 1, 1, none⟩ = some (.int .i64 v.num) ∧ W.cell? ⟨n + 1, 2, none⟩ = some (.string v.text) ∧ W.cell? ⟨n + 1, 3, none⟩ = some (.slice v.ptr v.len v.cap)

/-- The boxes and the contexts of the reference's With. -/
structure RW (w wr : World) (pa : Option Addr) (n c : Nat) (v : VD) (B g cap : Nat) (L : List CT) : Prop where
  x : WX w wr pa n c v
  row : wr.ownsRow B 41 3 (.slice (some ⟨g, 0, none⟩) L.length cap) L.length (L.map CT.row).flatten
  low : w.heap.size + 1 + 1 < B
  each : ∀ u ∈ L, CAt (excl [w.heap.size + 1 + 1, g] wr) u
section
variable {w wr u : World} {pa : Option Addr} {n c : Nat} {v : VD} {B g cap : Nat} {L : List CT}
theorem RW.Bg (h : RW w wr pa n c v B g cap L) : B ≤ g ∧ g < wr.heap.size := h.row.lt g rfl
theorem RW.call (h : RW w wr pa n c v B g cap L) (hb : Below wr.heap.size wr u) : RW w u pa n c v B g cap L :=
  ⟨h.x.call hb, h.row.kept (grown_of_below hb none) (Or.inr (by intro e; cases e)), h.low, fun y hy => (h.each y hy).mono (excl_grown (grown_of_below hb none) (fun k e => by cases e))⟩
theorem RW.cells (h : RW w wr pa n c v B g cap L) {i : Nat} {x : CT} (hk : L[i]? = some x) :
    wr.cell? ⟨g, i * 3, none⟩ = some (.string x.kind) ∧ wr.cell? ⟨g, i * 3 + 2, none⟩ = some (.slice x.ptr x.len x.cap) ∧ wr.frozen? ⟨g, i * 3 + 2, none⟩ = false := by
  have hkl : i < L.length := (List.getElem?_eq_some_iff.1 hk).1
  have hr : (L.map CT.row)[i]? = some x.row := by rw [List.getElem?_map, hk]; rfl
  refine ⟨?_, ?_, h.row.frozenAt _⟩
  · rw [h.row.cellAt _ (by omega)]; exact flat_get 3 _ (rows3c L) i _ hr 0 _ rfl
  · rw [h.row.cellAt _ (by omega)]; exact flat_get 3 _ (rows3c L) i _ hr 2 _ rfl
theorem RW.attrs (h : RW w wr pa n c v B g cap L) {i : Nat} {x : CT} (hk : L[i]? = some x) : RowsAt wr.cell? 5 (.slice x.ptr x.len x.cap) (x.attrs.map AD.row) :=
  (h.each x (List.mem_of_getElem? hk)).rows.mono (excl_sub _ _)
theorem old_excl {X : List Nat} (hb : Below w.heap.size w wr) (hX : ∀ k ∈ X, w.heap.size ≤ k) : Sub w.cell? (excl X wr) := fun p x h1 =>
  have hl := World.block_lt_of_cell? w p h1
  excl_mk (fun e => by have := hX _ e; omega) ((hb.cell hl).trans h1)
/-- The attributes of a context are replaced. -/
theorem RW.put (h : RW w wr pa n c v B g cap L) {i : Nat} {kd ky : ByteArray} {p a2 : Option Addr} {m m' n2 c2 E : Nat} {at' L2 : List AD} (hk : L[i]? = some ⟨kd, ky, p, m, m', at'⟩) (own : AS E (.slice a2 n2 c2) L2 wr) (hE : g < E)
    (hL : ∀ a ∈ L2, a ∈ at' ∨ a.val = v) (hv : LAt w.cell? v) : RW w (wr.setCell ⟨g, i * 3 + 2, none⟩ (.slice a2 n2 c2)) pa n c v B g cap (L.set i ⟨kd, ky, a2, n2, c2, L2⟩) := by
  have hB := h.Bg
  have hlow := h.low
  have hs : Sub (excl [w.heap.size + 1 + 1, g] wr) (excl [w.heap.size + 1 + 1, g] (wr.setCell ⟨g, i * 3 + 2, none⟩ (.slice a2 n2 c2))) := excl_set (by simp) _
  have hm := h.each _ (List.mem_of_getElem? hk)
  refine ⟨⟨h.x.low.setCell (by simp; omega) _, h.x.s.setOther (by simp; omega) _, h.x.v.setOther (by simp; omega) _, h.x.z.setOther (by simp; omega) _⟩, ?_, hlow, ?_⟩
  · have := (h.row.stored (i * 3 + 2) (.slice a2 n2 c2)).1
    rw [ct_set (c' := ⟨kd, ky, a2, n2, c2, L2⟩) hk (by decide) rfl] at this
    rw [List.length_set]
    exact this
  · intro y hy
    rcases List.mem_or_eq_of_mem_set hy with hy | rfl
    · exact (h.each y hy).mono hs
    · refine (show CAt (excl [w.heap.size + 1 + 1, g] wr) ⟨kd, ky, a2, n2, c2, L2⟩ from ⟨rows_excl own.rows (fun k hk => ?_), fun a ha => ?_, hm.key⟩).mono hs
      · have := (own.out.lt k hk).1
        simp
        omega
      · rcases hL a ha with h1 | h1
        · exact hm.each a h1
        · rw [h1]
          exact hv.mono (old_excl h.x.low (by simp; omega))
/-- The contexts are handed back. -/
theorem RW.done (h : RW w wr pa n c v B g cap L) (x : Value) : SAt (wr.setCell ⟨w.heap.size + 1 + 1, 0, none⟩ x).cell? (.slice (some ⟨g, 0, none⟩) L.length cap) L ∧ Below w.heap.size w (wr.setCell ⟨w.heap.size + 1 + 1, 0, none⟩ x) := by
  have hB := h.Bg
  have hlow := h.low
  refine ⟨⟨?_, fun y hy => (h.each y hy).mono ((excl_set (X := [w.heap.size + 1 + 1, g]) (by simp) x).trans (excl_sub _ _))⟩, h.x.low.setCell (by simp; omega) x⟩
  exact rows_of_owns (owns_kept h.row (grown_setCell wr (w.heap.size + 1 + 1) 0 x) (by omega)) (L.map CT.row) (by simp) (rows3c L) rfl
theorem RW.start (hW : WX w wr pa n c v) (hown : wr.ownsRow B 41 3 (.slice (some ⟨g, 0, none⟩) L.length cap) L.length (L.map CT.row).flatten) (hB : w.heap.size + 1 + 1 < B) (hS : ∀ u ∈ L, CAt w.cell? u) : RW w wr pa n c v B g cap L := by
  have := (hown.lt g rfl).1
  exact ⟨hW, hown, hB, fun y hy => (hS y hy).mono (old_excl hW.low (by simp; omega))⟩
end

end Go.Proofs.YtkglejfkfeahcaaGreatDoor.subj

namespace Go.Proofs.YtkglejfkfeahcaaGreatDoor.subj
open Go.RowKit Go.Proofs.YtkglejfkfeahcaaGreatDoor Go.Proofs.YtkglejfkfeahcaaGreatDoor.schema Go.Proofs.YtkglejfkfeahcaaGreatDoor.value Go.Proofs.YtkglejfkfeahcaaGreatDoor.text Go.Proofs.YtkglejfkfeahcaaGreatDoor.clause Go.Proofs.YtkglejfkfeahcaaGreatDoor.draw

/-- A value looked up lies in a block of its own. -/
def OutV (w : World) (o : Option VD) (p q : Value) (u : World) : Prop :=
  ∃ (g : Nat) (d : VD), p = .pointer (some ⟨g, 0, none⟩) ∧ q = .bool o.isSome ∧ Own u g #[.int .i64 d.kind, .int .i64 d.num, .string d.text, .slice d.ptr d.len d.cap] 52 ∧ SameV d (o.getD zeroV) ∧ LAt u.cell? d ∧ Aft w u
theorem outV_new {w u : World} {o : Option VD} {d : VD} {lo hi : Nat} (h1 : SameV d (o.getD zeroV)) (h2 : LAt (mOut lo hi u) d) (hb : Aft w u) :
    OutV w o (.pointer (some ⟨u.heap.size, 0, none⟩)) (.bool o.isSome) (u.alloc (.cells #[.int .i64 d.kind, .int .i64 d.num, .string d.text, .slice d.ptr d.len d.cap] 52)) :=
  ⟨_, d, rfl, rfl, Own.new u _ _, h1, (h2.mono (mOut_in _ _ _)).mono (sub_of_below ((Below.refl u.heap.size u).alloc (Nat.le_refl _) _)), hb.alloc _⟩
theorem outV_old {w u : World} {o : Option VD} {d : VD} {hi g : Nat} (h1 : SameV d (o.getD zeroV)) (h2 : LAt (mOut w.heap.size hi u) d) (hb : Aft w u) (hO : Own u g #[.int .i64 0, .int .i64 0, .string ⟨#[]⟩, .slice none 0 0] 52) (hg1 : w.heap.size ≤ g) (hg2 : g < hi) :
    OutV w o (.pointer (some ⟨g, 0, none⟩)) (.bool o.isSome) ((((u.setCell ⟨g, 0, none⟩ (.int .i64 d.kind)).setCell ⟨g, 1, none⟩ (.int .i64 d.num)).setCell ⟨g, 2, none⟩ (.string d.text)).setCell ⟨g, 3, none⟩ (.slice d.ptr d.len d.cap)) :=
  ⟨g, d, rfl, rfl, (((hO.set 0 _).set 1 _).set 2 _).set 3 _, h1, (h2.mono (((mOut_set (q := ⟨g, 0, none⟩) hg1 hg2 _).trans (mOut_set (q := ⟨g, 1, none⟩) hg1 hg2 _)).trans (((mOut_set (q := ⟨g, 2, none⟩) hg1 hg2 _).trans (mOut_set (q := ⟨g, 3, none⟩) hg1 hg2 _)).trans (mOut_in _ _ _)))), Below.setCell (Below.setCell (Below.setCell (Below.setCell hb (p := ⟨g, 0, none⟩) hg1 _) (p := ⟨g, 1, none⟩) hg1 _) (p := ⟨g, 2, none⟩) hg1 _) (p := ⟨g, 3, none⟩) hg1 _⟩

/-- Where With gives no error. -/
theorem withS_ok {l : List CT} {kind name : ByteArray} {v : VD} (h : (withS l kind name v).2 = 0) : ∃ c, findS kind.toList l = some c ∧ (name.toList == [107, 101, 121]) = false ∧ (withS l kind name v).1 = putC kind.toList ⟨name, v⟩ l := by
  unfold withS at h ⊢
  split at h
  · rename_i h1; exact absurd h h1
  · rename_i h1
    rw [if_neg h1]
    split at h
    · simp at h
    · rename_i c hf
      split at h
      · simp at h
      · rename_i h2
        split at h
        · rename_i h3; exact absurd h h3
        · rename_i h3
          split at h
          · simp at h
          · rename_i h4
            refine ⟨c, hf, ?_, ?_⟩
            · rw [ByteArray.toList_eq]
              cases hq : (name.data.toList == [107, 101, 121]) with
              | false => rfl
              | true => exact absurd (Or.inr hq) h2
            · rw [if_neg h2, if_neg h3, if_neg h4]
theorem pairs_alike {l' p l : List CT} (h : Alike SameC l' p) (h2 : Alike SameC l p) : Pairs CEq l' l :=
  ⟨h.1.trans h2.1.symm, fun i h1 h3 => ceq_two (h.2 i h1 (by have := h.1; omega)) (h2.2 i h3 (by have := h.1; omega))⟩

theorem isSome_opt {o o' : Option VD} (h : SameO o o') : o.isSome = o'.isSome := by
  cases o <;> cases o' <;> first | rfl | exact h.elim
theorem eqV_opt {x y : VD} {o o' : Option VD} (h1 : SameV x (o'.getD zeroV)) (h2 : SameV y (o.getD zeroV)) (h : SameO o o') : eqV x y = true := by
  have h3 : SameV (o.getD zeroV) (o'.getD zeroV) := by
    cases o <;> cases o' <;> first | exact SameV.refl _ | exact h.elim | exact h
  exact eqV_two h1 ⟨h2.1.trans h3.1, h2.2.1.trans h3.2.1, h2.2.2.1.trans h3.2.2.1, h2.2.2.2.trans h3.2.2.2⟩

/-- What is held while a kind, a name and a value are drawn. -/
structure DR (wx u : World) (b : Nat) (a : Option Addr) (n c gk gn : Nat) (ks ns : Array Value) : Prop where
  head : Head b a n c u
  grown : wx.grownBy u (some b)
  k : Own u gk ks 9
  nb : gk ≠ b
  nm : Own u gn ns 9
  nn : gn ≠ b
section
variable {wx u x : World} {b : Nat} {a : Option Addr} {n c gk gn gv : Nat} {ks ns : Array Value} {d d' : VD}
theorem DR.call (h : DR wx u b a n c gk gn ks ns) (hG : u.grownBy x (some b)) (hH : Head b a n c x) : DR wx x b a n c gk gn ks ns :=
  ⟨hH, g_call h.grown hG, h.k.kept hG (fun e => h.nb (Option.some.inj e).symm), h.nb, h.nm.kept hG (fun e => h.nn (Option.some.inj e).symm), h.nn⟩
theorem DR.alloc (h : DR wx u b a n c gk gn ks ns) (o : Obj) : DR wx (u.alloc o) b a n c gk gn ks ns := h.call (World.grownBy_alloc u o _) (h.head.alloc o)
theorem DR.drew (h : DR wx u b a n c gk gn ks ns) : DR wx u.drew b a n c gk gn ks ns := h.call (grown_drewN u 1 _) h.head.drew

theorem DR.set1 (h : DR wx u b a n c gk gn ks ns) {p : Addr} (hl : wx.heap.size ≤ p.block) (hb : b ≠ p.block) (hk : gk ≠ p.block) (hn : gn ≠ p.block) (v : Value) : DR wx (u.setCell p v) b a n c gk gn ks ns :=
  ⟨h.head.set hb v, g_setCell h.grown hl v, h.k.setOther hk v, h.nb, h.nm.setOther hn v, h.nn⟩
theorem DR.set4 (h : DR wx u b a n c gk gn ks ns) (hl : wx.heap.size ≤ gv) (hb : b < wx.heap.size) (hk : gk < wx.heap.size) (hn : gn < wx.heap.size) (v0 v1 v2 v3 : Value) : DR wx ((((u.setCell ⟨gv, 0, none⟩ v0).setCell ⟨gv, 1, none⟩ v1).setCell ⟨gv, 2, none⟩ v2).setCell ⟨gv, 3, none⟩ v3) b a n c gk gn ks ns := by
  have q1 : b ≠ gv := by omega
  have q2 : gk ≠ gv := by omega
  have q3 : gn ≠ gv := by omega
  exact (((h.set1 hl q1 q2 q3 _).set1 hl q1 q2 q3 _).set1 hl q1 q2 q3 _).set1 hl q1 q2 q3 _
/-- A value that is drawn, in its box. -/
structure PickR (wx u : World) (b : Nat) (a : Option Addr) (n c gv : Nat) (d : VD) : Prop where
  head : Head b a n c u
  grown : wx.grownBy u (some b)
  own : Own u gv #[.int .i64 d.kind, .int .i64 d.num, .string d.text, .slice d.ptr d.len d.cap] 52
  lat : LAt (excl [b, gv] u) d
  low : wx.heap.size ≤ gv
  br : b < wx.heap.size
theorem PickR.call (h : PickR wx u b a n c gv d) (hG : u.grownBy x (some b)) (hH : Head b a n c x) : PickR wx x b a n c gv d := by
  have hl := h.low
  have hb := h.br
  exact ⟨hH, g_call h.grown hG, h.own.kept hG (by simp; omega), h.lat.mono (excl_grown hG (fun k e => by cases e; simp)), h.low, h.br⟩
theorem PickR.set {w0 : Array Value} (h1 : Head b a n c u) (h2 : wx.grownBy u (some b)) (h3 : Own u gv #[w0[0]!, w0[1]!, w0[2]!, w0[3]!] 52) (hl : wx.heap.size ≤ gv) (hb : b < wx.heap.size) (hv : LAt (excl [b, gv] u) d) :
    PickR wx ((((u.setCell ⟨gv, 0, none⟩ (.int .i64 d.kind)).setCell ⟨gv, 1, none⟩ (.int .i64 d.num)).setCell ⟨gv, 2, none⟩ (.string d.text)).setCell ⟨gv, 3, none⟩ (.slice d.ptr d.len d.cap)) b a n c gv d := by
  refine ⟨(((h1.set (by simp; omega) _).set (by simp; omega) _).set (by simp; omega) _).set (by simp; omega) _, g_setCell (g_setCell (g_setCell (g_setCell h2 (by simp; omega) _) (by simp; omega) _) (by simp; omega) _) (by simp; omega) _, (((h3.set 0 _).set 1 _).set 2 _).set 3 _, ?_, hl, hb⟩
  exact hv.mono ((((excl_set (X := [b, gv]) (by simp) _).trans (excl_set (X := [b, gv]) (by simp) _)).trans (excl_set (X := [b, gv]) (by simp) _)).trans (excl_set (X := [b, gv]) (by simp) _))
theorem PickR.start (h : DR wx u b a n c gk gn ks ns) (h3 : Own u gv #[.int .i64 0, .int .i64 0, .string ⟨#[]⟩, .slice none 0 0] 52) (hl : wx.heap.size ≤ gv) (hb : b < wx.heap.size) (hv : LAt (excl [b, gv] u) d) :
    PickR wx ((((u.setCell ⟨gv, 0, none⟩ (.int .i64 d.kind)).setCell ⟨gv, 1, none⟩ (.int .i64 d.num)).setCell ⟨gv, 2, none⟩ (.string d.text)).setCell ⟨gv, 3, none⟩ (.slice d.ptr d.len d.cap)) b a n c gv d :=
  PickR.set (w0 := #[.int .i64 0, .int .i64 0, .string ⟨#[]⟩, .slice none 0 0]) h.head h.grown h3 hl hb hv
theorem PickR.put (h : PickR wx u b a n c gv d) (hv : LAt (excl [b, gv] u) d') :
    PickR wx ((((u.setCell ⟨gv, 0, none⟩ (.int .i64 d'.kind)).setCell ⟨gv, 1, none⟩ (.int .i64 d'.num)).setCell ⟨gv, 2, none⟩ (.string d'.text)).setCell ⟨gv, 3, none⟩ (.slice d'.ptr d'.len d'.cap)) b a n c gv d' :=
  PickR.set (w0 := #[.int .i64 d.kind, .int .i64 d.num, .string d.text, .slice d.ptr d.len d.cap]) h.head h.grown h.own h.low h.br hv
end

def ksA (kind : ByteArray) : Array Value := #[.string ⟨#[117, 115, 101, 114]⟩, .string ⟨#[100, 101, 118, 105, 99, 101]⟩, .string kind]
def nsA (name : ByteArray) : Array Value := #[.string ⟨#[112, 108, 97, 110]⟩, .string ⟨#[97, 103, 101]⟩, .string ⟨#[122, 101, 116, 97]⟩, .string ⟨#[107, 101, 121]⟩, .string name]
theorem ks_at (kind : ByteArray) {i : Nat} (h : i < 3) : ∃ kd, (ksA kind)[i]? = some (.string kd) := by
  rcases (show i = 0 ∨ i = 1 ∨ i = 2 by omega) with rfl | rfl | rfl <;> exact ⟨_, rfl⟩
theorem ns_at (name : ByteArray) (hn : name.size ≤ maxLen) {j : Nat} (h : j < 5) : ∃ nm, (nsA name)[j]? = some (.string nm) ∧ nm.size ≤ maxLen := by
  rcases (show j = 0 ∨ j = 1 ∨ j = 2 ∨ j = 3 ∨ j = 4 by omega) with rfl | rfl | rfl | rfl | rfl
  · exact ⟨_, rfl, show 4 ≤ _ by decide⟩
  · exact ⟨_, rfl, show 3 ≤ _ by decide⟩
  · exact ⟨_, rfl, show 4 ≤ _ by decide⟩
  · exact ⟨_, rfl, show 3 ≤ _ by decide⟩
  · exact ⟨_, rfl, hn⟩

/-- A box of one slice holds no cell of rows that begin with something else. -/
theorem rows_avoid {w : World} {b gs sz : Nat} {v x0 : Value} {rows : List (List Value)} {t : TypeId} (h : RowsAt (but b w) sz v rows) (hO : Own w gs #[x0] t) (hr : ∀ r ∈ rows, r[0]? ≠ some x0) : RowsAt (excl [b, gs] w) sz v rows := by
  obtain ⟨a, c, h1, h2, h3, h4⟩ := h
  refine ⟨a, c, h1, h2, h3, ?_⟩
  rcases h4 with h4 | ⟨blk, off, h5, h6⟩
  · exact Or.inl h4
  · refine Or.inr ⟨blk, off, h5, fun i r hi j x hx => ?_⟩
    have hc := h6 i r hi j x hx
    have hcw := but_sub _ _ _ _ hc
    refine excl_mk (fun e => ?_) hcw
    have hb : blk ≠ b := by intro e; unfold but at hc; rw [if_pos e] at hc; cases hc
    have hg : blk = gs := by simpa [hb] using e
    subst hg
    rw [hO.cell] at hcw
    have hq := (Array.getElem?_eq_some_iff.1 hcw).1
    have hq0 : off + i * sz + j = 0 := by simpa using hq
    rw [hq0] at hcw
    have hj : j = 0 := by omega
    subst hj
    have hxx : x0 = x := by simpa using hcw
    exact hr r (List.mem_of_getElem? hi) (by rw [hx, hxx])
theorem sat_avoid {w : World} {b gs m c : Nat} {p : Option Addr} {v : Value} {l : List CT} {t : TypeId} (h : SAt (but b w) v l) (hO : Own w gs #[.slice p m c] t) : SAt (excl [b, gs] w) v l := by
  refine ⟨rows_avoid h.rows hO (fun r hr => ?_), fun x hx => ?_⟩
  · obtain ⟨d, -, rfl⟩ := List.mem_map.1 hr
    simp [CT.row]
  · have hc := h.each x hx
    refine ⟨rows_avoid hc.rows hO (fun r hr => ?_), fun y hy => ?_, hc.key⟩
    · obtain ⟨d, -, rfl⟩ := List.mem_map.1 hr
      simp [AD.row]
    · have hl := hc.each y hy
      refine ⟨rows_avoid hl.rows hO (fun r hr => ?_), hl.text, hl.few⟩
      obtain ⟨d, -, rfl⟩ := List.mem_map.1 hr
      simp [strRow]

end Go.Proofs.YtkglejfkfeahcaaGreatDoor.subj
