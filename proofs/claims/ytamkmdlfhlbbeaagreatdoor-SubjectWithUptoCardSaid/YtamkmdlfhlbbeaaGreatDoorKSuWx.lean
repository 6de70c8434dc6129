/- The program's With. -/
import Derived.Test.YtamkmdlfhlbbeaaGreatDoorKJ20
import Derived.Test.YtamkmdlfhlbbeaaGreatDoorKSuWb
import Derived.Test.YtamkmdlfhlbbeaaGreatDoorKSuWi
import Derived.Test.YtamkmdlfhlbbeaaGreatDoorKJ20
import Derived.Test.YtamkmdlfhlbbeaaGreatDoorKSuE
import Derived.Test.YtamkmdlfhlbbeaaGreatDoorKClL
import Derived.Deep.RegionHeld
import Derived.Laws.IdiomCopy
namespace Go.Proofs.YtamkmdlfhlbbeaaGreatDoor.subj
open Go.RowKit Go.Proofs.YtamkmdlfhlbbeaaGreatDoor Go.Proofs.YtamkmdlfhlbbeaaGreatDoor.schema Go.Proofs.YtamkmdlfhlbbeaaGreatDoor.value Go.Proofs.YtamkmdlfhlbbeaaGreatDoor.text Go.Proofs.YtamkmdlfhlbbeaaGreatDoor.clause Go.Proofs.YtamkmdlfhlbbeaaGreatDoor.draw

/-- What With gives. -/
def WithIs (l : List CT) (kind name : ByteArray) (v : VD) (e : Ending) (w : World) : Prop :=
  ∃ (a : Option Addr) (n c : Nat) (l' : List CT), e = .returned (.tuple #[.agg #[.slice a n c], .int .i64 (withS l kind name v).2]) ∧ Alike SameC l' (withS l kind name v).1 ∧ SAt w.cell? (.slice a n c) l'
theorem with_err {l : List CT} {kind name : ByteArray} {v : VD} {w : World} {x : Int} (h : withS l kind name v = ([], x)) : WithIs l kind name v (.returned (.tuple #[.agg #[.slice none 0 0], .int .i64 x])) w := by
  refine ⟨none, 0, 0, [], by rw [h], by rw [h]; exact ⟨rfl, fun i h1 => by simp at h1⟩, ⟨rows_nil _ _, fun c hc => (List.not_mem_nil hc).elim⟩⟩
theorem withS_check {l : List CT} {kind name : ByteArray} {v : VD} (h : subS l ≠ 0) : withS l kind name v = ([], subS l) := by unfold withS; rw [if_pos h]
theorem withS_none {l : List CT} {kind name : ByteArray} {v : VD} (h : subS l = 0) (h1 : findS kind.toList l = none) : withS l kind name v = ([], 11) := by unfold withS; rw [if_neg (by rw [h]; decide), h1]
theorem withS_key {l : List CT} {kind name : ByteArray} {v : VD} {c : CT} (h : subS l = 0) (h1 : findS kind.toList l = some c) (h2 : keyS name.data.toList = false ∨ (name.data.toList == [107, 101, 121]) = true) : withS l kind name v = ([], 6) := by unfold withS; rw [if_neg (by rw [h]; decide), h1]; exact if_pos h2
theorem withS_val {l : List CT} {kind name : ByteArray} {v : VD} {c : CT} (h : subS l = 0) (h1 : findS kind.toList l = some c) (h2 : ¬ (keyS name.data.toList = false ∨ (name.data.toList == [107, 101, 121]) = true)) (h3 : checkS (vv v) ≠ 0) : withS l kind name v = ([], checkS (vv v)) := by unfold withS; rw [if_neg (by rw [h]; decide), h1]; simp only []; rw [if_neg h2, if_pos h3]
theorem withS_many {l : List CT} {kind name : ByteArray} {v : VD} {c : CT} (h : subS l = 0) (h1 : findS kind.toList l = some c) (h2 : ¬ (keyS name.data.toList = false ∨ (name.data.toList == [107, 101, 121]) = true)) (h3 : checkS (vv v) = 0) (h4 : 20 < (insA ⟨name, v⟩ c.attrs).length) : withS l kind name v = ([], 5) := by unfold withS; rw [if_neg (by rw [h]; decide), h1]; simp only []; rw [if_neg h2, if_neg (by rw [h3]; decide), if_pos h4]
theorem withS_good {l : List CT} {kind name : ByteArray} {v : VD} {c : CT} (h : subS l = 0) (h1 : findS kind.toList l = some c) (h2 : ¬ (keyS name.data.toList = false ∨ (name.data.toList == [107, 101, 121]) = true)) (h3 : checkS (vv v) = 0) (h4 : ¬ 20 < (insA ⟨name, v⟩ c.attrs).length) : withS l kind name v = (putC kind.toList ⟨name, v⟩ l, 0) := by unfold withS; rw [if_neg (by rw [h]; decide), h1]; simp only []; rw [if_neg h2, if_neg (by rw [h3]; decide), if_neg h4]

/-- The boxes of With. -/
structure WX (w wr : World) (pa : Option Addr) (n c : Nat) (v : VD) : Prop where
  low : Below w.heap.size w wr
  s : Own wr w.heap.size #[.slice pa n c] 24
  v : Own wr (w.heap.size + 1) #[.int .i64 v.kind, .int .i64 v.num, .string v.text, .slice v.ptr v.len v.cap] 51
  z : Own wr (w.heap.size + 1 + 1) #[.slice none 0 0] 24
theorem WX.call {w wr u : World} {pa : Option Addr} {n c : Nat} {v : VD} (h : WX w wr pa n c v) (hb : Below wr.heap.size wr u) : WX w u pa n c v :=
  ⟨h.low.trans (hb.mono h.low.size), h.s.below hb h.s.lt, h.v.below hb h.v.lt, h.z.below hb h.z.lt⟩
theorem WX.start (w : World) (pa : Option Addr) (n c : Nat) (v : VD) : WX w (((w.alloc (.cells #[.slice pa n c] 24)).alloc (.cells #[.int .i64 v.kind, .int .i64 v.num, .string v.text, .slice v.ptr v.len v.cap] 51)).alloc (.cells #[.slice none 0 0] 24)) pa n c v :=
  ⟨(((Below.refl _ _).alloc (Nat.le_refl _) _).alloc (by simp) _).alloc (by simp; omega) _, ((Own.new _ _ _).alloc _).alloc _, (Own.new' (by simp)).alloc _, Own.new' (by simp)⟩
theorem WX.res {w wr : World} {pa : Option Addr} {n c : Nat} {v : VD} (h : WX w wr pa n c v) (x : Value) : (wr.setCell ⟨w.heap.size + 1 + 1, 0, none⟩ x).cell? ⟨w.heap.size + 1 + 1, 0, none⟩ = some x := by
  have := (h.z.set 0 x).cell 0
  simpa using this
theorem WX.low' {w wr : World} {pa : Option Addr} {n c : Nat} {v : VD} (h : WX w wr pa n c v) : w.heap.size + 1 + 1 < wr.heap.size := h.z.lt

/-- The boxes and the copy of With. -/
structure WY (w wr : World) (pa : Option Addr) (n c : Nat) (v : VD) (G B g k : Nat) (l' : List CT) : Prop where
  x : WX w wr pa n c v
  o : Own wr G #[.slice (some ⟨B, 0, none⟩) l'.length l'.length] 24
  row : wr.ownsRow B 37 3 (.slice (some ⟨B, 0, none⟩) l'.length l'.length) l'.length (l'.map CT.row).flatten
  par : Parted wr B g k l'
  low : w.heap.size + 1 + 1 < B
  lt : B < g ∧ g < G
theorem WY.call {w wr u : World} {pa : Option Addr} {n c : Nat} {v : VD} {G B g k : Nat} {l' : List CT} (h : WY w wr pa n c v G B g k l') (hb : Below wr.heap.size wr u) : WY w u pa n c v G B g k l' :=
  ⟨h.x.call hb, h.o.below hb h.o.lt, h.row.kept (grown_of_below hb none) (Or.inr (by intro e; cases e)), h.par.grown (grown_of_below hb none) (fun x hx => by cases hx), h.low, h.lt⟩
theorem WY.ctx {w wr : World} {pa : Option Addr} {n c : Nat} {v : VD} {G B g k : Nat} {l' : List CT} (h : WY w wr pa n c v G B g k l') {kd ky : ByteArray} {m m' : Nat} {pp : Option Addr} {at' : List AD} (hk : l'[k]? = some ⟨kd, ky, pp, m, m', at'⟩) :
    wr.cell? ⟨B, k * 3 + 2, none⟩ = some (.slice (some ⟨g, 0, none⟩) at'.length at'.length) ∧ RowsAt wr.cell? 5 (.slice (some ⟨g, 0, none⟩) at'.length at'.length) (at'.map AD.row) ∧ wr.frozen? ⟨B, k * 3 + 2, none⟩ = false := by
  have hkl : k < l'.length := (List.getElem?_eq_some_iff.1 hk).1
  have hke : l'[k] = ⟨kd, ky, pp, m, m', at'⟩ := (List.getElem?_eq_some_iff.1 hk).2
  have hR := rows_of_owns h.row (l'.map CT.row) (by simp) (by intro r hr; obtain ⟨d, -, rfl⟩ := List.mem_map.1 hr; rfl) rfl
  obtain ⟨blk, off, e, -, -, -, -, c2⟩ := ct_at hR hkl
  injection e with e
  injection e with e1 e2
  subst e1
  subst e2
  rw [hke] at c2
  have ho := (h.par.kth _ hk).2
  have e1 := ho.ptr
  have e2 := ho.len
  have e3 := ho.cap
  simp only at e1 e2 e3 c2
  subst e1; subst e2; subst e3
  rw [Nat.zero_add] at c2
  refine ⟨c2, rows_of_owns ho.own (at'.map AD.row) (by simp) (by intro r hr; obtain ⟨d, -, rfl⟩ := List.mem_map.1 hr; rfl) rfl, ?_⟩
  obtain ⟨-, h2⟩ := h.row
  rcases h2 with ⟨h2, -⟩ | ⟨g', cap', cur, h3, -, h4, -⟩
  · cases h2
  · injection h3 with h3
    injection h3 with h3
    injection h3 with h3
    subst h3
    simp [World.frozen?, h4]
theorem OwnC.free {w : World} {g : Nat} {c : CT} (h : OwnC w g c) (q : Nat) : w.frozen? ⟨g, q, none⟩ = false := by
  rcases h.own.2 with ⟨h2, -⟩ | ⟨g', cap', cur, h3, -, h4, -⟩
  · cases h2
  · injection h3 with h3
    injection h3 with h3
    injection h3 with h3
    subst h3
    simp [World.frozen?, h4]
theorem asc_alike {l' l : List AD} (h : Alike SameA l' l) (ha : Asc l) : Asc l' := by
  refine List.pairwise_iff_getElem.2 fun i j hi hj hij => ?_
  rw [(h.2 i hi (by rw [← h.1]; exact hi)).1, (h.2 j hj (by rw [← h.1]; exact hj)).1]
  exact ha.at hij _

theorem newG_in (B b : Nat) (g : Option Nat) (w : World) : Sub (newG B b g w) w.cell? := by
  intro p v h
  unfold newG at h
  split at h
  · cases h
  · exact h
theorem newM_keep {B b : Nat} {r : Option Nat} {w u : World} (gr : w.grownBy u r) (hr : ∀ x, r = some x → x < B) : Sub (newM B b w) (newM B b u) := by
  intro p v h
  unfold newM at *
  split at h
  · cases h
  · rename_i hne
    rw [if_neg hne]
    exact gr.cell h (fun e => hne (Or.inl (hr _ e.symm)))
theorem newM_in' (B b : Nat) (w : World) : Sub (newM B b w) w.cell? := by
  intro p v h
  unfold newM at h
  split at h
  · cases h
  · exact h
theorem grown_set {w u : World} {g : Nat} (h : w.grownBy u (some g)) (o : Nat) (v : Value) : w.grownBy (u.setCell ⟨g, o, none⟩ v) (some g) :=
  ⟨h.os, h.tape, h.output, by simpa using h.size, fun k hk hne => by rw [Below.heap_setCell _ _ _ k (fun e => hne (by rw [e]))]; exact h.block k hk hne⟩
theorem insA_len_alike {name : ByteArray} {v : VD} {at' l : List AD} (h : Alike SameA at' l) (hf : hasAt name.data.toList at' (posA name.data.toList at') = false) : (insA ⟨name, v⟩ l).length = at'.length + 1 := by
  have h1 : hasAt name.data.toList l (posA name.data.toList l) = false := by rw [← posA_alike h, ← hasAt_alike h]; exact hf
  have := insA_len ⟨name, v⟩ l
  simp only [h1] at this
  rw [this, h.1]
  simp
/-- Five cells are set. -/
theorem set5 {w : World} {g o : Nat} {x0 x1 x2 x3 x4 y0 y1 y2 y3 y4 : Value} (h0 : w.cell? ⟨g, o, none⟩ = some y0) (h1 : w.cell? ⟨g, o + 1, none⟩ = some y1) (h2 : w.cell? ⟨g, o + 2, none⟩ = some y2) (h3 : w.cell? ⟨g, o + 3, none⟩ = some y3) (h4 : w.cell? ⟨g, o + 4, none⟩ = some y4) :
    ∃ u, u = ((((w.setCell ⟨g, o, none⟩ x0).setCell ⟨g, o + 1, none⟩ x1).setCell ⟨g, o + 2, none⟩ x2).setCell ⟨g, o + 3, none⟩ x3).setCell ⟨g, o + 4, none⟩ x4 ∧ (∀ j x, [x0, x1, x2, x3, x4][j]? = some x → u.cell? ⟨g, o + j, none⟩ = some x) ∧ (∀ q, q < o ∨ o + 5 ≤ q → u.cell? ⟨g, q, none⟩ = w.cell? ⟨g, q, none⟩) ∧ w.grownBy u (some g) := by
  refine ⟨w.setCells g o [x0, x1, x2, x3, x4], rfl, fun j x hj => ?_, fun q hq => ?_, ?_⟩
  · have hjl : j < [x0, x1, x2, x3, x4].length := (List.getElem?_eq_some_iff.1 hj).1
    have := World.cell?_setCells_in g [x0, x1, x2, x3, x4] o w (fun i hi => by
      have hi5 : i < 5 := hi
      rcases (show i = 0 ∨ i = 1 ∨ i = 2 ∨ i = 3 ∨ i = 4 by omega) with rfl | rfl | rfl | rfl | rfl
      · rw [Nat.add_zero, h0]; rfl
      · rw [h1]; rfl
      · rw [h2]; rfl
      · rw [h3]; rfl
      · rw [h4]; rfl) j hjl
    rw [this, ← List.getElem?_eq_getElem hjl]
    exact hj
  · exact World.cell?_setCells_out g _ o w _ (fun _ _ => hq)
  · exact grown_set (grown_set (grown_set (grown_set (grown_set ⟨rfl, rfl, rfl, Nat.le_refl _, fun _ _ _ => rfl⟩ _ _) _ _) _ _) _ _) _ _
theorem map_set_same {α β : Type} (f : α → β) {l : List α} {k : Nat} {x y : α} (h : l[k]? = some y) (he : f x = f y) : (l.set k x).map f = l.map f := by
  apply List.ext_getElem?
  intro i
  rw [List.getElem?_map, List.getElem?_map, List.getElem?_set]
  split
  · rename_i e
    subst e
    have hk := (List.getElem?_eq_some_iff.1 h).1
    rw [if_pos hk, h]
    simp [he]
  · rfl
/-- An attribute set in place. -/
theorem WY.place {w wr W : World} {pa : Option Addr} {n c : Nat} {v v' : VD} {G B g k p E : Nat} {l' : List CT} (h : WY w wr pa n c v G B g k l') {kd ky name : ByteArray} {m m' : Nat} {pp : Option Addr} {at' : List AD} (hk : l'[k]? = some ⟨kd, ky, pp, m, m', at'⟩)
    (hin : ∀ j x, (AD.row ⟨name, v'⟩)[j]? = some x → W.cell? ⟨g, p * 5 + j, none⟩ = some x) (hout : ∀ q, q < p * 5 ∨ p * 5 + 5 ≤ q → W.cell? ⟨g, q, none⟩ = wr.cell? ⟨g, q, none⟩) (hgr : wr.grownBy W (some g)) (hE : g < E) (hv : LAt (newM E 0 wr) v') (x : Value) :
    SAt (W.setCell ⟨w.heap.size + 1 + 1, 0, none⟩ x).cell? (.slice (some ⟨B, 0, none⟩) l'.length l'.length) (l'.set k ⟨kd, ky, pp, m, m', at'.set p ⟨name, v'⟩⟩) ∧ Below w.heap.size w (W.setCell ⟨w.heap.size + 1 + 1, 0, none⟩ x) := by
  have hlow := h.low
  have hlt := h.lt
  have hg0 := (h.par.kth _ hk).2
  have hz := grown_setCell W (w.heap.size + 1 + 1) 0 x
  have hcx := (h.ctx hk).2.1
  have e1 := hg0.ptr
  have e2 := hg0.len
  have e3 := hg0.cap
  simp only at e1 e2 e3
  refine ⟨⟨?_, fun d hd => ?_⟩, ?_⟩
  · rw [map_set_same CT.row (x := ⟨kd, ky, pp, m, m', at'.set p ⟨name, v'⟩⟩) hk rfl]
    have := rows_of_owns ((h.row.kept hgr (Or.inr (fun e => by have e' : B = g := Option.some.inj e; omega))).kept hz (Or.inr (fun e => by have e' : B = w.heap.size + 1 + 1 := Option.some.inj e; omega))) (l'.map CT.row) (by simp) (by intro r hr; obtain ⟨d, -, rfl⟩ := List.mem_map.1 hr; rfl) rfl
    exact this
  · obtain ⟨i, hi⟩ := List.getElem?_of_mem hd
    rw [List.getElem?_set] at hi
    split at hi
    · split at hi
      · injection hi with hi
        subst hi
        subst e1; subst e2; subst e3
        refine ⟨rows_put hcx (fun j y hj => ?_) (fun q hq => ?_), fun a ha => ?_, hg0.key⟩
        · rw [World.cell?_setCell_far _ _ _ _ (by simp; omega)]
          exact hin j y hj
        · rw [World.cell?_setCell_far _ _ _ _ (by simp; omega)]
          exact hout q hq
        · rcases List.mem_or_eq_of_mem_set ha with ha | rfl
          · exact (((hg0.lats a ha).mono (newG_app hgr (Or.inl rfl))).mono (newG_set (by simp; omega) x)).mono (newG_in _ _ _ _)
          · exact ((hv.mono (newM_keep hgr (fun y hy => by injection hy with hy; omega))).mono (newM_set (by simp; omega) x)).mono (newM_in' _ _ _)
      · cases hi
    · rename_i hne
      exact (((h.par.others i d hi (fun e => hne e.symm)).mono (newG_grown hgr)).mono (newG_set (by simp; omega) x)).mono (newG_in _ _ _ _)
  · exact (h.x.low.grown hgr h.x.low.size (fun j hj => by injection hj with hj; omega)).setCell (by simp; omega) x

theorem owns_slice {w : World} {b : Nat} {e : TypeId} {z : Nat} {v : Value} {n : Nat} {xs : List Value} (h : w.ownsRow b e z v n xs) : ∃ (a : Option Addr) (m c : Nat), v = .slice a m c := by
  rcases h.2 with ⟨h1, -⟩ | ⟨q1, q2, q3, h1, -⟩
  · exact ⟨_, _, _, h1⟩
  · exact ⟨_, _, _, h1⟩
/-- A list of attributes anew. -/
theorem WY.fresh {w wr : World} {pa : Option Addr} {n c : Nat} {v v' : VD} {G B g k E E2 : Nat} {l' : List CT} (h : WY w wr pa n c v G B g k l') {kd ky : ByteArray} {m m' : Nat} {pp : Option Addr} {at' L : List AD} (hk : l'[k]? = some ⟨kd, ky, pp, m, m', at'⟩) {vv : Value}
    (own : wr.ownsRow E 79 5 vv L.length (L.map AD.row).flatten) (hE : B < E) (hL : ∀ a ∈ L, a ∈ at' ∨ a.val = v') (hE2 : B < E2) (hv : LAt (newM E2 0 wr) v') (x : Value) :
    ∃ (pp2 : Option Addr) (n2 c2 : Nat), SAt ((wr.setCell ⟨B, k * 3 + 2, none⟩ vv).setCell ⟨w.heap.size + 1 + 1, 0, none⟩ x).cell? (.slice (some ⟨B, 0, none⟩) l'.length l'.length) (l'.set k ⟨kd, ky, pp2, n2, c2, L⟩) ∧ Below w.heap.size w ((wr.setCell ⟨B, k * 3 + 2, none⟩ vv).setCell ⟨w.heap.size + 1 + 1, 0, none⟩ x) := by
  have hlow := h.low
  have hlt := h.lt
  have hg0 := (h.par.kth _ hk).2
  have hB1 := grown_setCell wr B (k * 3 + 2) vv
  have hz := grown_setCell (wr.setCell ⟨B, k * 3 + 2, none⟩ vv) (w.heap.size + 1 + 1) 0 x
  have hkl : k < l'.length := (List.getElem?_eq_some_iff.1 hk).1
  have hke : l'[k] = ⟨kd, ky, pp, m, m', at'⟩ := (List.getElem?_eq_some_iff.1 hk).2
  have hR := rows_of_owns h.row (l'.map CT.row) (by simp) (by intro r hr; obtain ⟨d, -, rfl⟩ := List.mem_map.1 hr; rfl) rfl
  have hc2 := (h.ctx hk).1
  obtain ⟨blk, off, e, -, -, c0, c1, -⟩ := ct_at hR hkl
  injection e with e
  injection e with e1 e2
  subst e1
  subst e2
  rw [hke] at c0 c1
  simp only [Nat.zero_add] at c0 c1
  have hrl := rows_of_owns_new (B := E) (b := 0) own (Nat.le_refl _) (by omega) (L.map AD.row) (by simp) (by intro r hr; obtain ⟨d, -, rfl⟩ := List.mem_map.1 hr; rfl) rfl
  have hrl' := (((hrl.mono (newM_keep hB1 (fun y hy => by injection hy with hy; omega))).mono (newM_set (q := ⟨w.heap.size + 1 + 1, 0, none⟩) (by simp; omega) x)).mono (newM_in' _ _ _))
  obtain ⟨pp2, n2, c2, rfl⟩ : ∃ (pp2 : Option Addr) (n2 c2 : Nat), vv = .slice pp2 n2 c2 := by
    rcases own.2 with ⟨h1, -⟩ | ⟨q1, q2, q3, h1, -⟩
    · exact ⟨_, _, _, h1⟩
    · exact ⟨_, _, _, h1⟩
  have hne : ∀ {a b : Nat}, a ≠ b → (⟨B, a, none⟩ : Addr) ≠ ⟨B, b, none⟩ := fun h e => h (by injection e)
  refine ⟨pp2, n2, c2, ⟨?_, fun d hd => ?_⟩, ?_⟩
  · refine rows_put3 hR (fun j y hj => ?_) (fun q hq => ?_)
    · rw [World.cell?_setCell_far _ _ _ _ (by simp; omega)]
      match j, hj with
      | 0, hj => injection hj with hj; subst hj; rw [World.cell?_setCell_other _ _ _ _ (hne (by omega))]; exact c0
      | 1, hj => injection hj with hj; subst hj; rw [World.cell?_setCell_other _ _ _ _ (hne (by omega))]; exact c1
      | 2, hj => injection hj with hj; subst hj; exact World.cell?_setCell_same _ _ _ hc2
    · rw [World.cell?_setCell_far _ _ _ _ (by simp; omega), World.cell?_setCell_other _ _ _ _ (hne (by omega))]
  · obtain ⟨i, hi⟩ := List.getElem?_of_mem hd
    rw [List.getElem?_set] at hi
    split at hi
    · injection hi with hi
      subst hi
      refine ⟨hrl', fun a ha => ?_, hg0.key⟩
      rcases hL a ha with ha | ha
      · exact (((hg0.lats a ha).mono (newG_keep hB1 (fun y hy => by injection hy with hy; omega))).mono (newG_set (by simp; omega) x)).mono (newG_in _ _ _ _)
      · rw [show a.val = v' from ha]
        exact ((hv.mono (newM_keep hB1 (fun y hy => by injection hy with hy; omega))).mono (newM_set (by simp; omega) x)).mono (newM_in' _ _ _)
    · rename_i hne
      exact (((h.par.others i d hi (fun e => hne e.symm)).mono (newG_keep hB1 (fun y hy => by injection hy with hy; exact Or.inr (by rw [hy])))).mono (newG_set (by simp; omega) x)).mono (newG_in _ _ _ _)
  · exact (h.x.low.setCell (by simp; omega) _).setCell (by simp; omega) x

set_option maxRecDepth 100000 in
set_option maxHeartbeats 8000000 in
theorem with_any (l : List CT) (pa : Option Addr) (n c : Nat) (kind name : ByteArray) (v : VD) (w : World) (h : SAt w.cell? (.slice pa n c) l) (hv : LAt w.cell? v) (hT : STabs w) :
    Calls Tryz.prog 34 #[.agg #[.slice pa n c], .string kind, .string name, .agg #[.int .i64 v.kind, .int .i64 v.num, .string v.text, .slice v.ptr v.len v.cap]] w fun e w' => WithIs l kind name v e w' ∧ Below w.heap.size w w' := by
  have hW := Lib.hid (WX.start w pa n c v)
  have hS := Lib.hid h
  replace hv := Lib.hid hv
  have hT0 := Lib.hid hT
  clear h hT
  go_enter Tryz.func34, Tryz.ntmps34
  go_wp2_with fail
  generalize ((w.alloc (.cells #[.slice pa n c] 24)).alloc (.cells #[.int .i64 v.kind, .int .i64 v.num, .string v.text, .slice v.ptr v.len v.cap] 51)).alloc (.cells #[.slice none 0 0] 24) = w0 at hW ⊢
  refine (scheck_any l pa n c _ (hS.out.mono (sub_of_below hW.out.low)) (hT0.out.below hW.out.low)).mono ?_
  rintro e w1 ⟨rfl, hb⟩
  have hW1 := Lib.hid (hW.out.call hb)
  clear hb hW
  have s0 := hW1.out.s.cell 0
  have z0 := hW1.out.z.cell 0
  have y0 := hW1.out.z.free 0
  simp only [List.getElem?_toArray, List.getElem?_cons_zero] at s0 z0
  have hlz := hW1.out.low'
  by_cases hc : subS l = 0
  case neg =>
    have hcz := Lib.hid hc
    have hr := hW1.out.res (.slice none 0 0)
    go_wp2
    refine bodyPost_ret (v := .tuple #[.agg #[.slice none 0 0], .int .i64 (subS l)]) (by simp [results, Tryz.results34, go_sem, hr]) rfl ?_
    exact ⟨with_err (withS_check hcz.out), hW1.out.low.setCell (by simp; omega) _⟩
  rw [hc]
  replace hc := Lib.hid hc
  go_wp2_with fail
  refine (index_any kind pa n c l _ (hS.out.mono (sub_of_below hW1.out.low)).rows).mono ?_
  rintro e w2 ⟨⟨q, rfl, hq⟩, hb⟩
  have hW2 := Lib.hid (hW1.out.call hb)
  clear hb hW1 s0 z0 y0 hlz
  have s0 := hW2.out.s.cell 0
  have z0 := hW2.out.z.cell 0
  have y0 := hW2.out.z.free 0
  simp only [List.getElem?_toArray, List.getElem?_cons_zero] at s0 z0
  have hlz := hW2.out.low'
  rcases hq with ⟨k, hk, rfl, hf⟩ | ⟨rfl, hf⟩
  case inr =>
    replace hf := Lib.hid hf
    have hr := hW2.out.res (.slice none 0 0)
    go_wp2
    refine bodyPost_ret (v := .tuple #[.agg #[.slice none 0 0], .int .i64 11]) (by simp [results, Tryz.results34, go_sem, hr]) rfl ?_
    exact ⟨with_err (withS_none hc.out hf.out), hW2.out.low.setCell (by simp; omega) _⟩
  replace hf := Lib.hid hf
  have hk' := Lib.hid hk
  have hkn : ¬ ((k : Int) < 0) := by omega
  go_wp2_with fail
  refine (text.key_any name _ (hT0.out.below hW2.out.low).space).mono ?_
  rintro e w3 ⟨rfl, hb⟩
  have hW3 := Lib.hid (hW2.out.call hb)
  clear hb hW2 s0 z0 y0 hlz
  have s0 := hW3.out.s.cell 0
  have z0 := hW3.out.z.cell 0
  have y0 := hW3.out.z.free 0
  simp only [List.getElem?_toArray, List.getElem?_cons_zero] at s0 z0
  have hlz := hW3.out.low'
  obtain ⟨bk, hbk⟩ : ∃ b, b = keyS name.data.toList := ⟨_, rfl⟩
  rw [← hbk]
  by_cases hbad : keyS name.data.toList = false ∨ (name.data.toList == [107, 101, 121]) = true
  case pos =>
    have hbd := Lib.hid hbad
    have hr := hW3.out.res (.slice none 0 0)
    cases bk with
    | false =>
      clear hbk hbad
      go_wp2
      refine bodyPost_ret (v := .tuple #[.agg #[.slice none 0 0], .int .i64 6]) (by simp [results, Tryz.results34, go_sem, hr]) rfl ?_
      exact ⟨with_err (withS_key hc.out hf.out hbd.out), hW3.out.low.setCell (by simp; omega) _⟩
    | true =>
      have hn := key_no (hbad.resolve_left (by rw [← hbk]; simp))
      clear hbk hbad
      go_wp2
      refine bodyPost_ret (v := .tuple #[.agg #[.slice none 0 0], .int .i64 6]) (by simp [results, Tryz.results34, go_sem, hr]) rfl ?_
      exact ⟨with_err (withS_key hc.out hf.out hbd.out), hW3.out.low.setCell (by simp; omega) _⟩
  have hbd := Lib.hid hbad
  have hn := key_no (b := false) (by cases hx : (name.data.toList == [107, 101, 121]) with | false => rfl | true => exact absurd (Or.inr hx) hbad)
  obtain rfl : bk = true := by cases hb : bk with | true => rfl | false => exact absurd (Or.inl (by rw [← hbk, hb])) hbad
  clear hbk hbad
  obtain ⟨v0, v1, v2, v3, -, -, -, -⟩ := own4z hW3.out.v
  go_wp2_with fail
  refine (vcheck_any v _ (hv.out.mono (sub_of_below hW3.out.low)) (hT0.out.below hW3.out.low).tabs).mono ?_
  rintro e w4 ⟨rfl, hb⟩
  have hW4 := Lib.hid (hW3.out.call hb)
  clear hb hW3 s0 z0 y0 hlz v0 v1 v2 v3 hn
  have s0 := hW4.out.s.cell 0
  have z0 := hW4.out.z.cell 0
  have y0 := hW4.out.z.free 0
  simp only [List.getElem?_toArray, List.getElem?_cons_zero] at s0 z0
  have hlz := hW4.out.low'
  by_cases hcv : checkS (vv v) = 0
  case neg =>
    have hcz := Lib.hid hcv
    have hr := hW4.out.res (.slice none 0 0)
    go_wp2
    refine bodyPost_ret (v := .tuple #[.agg #[.slice none 0 0], .int .i64 (checkS (vv v))]) (by simp [results, Tryz.results34, go_sem, hr]) rfl ?_
    exact ⟨with_err (withS_val hc.out hf.out hbd.out hcz.out), hW4.out.low.setCell (by simp; omega) _⟩
  rw [hcv]
  replace hcv := Lib.hid hcv
  go_wp2_with fail
  have hasc := Lib.hid (subS_asc hc.out)
  refine (clone_subject2 k l pa n c _ (hS.out.mono (sub_of_below hW4.out.low)) (by have := hasc.out.2.2; omega) (fun d hd => by have := (attrS_asc (hasc.out.2.1 d hd)).2; omega)).mono ?_
  rintro e w5 ⟨⟨B, g, l', hB, rfl, hal, hown, hpar⟩, hb⟩
  have hW5 := Lib.hid (hW4.out.call hb)
  have hBl : w.heap.size + 1 + 1 < B := by have := hW4.out.low'; omega
  rw [← hal.1]
  have hBw : B < w5.heap.size := (hown.lt B rfl).2
  rw [← hal.1] at hown
  have hkl : k < l'.length := by rw [hal.1]; exact hk'.out
  have hY0 := Lib.hid (show WY w (w5.alloc (.cells #[.slice (some ⟨B, 0, none⟩) l'.length l'.length] 24)) pa n c v w5.heap.size B g k l' from ⟨hW5.out.call ((Below.refl _ _).alloc (Nat.le_refl _) _), Own.new _ _ _, hown.kept (World.grownBy_alloc w5 _ none) (Or.inr (by intro e; cases e)), hpar.grown (World.grownBy_alloc w5 _ none) (fun x hx => by cases hx), hBl, ((hpar.kth _ (List.getElem?_eq_getElem hkl)).1), (hpar.lt (by omega))⟩)
  have hY5 : WY w (w5.alloc (.cells #[.slice (some ⟨B, 0, none⟩) l'.length l'.length] 24)) pa n c v w5.heap.size B g k l' := hY0.out
  obtain ⟨ck, hck⟩ : ∃ ck, l'[k]? = some ck := ⟨_, List.getElem?_eq_getElem hkl⟩
  have hsk := hal.2 k hkl hk'.out
  rw [show l'[k] = ck from (List.getElem?_eq_some_iff.1 hck).2] at hsk
  obtain ⟨kd, ky, pp, m, m', at'⟩ := ck
  have hsa := hsk.2.2
  simp only at hsa
  have hasl := attrS_asc (hasc.out.2.1 l[k] (List.getElem_mem hk'.out))
  have has' := Lib.hid (asc_alike hsa hasl.1)
  have hal20 : at'.length ≤ 20 := by rw [hsa.1]; exact hasl.2
  obtain ⟨c2, hR5, -⟩ := hY5.ctx hck
  replace hck := Lib.hid hck
  replace hsk := Lib.hid hsk
  replace hsa := Lib.hid hsa
  replace hR5 := Lib.hid hR5
  have n0 : (0 : Int) ≤ (k : Int) := by omega
  have n1 : (k : Int) < (l'.length : Int) := by omega
  replace hal := Lib.hid hal
  clear hb hW4 s0 z0 y0 hlz hY5 hown hpar hW5 hasl
  go_wp2_with fail
  refine (bsearch_any at' _ _ _ name _ hR5.out has'.out (by omega)).mono ?_
  rintro e w6 ⟨rfl, hb⟩
  have hY6 := Lib.hid (hY0.out.call hb)
  clear hb hY0 hR5 c2
  generalize w5.heap.size = G at hY6 ⊢
  obtain ⟨v0, v1, v2, v3, -, -, -, -⟩ := own4z hY6.out.x.v
  go_wp2_with fail
  refine (clone_value v _ (hv.out.mono (sub_of_below hY6.out.x.low))).mono ?_
  rintro e w7 ⟨⟨v', rfl, hsv, hlv⟩, hb⟩
  have hY7 := Lib.hid (hY6.out.call hb)
  have hsz6 := hb.size
  have hBG : B < w6.heap.size := (hY6.out.row.lt B rfl).2
  have hgl : g < w6.heap.size := hY6.out.par.lt (by omega)
  clear hb v0 v1 v2 v3 hY6
  replace hsv := Lib.hid hsv
  replace hlv := Lib.hid hlv
  have hB8 : Below w7.heap.size w7 (w7.alloc (.cells #[.string name, .int .i64 v'.kind, .int .i64 v'.num, .string v'.text, .slice v'.ptr v'.len v'.cap] 79)) := (Below.refl _ _).alloc (Nat.le_refl _) _
  have hY8 := Lib.hid (hY7.out.call hB8)
  obtain ⟨b0, b1, b2, b3, b4⟩ := own5z (Own.new w7 #[.string name, .int .i64 v'.kind, .int .i64 v'.num, .string v'.text, .slice v'.ptr v'.len v'.cap] 79)
  have hlv8 := Lib.hid (hlv.out.mono (newM_grown (grown_of_below hB8 (some 0))))
  clear hB8 hY7 hlv
  have hsz7 : w7.heap.size < (w7.alloc (.cells #[.string name, .int .i64 v'.kind, .int .i64 v'.num, .string v'.text, .slice v'.ptr v'.len v'.cap] 79)).heap.size := by simp
  have o0 := hY8.out.o.cell 0
  have z0 := hY8.out.x.z.cell 0
  have y0 := hY8.out.x.z.free 0
  simp only [List.getElem?_toArray, List.getElem?_cons_zero] at o0 z0
  have hlt := hY8.out.lt
  have hlow := hY8.out.low
  have hGl := hY8.out.o.lt
  obtain ⟨hc2, hR8, hcf⟩ := hY8.out.ctx hck.out
  have hO8 := (hY8.out.par.kth _ hck.out).2
  go_upto_region 17 with fail
  generalize w7.alloc (.cells #[.string name, .int .i64 v'.kind, .int .i64 v'.num, .string v'.text, .slice v'.ptr v'.len v'.cap] 79) = w8 at *
  cases hfd : hasAt name.data.toList at' (posA name.data.toList at')
  case true =>
    have hpl : posA name.data.toList at' < at'.length := Nat.lt_of_not_le fun e => by rw [hasAt_out (by omega)] at hfd; cases hfd
    have hset := Lib.hid (insA_set (a := ⟨name, v'⟩) hfd)
    simp only at hset
    generalize posA name.data.toList at' = p at hpl hset hfd ⊢
    obtain ⟨blk, off, e, v0, v1, v2, v3, v4⟩ := ad_at hR8 hpl
    injection e with e
    injection e with e1 e2
    subst e1
    subst e2
    simp only [Nat.zero_add] at v0 v1 v2 v3 v4
    have f0 := hO8.free (p * 5)
    have f1 := hO8.free (p * 5 + 1)
    have f2 := hO8.free (p * 5 + 2)
    have f3 := hO8.free (p * 5 + 3)
    have f4 := hO8.free (p * 5 + 4)
    have n2 : (0 : Int) ≤ (p : Int) := by omega
    have n3 : (p : Int) < (at'.length : Int) := by omega
    have q1 : ¬ g = G := by omega
    have q2 : ¬ G = g := by omega
    have q3 : ¬ g = w.heap.size + 1 + 1 := by omega
    have q4 : ¬ w.heap.size + 1 + 1 = g := by omega
    replace hR8 := Lib.hid hR8
    replace hO8 := Lib.hid hO8
    clear hfd hc2 hcf
    generalize at'[p] = ap at *
    go_wp2
    obtain ⟨u, hu, hin, hout, hgu⟩ := set5 (x0 := .string name) (x1 := .int .i64 v'.kind) (x2 := .int .i64 v'.num) (x3 := .string v'.text) (x4 := .slice v'.ptr v'.len v'.cap) v0 v1 v2 v3 v4
    rw [← hu]
    have hr : (u.setCell ⟨w.heap.size + 1 + 1, 0, none⟩ (.slice (some ⟨B, 0, none⟩) l'.length l'.length)).cell? ⟨w.heap.size + 1 + 1, 0, none⟩ = some (.slice (some ⟨B, 0, none⟩) l'.length l'.length) := World.cell?_setCell_same _ _ _ (hgu.cell z0 (by simp; omega))
    refine bodyPost_ret (v := .tuple #[.agg #[.slice (some ⟨B, 0, none⟩) l'.length l'.length], .int .i64 0]) (by simp [results, Tryz.results34, go_sem, hr]) rfl ?_
    obtain ⟨p1, p2⟩ := hY8.out.place (name := name) (v' := v') (p := p) (E := w6.heap.size) hck.out hin hout hgu hgl hlv8.out (.slice (some ⟨B, 0, none⟩) l'.length l'.length)
    have hws := with_same (p2 := pp) (n2 := m) (c2 := m') hk'.out hc.out hf.out hbd.out hcv.out hal.out hck.out hsv.out (by rw [hset.out, List.length_set]; omega)
    rw [hset.out] at hws
    exact ⟨⟨some ⟨B, 0, none⟩, l'.length, l'.length, _, by rw [hws.1], hws.2, p1⟩, p2⟩
  case false =>
    have hin := Lib.hid (insA_new (a := ⟨name, v'⟩) hfd)
    simp only at hin
    have hpl := posA_le name.data.toList at'
    have hmany := Lib.hid (fun (h : at'.length = 20) => show 20 < (insA ⟨name, v⟩ (l[k]'hk'.out).attrs).length from by have := insA_len_alike (name := name) (v := v) hsa.out hfd; omega)
    generalize posA name.data.toList at' = p at hpl hin hfd ⊢
    by_cases h20 : at'.length = 20
    case pos =>
      have hr := hY8.out.x.res (.slice none 0 0)
      have h20' := Lib.hid h20
      rw [h20]
      go_wp2
      refine bodyPost_ret (v := .tuple #[.agg #[.slice none 0 0], .int .i64 5]) (by simp [results, Tryz.results34, go_sem, hr]) rfl ?_
      exact ⟨with_err (withS_many hc.out hf.out hbd.out hcv.out (hmany.out h20'.out)), hY8.out.x.low.setCell (by simp; omega) _⟩
    have h20' : ¬ ((at'.length : Int) = 20) := by omega
    have hBd : Below w8.heap.size w8 (w8.drew.alloc (.cells #[.string name, .int .i64 v'.kind, .int .i64 v'.num, .string v'.text, .slice v'.ptr v'.len v'.cap] 79)) := (show Below w8.heap.size w8 w8.drew from ⟨rfl, rfl, rfl, Nat.le_refl _, fun _ _ => rfl⟩).alloc (Nat.le_refl _) _
    have hR9 := Lib.hid (hR8.mono (sub_of_below hBd))
    have hY9 := Lib.hid (hY8.out.call hBd)
    have hlv9 := Lib.hid (hlv8.out.mono (newM_grown (grown_of_below hBd (some 0))))
    have hv9 := Lib.hid (show ∀ j u, (AD.row ⟨name, v'⟩)[j]? = some u → (w8.drew.alloc (.cells #[.string name, .int .i64 v'.kind, .int .i64 v'.num, .string v'.text, .slice v'.ptr v'.len v'.cap] 79)).cell? ⟨w8.heap.size, j, none⟩ = some u from fun j u hj => by rw [← hj]; exact ((Own.new w8.drew #[.string name, .int .i64 v'.kind, .int .i64 v'.num, .string v'.text, .slice v'.ptr v'.len v'.cap] 79).cell j).trans (by simp [AD.row, VD.row]))
    clear hBd hc2 hcf
    replace hR8 := Lib.hid hR8
    replace hO8 := Lib.hid hO8
    go_wp2_with fail
    have o0d : w8.drew.cell? ⟨G, 0, none⟩ = some (.slice (some ⟨B, 0, none⟩) l'.length l'.length) := o0
    have b0d : w8.drew.cell? ⟨w7.heap.size, 0, none⟩ = some (.string name) := b0
    have b1d : w8.drew.cell? ⟨w7.heap.size, 1, none⟩ = some (.int .i64 v'.kind) := b1
    have b2d : w8.drew.cell? ⟨w7.heap.size, 2, none⟩ = some (.int .i64 v'.num) := b2
    have b3d : w8.drew.cell? ⟨w7.heap.size, 3, none⟩ = some (.string v'.text) := b3
    have b4d : w8.drew.cell? ⟨w7.heap.size, 4, none⟩ = some (.slice v'.ptr v'.len v'.cap) := b4
    have q1 : ¬ B = G := by omega
    have q2 : ¬ G = B := by omega
    have q3 : ¬ B = w.heap.size + 1 + 1 := by omega
    have q4 : ¬ w.heap.size + 1 + 1 = B := by omega
    have hg6 := Lib.hid (show B < w8.heap.size by omega)
    go_region_with ((go_at_call 78; refine (insert_any at' g p ⟨name, v'⟩ w8.heap.size _ hR9.out hpl (by omega) hv9.out).mono ?_; rintro e u1 ⟨⟨vv, rfl, hown⟩, hb⟩; obtain ⟨pv, nv, cv, rfl⟩ := owns_slice hown; have hYu := Lib.hid (hY9.out.call hb); have hlvu := Lib.hid (hlv9.out.mono (newM_grown (grown_of_below hb (some 0)))); have hownu := Lib.hid hown; clear hown hb; have o0u := hYu.out.o.cell 0; have z0u := hYu.out.x.z.cell 0; have y0u := hYu.out.x.z.free 0; simp only [List.getElem?_toArray, List.getElem?_cons_zero] at o0u z0u; obtain ⟨c2u, -, cfu⟩ := hYu.out.ctx hck.out))
    all_goals
      go_wp2
      have hr : ((u1.setCell ⟨B, k * 3 + 2, none⟩ (.slice pv nv cv)).setCell ⟨w.heap.size + 1 + 1, 0, none⟩ (.slice (some ⟨B, 0, none⟩) l'.length l'.length)).cell? ⟨w.heap.size + 1 + 1, 0, none⟩ = some (.slice (some ⟨B, 0, none⟩) l'.length l'.length) := World.cell?_setCell_same _ _ _ ((World.cell?_setCell_far _ _ _ _ (by simp; omega)).trans z0u)
      refine bodyPost_ret (v := .tuple #[.agg #[.slice (some ⟨B, 0, none⟩) l'.length l'.length], .int .i64 0]) (by simp [results, Tryz.results34, go_sem, hr]) rfl ?_
      have hLl : (at'.take p ++ AD.mk name v' :: at'.drop p).length = at'.length + 1 := by simp; omega
      have hown' := hownu.out
      rw [← hLl] at hown'
      obtain ⟨pp2, n2, c2, p1, p2⟩ := hYu.out.fresh (E2 := w6.heap.size) hck.out hown' (by have := hg6.out; simp [World.size_alloc]; omega) (fun a ha => by
        rcases List.mem_append.1 ha with ha | ha
        · exact Or.inl (List.mem_of_mem_take ha)
        · rcases List.mem_cons.1 ha with rfl | ha
          · exact Or.inr rfl
          · exact Or.inl (List.mem_of_mem_drop ha)) hBG hlvu.out (.slice (some ⟨B, 0, none⟩) l'.length l'.length)
      have hws := with_same (p2 := pp2) (n2 := n2) (c2 := c2) hk'.out hc.out hf.out hbd.out hcv.out hal.out hck.out hsv.out (by rw [hin.out, hLl]; omega)
      rw [hin.out] at hws
      exact ⟨⟨some ⟨B, 0, none⟩, l'.length, l'.length, _, by rw [hws.1], hws.2, p1⟩, p2⟩

end Go.Proofs.YtamkmdlfhlbbeaaGreatDoor.subj

