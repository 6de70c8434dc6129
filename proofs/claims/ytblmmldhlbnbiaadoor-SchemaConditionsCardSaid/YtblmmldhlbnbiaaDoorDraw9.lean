/- A changed condition: what the change holds on its way. -/
import Derived.Test.YtblmmldhlbnbiaaDoorDraw8
import Derived.Test.YtblmmldhlbnbiaaDoorDraw6
import Derived.Laws.IdiomCopy
import Derived.Laws.OwnMore
namespace Go.Proofs.YtblmmldhlbnbiaaDoor.draw
open Go.RowKit Go.Proofs.YtblmmldhlbnbiaaDoor.schema

/-- The codes, the parameter's box, the result's box, and the memory that is done. -/
structure CX (w u : World) (b : Nat) (a : Option Addr) (n c : Nat) (A : Array Value) (M0 M : Mem) : Prop where
  head : Head b a n c u
  grown : w.grownBy u (some b)
  br : b < w.heap.size
  box : Own u w.heap.size A 26
  res : Own u (w.heap.size + 1) zeroE 26
  sub0 : Sub M0 w.cell?
  ext : Ext M0 M (w.heap.size + 2)
  sub : Sub M u.cell?
  off : Off b M
theorem CX.start {w : World} {b : Nat} {a : Option Addr} {n c : Nat} {M : Mem} (h : Codes b a n c w) (hM : Sub M w.cell?) (ho : Off b M) (A : Array Value) :
    CX w ((w.alloc (.cells A 26)).alloc (.cells zeroE 26)) b a n c A M M := by
  have h2 := Own.new (w.alloc (.cells A 26)) zeroE 26
  rw [show (w.alloc (.cells A 26)).heap.size = w.heap.size + 1 by simp] at h2
  exact ⟨(h.1.alloc _).alloc _, g_alloc (g_alloc (grown_refl _ _) _) _, h.lt, (Own.new w A _).alloc _, h2, hM, Ext.refl _ _, sub_alloc (sub_alloc hM _) _, ho⟩
theorem CX.size {w u : World} {b : Nat} {a : Option Addr} {n c : Nat} {A : Array Value} {M0 M : Mem} (h : CX w u b a n c A M0 M) : w.heap.size + 2 ≤ u.heap.size := h.res.lt
theorem CX.offs {w u : World} {b : Nat} {a : Option Addr} {n c : Nat} {A : Array Value} {M0 M : Mem} (h : CX w u b a n c A M0 M) {k : Nat} (h1 : w.heap.size ≤ k) (h2 : k < w.heap.size + 2) : Off k M := (off_new h.sub0 h1).ext h.ext h2
theorem CX.codes {w u : World} {b : Nat} {a : Option Addr} {n c : Nat} {A : Array Value} {M0 M : Mem} (h : CX w u b a n c A M0 M) (hC : Codes b a n c w) : Codes b a n c u := hC.still h.grown h.head
theorem CX.glob {w u : World} {b : Nat} {a : Option Addr} {n c : Nat} {A : Array Value} {M0 M : Mem} (h : CX w u b a n c A M0 M) (hg : Glob (but b w)) : Glob (but b u) := hg.mono (sub_of_grown h.grown)
theorem CX.call {w u x : World} {b : Nat} {a : Option Addr} {n c : Nat} {A : Array Value} {M0 M : Mem} (h : CX w u b a n c A M0 M) (hG : u.grownBy x (some b)) (hH : Head b a n c x) : CX w x b a n c A M0 M :=
  ⟨hH, g_call h.grown hG, h.br, h.box.kept hG (by have := h.br; simp; omega), h.res.kept hG (by have := h.br; simp; omega), h.sub0, h.ext, sub_grow h.sub hG (fun k e => by injection e with e; subst e; exact h.off), h.off⟩
theorem CX.alloc {w u : World} {b : Nat} {a : Option Addr} {n c : Nat} {A : Array Value} {M0 M : Mem} (h : CX w u b a n c A M0 M) (o : Obj) : CX w (u.alloc o) b a n c A M0 M := h.call (World.grownBy_alloc u o _) (h.head.alloc o)
theorem CX.set {w u : World} {b : Nat} {a : Option Addr} {n c : Nat} {A : Array Value} {M0 M : Mem} (h : CX w u b a n c A M0 M) (i : Nat) (v : Value) : CX w (u.setCell ⟨w.heap.size, i, none⟩ v) b a n c (A.setIfInBounds i v) M0 M :=
  ⟨h.head.set (by have := h.br; simp; omega) _, g_setCell h.grown (by simp) _, h.br, h.box.set i v, h.res.setOther (by simp) _, h.sub0, h.ext, sub_setCell h.sub (h.offs (Nat.le_refl _) (by simp)) _, h.off⟩
/-- A row of the call's own is appended to. -/
theorem CX.grow {w u x : World} {b : Nat} {a : Option Addr} {n c : Nat} {A : Array Value} {M0 M : Mem} (h : CX w u b a n c A M0 M) {r : Option Nat} (hG : u.grownBy x r) (hr : ∀ k, r = some k → w.heap.size + 2 ≤ k ∧ Off k M) : CX w x b a n c A M0 M := by
  have hne : ∀ k, k < w.heap.size + 2 → r ≠ some k := fun k hk e => by have := (hr k e).1; omega
  have hb := h.br
  refine ⟨h.head.kept hG (hne b (by omega)), ?_, hb, h.box.kept hG (hne _ (by omega)), h.res.kept hG (hne _ (by omega)), h.sub0, h.ext, sub_grow h.sub hG (fun k e => (hr k e).2), h.off⟩
  exact g_own h.grown hG (fun i e => by have := (hr i e).1; omega)
/-- What a callee has made besides. -/
theorem CX.join {w u x : World} {b : Nat} {a : Option Addr} {n c : Nat} {A : Array Value} {M0 M : Mem} (h : CX w u b a n c A M0 M) (hG : u.grownBy x (some b)) (hH : Head b a n c x) : CX w x b a n c A M0 (joinN M u.heap.size b x) := by
  have h1 := h.call hG hH
  exact ⟨h1.head, h1.grown, h1.br, h1.box, h1.res, h1.sub0, h.ext.trans (joinN_ext h1.sub) h.size, joinN_sub h1.sub, joinN_off h.off⟩
/-- A block that is done. -/
theorem CX.block {w u : World} {b : Nat} {a : Option Addr} {n c : Nat} {A : Array Value} {M0 M : Mem} (h : CX w u b a n c A M0 M) {g : Nat} (hg : w.heap.size + 2 ≤ g) (ho : Off g M) : CX w u b a n c A M0 (addB M g u) :=
  ⟨h.head, h.grown, h.br, h.box, h.res, h.sub0, h.ext.trans (addB_ext ho hg) (Nat.le_refl _), addB_sub h.sub, addB_off h.off (by have := h.br; omega)⟩
/-- A memory that a callee has extended. -/
theorem CX.extend {w u x : World} {b : Nat} {a : Option Addr} {n c : Nat} {A : Array Value} {M0 M M' : Mem} (h : CX w u b a n c A M0 M) (hG : u.grownBy x (some b)) (hH : Head b a n c x) (he : Ext M M' u.heap.size) (hs : Sub M' x.cell?) (ho : Off b M') : CX w x b a n c A M0 M' := by
  have h1 := h.call hG hH
  exact ⟨h1.head, h1.grown, h1.br, h1.box, h1.res, h1.sub0, h.ext.trans he h.size, hs, ho⟩
/-- The end. -/
theorem CX.done {w u : World} {b : Nat} {a : Option Addr} {n c : Nat} {A : Array Value} {M0 M : Mem} (h : CX w u b a n c A M0 M) {d : ED} {op : Int} {kind name : ByteArray} {va : Option Addr} {vn vc : Nat} {ka : Option Addr} {kn kc : Nat}
    (hE : EAt M d [.int .i64 op, .string kind, .string name, .slice va vn vc, .slice ka kn kc]) (x0 x1 x2 x3 x4 : Value) :
    Drawn b a n c w (fun e w' => CondIs M0 b w e w') (.returned (.agg #[.int .i64 op, .string kind, .string name, .slice va vn vc, .slice ka kn kc]))
      (((((u.setCell ⟨w.heap.size + 1, 0, none⟩ x0).setCell ⟨w.heap.size + 1, 1, none⟩ x1).setCell ⟨w.heap.size + 1, 2, none⟩ x2).setCell ⟨w.heap.size + 1, 3, none⟩ x3).setCell ⟨w.heap.size + 1, 4, none⟩ x4) := by
  have hb := h.br
  have ho : Off (w.heap.size + 1) M := h.offs (by omega) (by omega)
  refine ⟨⟨M, d, op, kind, name, va, vn, vc, ka, kn, kc, rfl, h.ext.low (by omega), ?_, h.off, hE⟩, ?_, ?_⟩
  · exact sub_setCell (sub_setCell (sub_setCell (sub_setCell (sub_setCell h.sub ho _) ho _) ho _) ho _) ho _
  · exact (Head.set (Head.set (Head.set (Head.set (Head.set h.head (by simp <;> omega) _) (by simp <;> omega) _) (by simp <;> omega) _) (by simp <;> omega) _) (by simp <;> omega) _)
  · exact (g_setCell (g_setCell (g_setCell (g_setCell (g_setCell h.grown (by simp <;> omega) _) (by simp <;> omega) _) (by simp <;> omega) _) (by simp <;> omega) _) (by simp <;> omega) _)

/-- One row of five cells is stored. -/
theorem rows_put {w : World} {g n cap : Nat} {rows : List (List Value)} (h : RowsAt w.cell? 5 (.slice (some ⟨g, 0, none⟩) n cap) rows) (hs : ∀ r ∈ rows, r.length = 5) {k : Nat} (hk : k < n) (y0 y1 y2 y3 y4 : Value) :
    RowsAt (w.setCells g (k * 5) [y0, y1, y2, y3, y4]).cell? 5 (.slice (some ⟨g, 0, none⟩) n cap) (rows.set k [y0, y1, y2, y3, y4]) := by
  obtain ⟨hl, hc, hm⟩ := rows_len h
  obtain ⟨a, c, h1, -, -, h4⟩ := h
  injection h1 with h5 h6 h7
  subst h5; subst h7
  rcases h4 with h4 | ⟨blk, off, h8, h9⟩
  · rw [h4] at hl; simp at hl; omega
  injection h8 with h8
  injection h8 with h10 h11
  subst h10; subst h11
  refine ⟨some ⟨g, 0, none⟩, cap, by simp [hl], by simpa [hl] using hc, hm, Or.inr ⟨g, 0, rfl, fun i r hi j x hx => ?_⟩⟩
  have hcell : ∀ i, i < n → ∀ j, j < 5 → ∃ v, (rows[i]?.getD [])[j]? = some v ∧ w.cell? ⟨g, i * 5 + j, none⟩ = some v := by
    intro i hi j hj
    have e1 : rows[i]? = some (rows[i]'(by omega)) := List.getElem?_eq_getElem (by omega)
    have e2 : (rows[i]'(by omega)).length = 5 := hs _ (List.getElem_mem _)
    have e3 : (rows[i]'(by omega))[j]? = some ((rows[i]'(by omega))[j]'(by omega)) := List.getElem?_eq_getElem (by omega)
    refine ⟨_, by rw [e1]; exact e3, ?_⟩
    have := h9 i _ e1 j _ e3
    rw [Nat.zero_add] at this
    exact this
  rw [Nat.zero_add]
  have hin : i < n := by have := (List.getElem?_eq_some_iff.1 hi).1; simp at this; omega
  by_cases e : i = k
  · subst e
    rw [List.getElem?_set_self (by omega)] at hi
    obtain rfl : [y0, y1, y2, y3, y4] = r := Option.some.inj hi
    have hj : j < 5 := (List.getElem?_eq_some_iff.1 hx).1
    have := World.cell?_setCells_in g [y0, y1, y2, y3, y4] (i * 5) w (fun j hj => by obtain ⟨v, -, hv⟩ := hcell i hin j (by simpa using hj); rw [hv]; rfl) j (by simpa using hj)
    rw [List.getElem?_eq_getElem (show j < [y0, y1, y2, y3, y4].length by simpa using hj)] at hx
    exact this.trans hx
  · rw [List.getElem?_set_ne (fun h => e h.symm)] at hi
    have hj : j < 5 := by have := (List.getElem?_eq_some_iff.1 hx).1; rw [hs r (List.mem_of_getElem? hi)] at this; exact this
    rw [World.cell?_setCells_out g _ _ _ _ (fun _ _ => by simp only [List.length_cons, List.length_nil]; omega)]
    have := h9 i r hi j x hx
    rw [Nat.zero_add] at this
    exact this
theorem sub_setCells {M : Mem} {g : Nat} (ho : Off g M) : ∀ (vs : List Value) (o : Nat) (u : World), Sub M u.cell? → Sub M (u.setCells g o vs).cell?
  | [], _, _, h => h
  | v :: r, o, _, h => sub_setCells ho r (o + 1) _ (sub_setCell h ho v)

end Go.Proofs.YtblmmldhlbnbiaaDoor.draw
