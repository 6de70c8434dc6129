/- Drawn conditions: words on memory that a loop of appends does not touch; what a drawn condition is. A changed condition: what the change holds on its way. -/
import Derived.Test.YtlohdmghaeabjaaGreatDoorKDraw5
import Derived.Test.YtlohdmghaeabjaaGreatDoorKJ6
import Derived.Laws.IdiomCopy
import Derived.Laws.OwnMore
namespace Go.Proofs.YtlohdmghaeabjaaGreatDoor.draw
open Go.RowKit Go.Proofs.YtlohdmghaeabjaaGreatDoor.schema

/- No list in a condition has more than N elements. -/
mutual
def smallE (N : Nat) : ED → Prop
  | .mk op _ _ vals kids => vals.length ≤ N ∧ kids.length ≤ N ∧ (op = 4 → 0 < kids.length) ∧ smallL N kids
def smallL (N : Nat) : List ED → Prop
  | [] => True
  | k :: r => smallE N k ∧ smallL N r
end
/- How deep a condition is. -/
mutual
def depE : ED → Nat
  | .mk _ _ _ _ ks => depL ks
def depL : List ED → Nat
  | [] => 0
  | k :: r => max (depE k + 1) (depL r)
end
def Fine (segs : List ByteArray) (D : Nat) (d : ED) : Prop := exprS declD segs d = 0 ∧ smallE 4 d ∧ depE d ≤ D
def FineL (segs : List ByteArray) (D : Nat) (l : List ED) : Prop := exprL declD segs l = 0 ∧ smallL 4 l ∧ depL l ≤ D
theorem Fine.up {segs : List ByteArray} {D D' : Nat} {d : ED} (h : Fine segs D d) (hD : D ≤ D') : Fine segs D' d := ⟨h.1, h.2.1, Nat.le_trans h.2.2 hD⟩
def DL (levels : Int) : Nat := 2 * (levels - 1).toNat
theorem dl_one {levels : Int} (h : 1 < levels) : DL (levels - 1) + 1 ≤ DL levels := by unfold DL; omega
theorem dl_two {levels : Int} (h : 1 < levels) : DL (levels - 1) + 2 ≤ DL levels := by unfold DL; omega

/-- What a drawn condition is: data that fits the declared attributes and the segments, in new memory. -/
def ExprIs (B b : Nat) (segs : List ByteArray) (D : Nat) (e : Ending) (w' : World) : Prop :=
  ∃ (d : ED) (op : Int) (kind name : ByteArray) (va : Option Addr) (vn vc : Nat) (ka : Option Addr) (kn kc : Nat), e = .returned (.agg #[.int .i64 op, .string kind, .string name, .slice va vn vc, .slice ka kn kc]) ∧
    EAt (newM B b w') d [.int .i64 op, .string kind, .string name, .slice va vn vc, .slice ka kn kc] ∧ Fine segs D d

/-- What is known while a condition is made: the codes; the box r of the result. -/
structure XI (w u : World) (b : Nat) (a : Option Addr) (n c r : Nat) : Prop where
  head : Head b a n c u
  grown : w.grownBy u (some b)
  ownR : Own u r zeroE 29
  br : b < w.heap.size
  rw : w.heap.size ≤ r
theorem XI.call {w u x : World} {b : Nat} {a : Option Addr} {n c r : Nat} (h : XI w u b a n c r) (hG : u.grownBy x (some b)) (hH : Head b a n c x) : XI w x b a n c r := by
  obtain ⟨h1, h2, h3, h4, h5⟩ := h
  exact ⟨hH, g_call h2 hG, h3.kept hG (by simp; omega), h4, h5⟩
theorem XI.alloc {w u : World} {b : Nat} {a : Option Addr} {n c r : Nat} (h : XI w u b a n c r) (o : Obj) : XI w (u.alloc o) b a n c r := h.call (World.grownBy_alloc u o _) (h.head.alloc o)
theorem XI.codes {w u : World} {b : Nat} {a : Option Addr} {n c r : Nat} (h : XI w u b a n c r) (hC : Codes b a n c w) : Codes b a n c u := hC.still h.grown h.head
theorem XI.glob {w u : World} {b : Nat} {a : Option Addr} {n c r : Nat} (h : XI w u b a n c r) (hg : Glob (but b w)) : Glob (but b u) := hg.mono (sub_of_grown h.grown)
theorem XI.segs {w u : World} {b : Nat} {a : Option Addr} {n c r : Nat} (h : XI w u b a n c r) {sv : Value} {segs : List ByteArray} (hs : RowsAt (but b w) 1 sv (segs.map strRow)) : RowsAt (but b u) 1 sv (segs.map strRow) := hs.mono (sub_of_grown h.grown)

theorem hasS_self {l : List ByteArray} {k : Nat} (h : k < l.length) : hasS l[k].toList l = true := by
  induction l generalizing k with
  | nil => simp at h
  | cons x r ih =>
    cases k with
    | zero => simp [hasS]
    | succ k => rw [hasS, List.getElem_cons_succ, ih (by simpa using h)]; simp
theorem eat_true (m : Mem) : EAt m (.mk 1 ⟨#[]⟩ ⟨#[]⟩ [] []) [.int .i64 1, .string ⟨#[]⟩, .string ⟨#[]⟩, .slice none 0 0, .slice none 0 0] :=
  EAt.mk [] (rows_nil _ _) (rows_nil _ _) rfl (fun v hv => by cases hv) (fun i r k hi => by simp at hi)
theorem eat_seg (m : Mem) (s : ByteArray) : EAt m (.mk 5 ⟨#[]⟩ s [] []) [.int .i64 5, .string ⟨#[]⟩, .string s, .slice none 0 0, .slice none 0 0] :=
  EAt.mk [] (rows_nil _ _) (rows_nil _ _) rfl (fun v hv => by cases hv) (fun i r k hi => by simp at hi)
theorem eat_test {m : Mem} {op : Int} {kind name : ByteArray} {l : List VD} {v : Value} (h : RowsAt m 4 v (l.map VD.row)) (hL : ∀ v ∈ l, LAt m v) : EAt m (.mk op kind name l []) [.int .i64 op, .string kind, .string name, v, .slice none 0 0] :=
  EAt.mk [] h (rows_nil _ _) rfl hL (fun i r k hi => by simp at hi)
theorem eat_not {m : Mem} {d : ED} {r : List Value} {v : Value} (h : RowsAt m 5 v [r]) (hE : EAt m d r) : EAt m (.mk 4 ⟨#[]⟩ ⟨#[]⟩ [] [d]) [.int .i64 4, .string ⟨#[]⟩, .string ⟨#[]⟩, .slice none 0 0, v] :=
  EAt.mk [r] (rows_nil _ _) h rfl (fun v hv => by cases hv) (fun i r' k hi hk => by
    cases i with
    | zero => simp at hi hk; subst hi; subst hk; exact hE
    | succ i => simp at hi)
theorem s_true (segs : List ByteArray) (D : Nat) : Fine segs D (.mk 1 ⟨#[]⟩ ⟨#[]⟩ [] []) := by simp [Fine, exprS, hereS, exprL, smallE, smallL, depE, depL]
theorem s_seg {segs : List ByteArray} {D k : Nat} (h : k < segs.length) : Fine segs D (.mk 5 ⟨#[]⟩ segs[k] [] []) := by simp [Fine, exprS, hereS, exprL, hasS_self h, smallE, smallL, depE, depL]
theorem s_test {segs : List ByteArray} {D : Nat} {op : Int} {kind name : ByteArray} {l : List VD} (h : TestFits op kind name l) : Fine segs D (.mk op kind name l []) := by
  have h4 := h.2.2.2
  have h0 : op ≠ 4 := by have := h.1; omega
  simp [Fine, exprS, h.2.2.1 segs, exprL, smallE, smallL, h4, h0, depE, depL]
theorem s_not {segs : List ByteArray} {D : Nat} {d : ED} (h : Fine segs D d) : Fine segs (D + 1) (.mk 4 ⟨#[]⟩ ⟨#[]⟩ [] [d]) := by
  have h2 := h.2.2
  simp [Fine, exprS, hereS, exprL, smallE, smallL, h.1, h.2.1, depE, depL]
  omega
theorem s_conj {segs : List ByteArray} {D : Nat} {op : Int} {l : List ED} (ho : op = 2 ∨ op = 3) (hl : l.length ≤ 4) (h : FineL segs D l) : Fine segs D (.mk op ⟨#[]⟩ ⟨#[]⟩ [] l) := by
  have h2 := h.2.2
  rcases ho with rfl | rfl <;> simp [Fine, exprS, hereS, h.1, smallE, h.2.1, hl, depE, h2]
theorem smallL_snoc {N : Nat} {l : List ED} {d : ED} (h : smallL N l) (hd : smallE N d) : smallL N (l ++ [d]) := by
  induction l with
  | nil => exact ⟨hd, trivial⟩
  | cons x r ih => exact ⟨h.1, ih h.2⟩
theorem exprL_snoc {decl : List DD} {segs : List ByteArray} {l : List ED} {d : ED} (h : exprL decl segs l = 0) (hd : exprS decl segs d = 0) : exprL decl segs (l ++ [d]) = 0 := by
  induction l with
  | nil => simp [exprL, hd]
  | cons x r ih =>
    rw [exprL] at h
    split at h
    · rename_i hx
      rw [List.cons_append, exprL, if_pos hx]
      exact ih h
    · rename_i hx
      exact absurd h hx

theorem depL_snoc : ∀ (l : List ED) (d : ED), depL (l ++ [d]) = max (depL l) (depE d + 1)
  | [], d => by simp [depL]
  | x :: r, d => by rw [List.cons_append, depL, depL, depL_snoc r d]; omega
theorem fineL_snoc {segs : List ByteArray} {D D' : Nat} {l : List ED} {d : ED} (h : FineL segs D l) (hd : Fine segs D' d) (hD : D' + 1 ≤ D) : FineL segs D (l ++ [d]) :=
  ⟨exprL_snoc h.1 hd.1, smallL_snoc h.2.1 hd.2.1, by have h1 := h.2.2; have h2 := hd.2.2; rw [depL_snoc]; omega⟩
theorem fineL_nil (segs : List ByteArray) (D : Nat) : FineL segs D [] := ⟨rfl, trivial, Nat.zero_le _⟩

def exprK (op : Int) (v : Value) : Array Value := #[.int .i64 op, .string ⟨#[]⟩, .string ⟨#[]⟩, .slice none 0 0, v]
/-- The loop that draws the parts of a conjunction or a disjunction: e is its box, the parts are in a row of the call's own. -/
def RelC (w wr : World) (b : Nat) (a : Option Addr) (n c r e : Nat) (op : Int) (segs : List ByteArray) (D : Nat) (k : Nat) : Prop :=
  ∃ ka kc, ∃ (rows : List (List Value)) (kids : List ED), rows.length = k ∧ kids.length = k ∧ (∀ x ∈ rows, x.length = 5) ∧
    (∀ (i : Nat) (x : List Value) (kd : ED), rows[i]? = some x → kids[i]? = some kd → EAt (newG (e + 1) b (Value.slice ka k kc).ownBlock wr) kd x) ∧ FineL segs D kids ∧
    XI w wr b a n c r ∧ r < e ∧ Own wr e (exprK op (.slice ka k kc)) 29 ∧ wr.ownsRow (e + 1) 29 5 (.slice ka k kc) k rows.flatten

theorem relC_start {w u : World} {b : Nat} {a : Option Addr} {n c r : Nat} {op : Int} {segs : List ByteArray} {D : Nat} (h : XI w u b a n c r) : RelC w (u.alloc (.cells (exprK op (.slice none 0 0)) 29)) b a n c r u.heap.size op segs D 0 :=
  ⟨none, 0, [], [], rfl, rfl, by simp, fun i x kd hi => by simp at hi, fineL_nil segs D, h.alloc _, h.ownR.lt, Own.new u _ _, World.ownsRow_nil _ _ _ _⟩
theorem RelC.call {w u x : World} {b : Nat} {a : Option Addr} {n c r e : Nat} {op : Int} {segs : List ByteArray} {D : Nat} {k : Nat} (h : RelC w u b a n c r e op segs D k) (hG : u.grownBy x (some b)) (hH : Head b a n c x) : RelC w x b a n c r e op segs D k := by
  obtain ⟨ka, kc, rows, kids, h1, h2, h3, h4, h5, h6, h7, h8, h9⟩ := h
  have hb := h6.br
  have hr := h6.rw
  exact ⟨ka, kc, rows, kids, h1, h2, h3, fun i x kd hi hk => (h4 i x kd hi hk).mono (newG_grown hG), h5, h6.call hG hH, h7, h8.kept hG (by simp; omega), owns_kept h9 hG (by omega)⟩
theorem relC_next {w wr X w8 : World} {b : Nat} {a : Option Addr} {n c r e gg cap kc : Nat} {ka : Option Addr} {op : Int} {segs : List ByteArray} {D Dk : Nat} {k : Nat} {rows : List (List Value)} {kids : List ED} {x : List Value} {kd : ED} {o : Obj}
    (h1 : rows.length = k) (h2 : kids.length = k) (h3 : ∀ x ∈ rows, x.length = 5)
    (h4 : ∀ (i : Nat) (x : List Value) (kd : ED), rows[i]? = some x → kids[i]? = some kd → EAt (newG (e + 1) b (Value.slice ka k kc).ownBlock wr) kd x) (h5 : FineL segs D kids)
    (h6 : XI w X b a n c r) (h7 : r < e) (h8 : Own X e (exprK op (.slice ka k kc)) 29) (h9 : wr.ownsRow (e + 1) 29 5 (.slice ka k kc) k rows.flatten)
    (hX : wr.grownBy X (some b)) (hs : e < wr.heap.size) (hx5 : x.length = 5) (hE : EAt (newM wr.heap.size b X) kd x) (hS : Fine segs Dk kd) (hD : Dk + 1 ≤ D)
    (hg : (X.alloc o).grownBy w8 (Value.slice ka k kc).ownBlock) (hat : (Value.slice ka k kc).ownBlock = some gg ∨ gg = (X.alloc o).heap.size)
    (hown8 : w8.ownsRow (e + 1) 29 5 (.slice (some ⟨gg, 0, none⟩) (k + 1) cap) (k + 1) (rows.flatten ++ x)) :
    RelC w (w8.setCell ⟨e, 4, none⟩ (.slice (some ⟨gg, 0, none⟩) (k + 1) cap)) b a n c r e op segs D (k + 1) := by
  have hb := h6.br
  have hr := h6.rw
  have ho := (owns_kept h9 hX (by omega)).alloc o
  have hlt : ∀ j, (Value.slice ka k kc).ownBlock = some j → j < wr.heap.size := fun j hj => (h9.lt j hj).2
  have mX : Sub (newG (e + 1) b (Value.slice ka k kc).ownBlock X) (newG (e + 1) b (some gg) (w8.setCell ⟨e, 4, none⟩ (.slice (some ⟨gg, 0, none⟩) (k + 1) cap))) :=
    ((newG_grown (World.grownBy_alloc X o _)).trans (newG_app hg hat)).trans (newG_set (by simp) _)
  refine ⟨some ⟨gg, 0, none⟩, cap, rows ++ [x], kids ++ [kd], by simp [h1], by simp [h2], ?_, ?_, fineL_snoc h5 hS hD, ?_, h7, ?_, ?_⟩
  · intro y hy
    rcases List.mem_append.1 hy with hy | hy
    · exact h3 y hy
    · simp at hy; subst hy; exact hx5
  · intro i y d hi hd
    show EAt (newG (e + 1) b (some gg) _) d y
    rcases Nat.lt_or_ge i k with hi1 | hi1
    · rw [List.getElem?_append_left (by omega)] at hi hd
      exact (h4 i y d hi hd).mono ((newG_grown hX).trans mX)
    · rw [List.getElem?_append_right (by omega)] at hi hd
      rw [h1] at hi
      rw [h2] at hd
      cases hik : i - k with
      | zero =>
        rw [hik] at hi hd
        simp at hi hd
        subst hi
        subst hd
        exact hE.mono ((newM_newG (by omega) hlt X).trans mX)
      | succ q => rw [hik] at hi; simp at hi
  · exact ⟨((h6.head.alloc o).kept hg (row_far ho (by omega))).set (by simp; omega) _, g_setCell (g_own (g_alloc h6.grown o) hg (fun i e => by have := (ho.lt i e).1; omega)) (by simp; omega) _,
      (own_past ho (h6.ownR.alloc o) hg (by omega)).setOther (by simp; omega) _, h6.br, h6.rw⟩
  · exact (own_past ho (h8.alloc o) hg (by omega)).set 4 _
  · have e1 : (rows ++ [x]).flatten = rows.flatten ++ x := by simp
    rw [e1]
    exact ownsRow_setCell_below hown8 (by simp) _
theorem info26 : (Tryz.prog.info? 29).map (fun i => (i.zero, i.size, i.bytes)) = some (some (.agg #[.int .i64 0, .string ⟨#[]⟩, .string ⟨#[]⟩, .slice none 0 0, .slice none 0 0]), 5, 88) := by kernel_rfl

end Go.Proofs.YtlohdmghaeabjaaGreatDoor.draw

namespace Go.Proofs.YtlohdmghaeabjaaGreatDoor.draw
open Go.RowKit Go.Proofs.YtlohdmghaeabjaaGreatDoor.schema

/-- The codes, the parameter's box, the result's box, and the memory that is done. -/
structure CX (w u : World) (b : Nat) (a : Option Addr) (n c : Nat) (A : Array Value) (M0 M : Mem) : Prop where
  head : Head b a n c u
  grown : w.grownBy u (some b)
  br : b < w.heap.size
  box : Own u w.heap.size A 29
  res : Own u (w.heap.size + 1) zeroE 29
  sub0 : Sub M0 w.cell?
  ext : Ext M0 M (w.heap.size + 2)
  sub : Sub M u.cell?
  off : Off b M
theorem CX.start {w : World} {b : Nat} {a : Option Addr} {n c : Nat} {M : Mem} (h : Codes b a n c w) (hM : Sub M w.cell?) (ho : Off b M) (A : Array Value) :
    CX w ((w.alloc (.cells A 29)).alloc (.cells zeroE 29)) b a n c A M M := by
  have h2 := Own.new (w.alloc (.cells A 29)) zeroE 29
  rw [show (w.alloc (.cells A 29)).heap.size = w.heap.size + 1 by simp] at h2
  exact ⟨(h.1.alloc _).alloc _, g_alloc (g_alloc (grown_refl _ _) _) _, h.lt, (Own.new w A _).alloc _, h2, hM, Ext.refl _ _, sub_alloc (sub_alloc hM _) _, ho⟩
theorem CX.size {w u : World} {b : Nat} {a : Option Addr} {n c : Nat} {A : Array Value} {M0 M : Mem} (h : CX w u b a n c A M0 M) : w.heap.size + 2 ≤ u.heap.size := h.res.lt
theorem CX.offs {w u : World} {b : Nat} {a : Option Addr} {n c : Nat} {A : Array Value} {M0 M : Mem} (h : CX w u b a n c A M0 M) {k : Nat} (h1 : w.heap.size ≤ k) (h2 : k < w.heap.size + 2) : Off k M := (off_new h.sub0 h1).ext h.ext h2
theorem CX.codes {w u : World} {b : Nat} {a : Option Addr} {n c : Nat} {A : Array Value} {M0 M : Mem} (h : CX w u b a n c A M0 M) (hC : Codes b a n c w) : Codes b a n c u := hC.still h.grown h.head
theorem CX.glob {w u : World} {b : Nat} {a : Option Addr} {n c : Nat} {A : Array Value} {M0 M : Mem} (h : CX w u b a n c A M0 M) (hg : Glob (but b w)) : Glob (but b u) := hg.mono (sub_of_grown h.grown)
theorem CX.call {w u x : World} {b : Nat} {a : Option Addr} {n c : Nat} {A : Array Value} {M0 M : Mem} (h : CX w u b a n c A M0 M) (hG : u.grownBy x (some b)) (hH : Head b a n c x) : CX w x b a n c A M0 M :=
  ⟨hH, g_call h.grown hG, h.br, h.box.kept hG (by have := h.br; simp; omega), h.res.kept hG (by have := h.br; simp; omega), h.sub0, h.ext, sub_grow h.sub hG (fun k e => by injection e with e; subst e; exact h.off), h.off⟩
theorem CX.alloc {w u : World} {b : Nat} {a : Option Addr} {n c : Nat} {A : Array Value} {M0 M : Mem} (h : CX w u b a n c A M0 M) (o : Obj) : CX w (u.alloc o) b a n c A M0 M := h.call (World.grownBy_alloc u o _) (h.head.alloc o)
theorem CX.set {w u : World} {b : Nat} {a : Option Addr} {n c : Nat} {A : Array Value} {M0 M : Mem} (h : CX w u b a n c A M0 M) (i : Nat) (v : Value) : CX w (u.setCell ⟨w.heap.size, i, none⟩ v) b a n c (A.setIfInBounds i v) M0 M :=
  ⟨h.head.set (by have := h.br; simp; omega) _, g_setCell h.grown (by simp) _, h.br, h.box.set i v, h.res.setOther (by simp) _, h.sub0, h.ext, sub_setCell h.sub (h.offs (Nat.le_refl _) (by simp)) _, h.off⟩
/-- A row of the call's own is appended to. -/
theorem CX.grow {w u x : World} {b : Nat} {a : Option Addr} {n c : Nat} {A : Array Value} {M0 M : Mem} (h : CX w u b a n c A M0 M) {r : Option Nat} (hG : u.grownBy x r) (hr : ∀ k, r = some k → w.heap.size + 2 ≤ k ∧ Off k M) : CX w x b a n c A M0 M := by
  have hne : ∀ k, k < w.heap.size + 2 → r ≠ some k := fun k hk e => by have := (hr k e).1; omega
  have hb := h.br
  refine ⟨h.head.kept hG (hne b (by omega)), ?_, hb, h.box.kept hG (hne _ (by omega)), h.res.kept hG (hne _ (by omega)), h.sub0, h.ext, sub_grow h.sub hG (fun k e => (hr k e).2), h.off⟩
  exact g_own h.grown hG (fun i e => by have := (hr i e).1; omega)
/-- What a callee has made besides. -/
theorem CX.join {w u x : World} {b : Nat} {a : Option Addr} {n c : Nat} {A : Array Value} {M0 M : Mem} (h : CX w u b a n c A M0 M) (hG : u.grownBy x (some b)) (hH : Head b a n c x) : CX w x b a n c A M0 (joinN M u.heap.size b x) := by
  have h1 := h.call hG hH
  exact ⟨h1.head, h1.grown, h1.br, h1.box, h1.res, h1.sub0, h.ext.trans (joinN_ext h1.sub) h.size, joinN_sub h1.sub, joinN_off h.off⟩
/-- A block that is done. -/
theorem CX.block {w u : World} {b : Nat} {a : Option Addr} {n c : Nat} {A : Array Value} {M0 M : Mem} (h : CX w u b a n c A M0 M) {g : Nat} (hg : w.heap.size + 2 ≤ g) (ho : Off g M) : CX w u b a n c A M0 (addB M g u) :=
  ⟨h.head, h.grown, h.br, h.box, h.res, h.sub0, h.ext.trans (addB_ext ho hg) (Nat.le_refl _), addB_sub h.sub, addB_off h.off (by have := h.br; omega)⟩
/-- A memory that a callee has extended. -/
theorem CX.extend {w u x : World} {b : Nat} {a : Option Addr} {n c : Nat} {A : Array Value} {M0 M M' : Mem} (h : CX w u b a n c A M0 M) (hG : u.grownBy x (some b)) (hH : Head b a n c x) (he : Ext M M' u.heap.size) (hs : Sub M' x.cell?) (ho : Off b M') : CX w x b a n c A M0 M' := by
  have h1 := h.call hG hH
  exact ⟨h1.head, h1.grown, h1.br, h1.box, h1.res, h1.sub0, h.ext.trans he h.size, hs, ho⟩
/-- The end. -/
theorem CX.done {w u : World} {b : Nat} {a : Option Addr} {n c : Nat} {A : Array Value} {M0 M : Mem} (h : CX w u b a n c A M0 M) {d : ED} {op : Int} {kind name : ByteArray} {va : Option Addr} {vn vc : Nat} {ka : Option Addr} {kn kc : Nat}
    (hE : EAt M d [.int .i64 op, .string kind, .string name, .slice va vn vc, .slice ka kn kc]) (x0 x1 x2 x3 x4 : Value) :
    Drawn b a n c w (fun e w' => CondIs M0 b w e w') (.returned (.agg #[.int .i64 op, .string kind, .string name, .slice va vn vc, .slice ka kn kc]))
      (((((u.setCell ⟨w.heap.size + 1, 0, none⟩ x0).setCell ⟨w.heap.size + 1, 1, none⟩ x1).setCell ⟨w.heap.size + 1, 2, none⟩ x2).setCell ⟨w.heap.size + 1, 3, none⟩ x3).setCell ⟨w.heap.size + 1, 4, none⟩ x4) := by
  have hb := h.br
  have ho : Off (w.heap.size + 1) M := h.offs (by omega) (by omega)
  refine ⟨⟨M, d, op, kind, name, va, vn, vc, ka, kn, kc, rfl, h.ext.low (by omega), ?_, h.off, hE⟩, ?_, ?_⟩
  · exact sub_setCell (sub_setCell (sub_setCell (sub_setCell (sub_setCell h.sub ho _) ho _) ho _) ho _) ho _
  · exact (Head.set (Head.set (Head.set (Head.set (Head.set h.head (by simp <;> omega) _) (by simp <;> omega) _) (by simp <;> omega) _) (by simp <;> omega) _) (by simp <;> omega) _)
  · exact (g_setCell (g_setCell (g_setCell (g_setCell (g_setCell h.grown (by simp <;> omega) _) (by simp <;> omega) _) (by simp <;> omega) _) (by simp <;> omega) _) (by simp <;> omega) _)

/-- One row of five cells is stored. -/
theorem rows_put {w : World} {g n cap : Nat} {rows : List (List Value)} (h : RowsAt w.cell? 5 (.slice (some ⟨g, 0, none⟩) n cap) rows) (hs : ∀ r ∈ rows, r.length = 5) {k : Nat} (hk : k < n) (y0 y1 y2 y3 y4 : Value) :
    RowsAt (w.setCells g (k * 5) [y0, y1, y2, y3, y4]).cell? 5 (.slice (some ⟨g, 0, none⟩) n cap) (rows.set k [y0, y1, y2, y3, y4]) := by
  obtain ⟨hl, hc, hm⟩ := rows_len h
  obtain ⟨a, c, h1, -, -, h4⟩ := h
  injection h1 with h5 h6 h7
  subst h5; subst h7
  rcases h4 with h4 | ⟨blk, off, h8, h9⟩
  · rw [h4] at hl; simp at hl; omega
  injection h8 with h8
  injection h8 with h10 h11
  subst h10; subst h11
  refine ⟨some ⟨g, 0, none⟩, cap, by simp [hl], by simpa [hl] using hc, hm, Or.inr ⟨g, 0, rfl, fun i r hi j x hx => ?_⟩⟩
  have hcell : ∀ i, i < n → ∀ j, j < 5 → ∃ v, (rows[i]?.getD [])[j]? = some v ∧ w.cell? ⟨g, i * 5 + j, none⟩ = some v := by
    intro i hi j hj
    have e1 : rows[i]? = some (rows[i]'(by omega)) := List.getElem?_eq_getElem (by omega)
    have e2 : (rows[i]'(by omega)).length = 5 := hs _ (List.getElem_mem _)
    have e3 : (rows[i]'(by omega))[j]? = some ((rows[i]'(by omega))[j]'(by omega)) := List.getElem?_eq_getElem (by omega)
    refine ⟨_, by rw [e1]; exact e3, ?_⟩
    have := h9 i _ e1 j _ e3
    rw [Nat.zero_add] at this
    exact this
  rw [Nat.zero_add]
  have hin : i < n := by have := (List.getElem?_eq_some_iff.1 hi).1; simp at this; omega
  by_cases e : i = k
  · subst e
    rw [List.getElem?_set_self (by omega)] at hi
    obtain rfl : [y0, y1, y2, y3, y4] = r := Option.some.inj hi
    have hj : j < 5 := (List.getElem?_eq_some_iff.1 hx).1
    have := World.cell?_setCells_in g [y0, y1, y2, y3, y4] (i * 5) w (fun j hj => by obtain ⟨v, -, hv⟩ := hcell i hin j (by simpa using hj); rw [hv]; rfl) j (by simpa using hj)
    rw [List.getElem?_eq_getElem (show j < [y0, y1, y2, y3, y4].length by simpa using hj)] at hx
    exact this.trans hx
  · rw [List.getElem?_set_ne (fun h => e h.symm)] at hi
    have hj : j < 5 := by have := (List.getElem?_eq_some_iff.1 hx).1; rw [hs r (List.mem_of_getElem? hi)] at this; exact this
    rw [World.cell?_setCells_out g _ _ _ _ (fun _ _ => by simp only [List.length_cons, List.length_nil]; omega)]
    have := h9 i r hi j x hx
    rw [Nat.zero_add] at this
    exact this
theorem sub_setCells {M : Mem} {g : Nat} (ho : Off g M) : ∀ (vs : List Value) (o : Nat) (u : World), Sub M u.cell? → Sub M (u.setCells g o vs).cell?
  | [], _, _, h => h
  | v :: r, o, _, h => sub_setCells ho r (o + 1) _ (sub_setCell h ho v)

end Go.Proofs.YtlohdmghaeabjaaGreatDoor.draw
