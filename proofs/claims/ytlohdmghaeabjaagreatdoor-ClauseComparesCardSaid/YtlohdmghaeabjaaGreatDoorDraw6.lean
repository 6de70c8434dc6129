/- Drawn conditions: words on memory that a loop of appends does not touch; what a drawn condition is. -/
import Derived.Test.YtlohdmghaeabjaaGreatDoorDraw5
namespace Go.Proofs.YtlohdmghaeabjaaGreatDoor.draw
open Go.RowKit Go.Proofs.YtlohdmghaeabjaaGreatDoor.schema

/- No list in a condition has more than N elements. -/
mutual
def smallE (N : Nat) : ED → Prop
  | .mk op _ _ vals kids => vals.length ≤ N ∧ kids.length ≤ N ∧ (op = 4 → 0 < kids.length) ∧ smallL N kids
def smallL (N : Nat) : List ED → Prop
  | [] => True
  | k :: r => smallE N k ∧ smallL N r
end
def Fine (segs : List ByteArray) (d : ED) : Prop := exprS declD segs d = 0 ∧ smallE 4 d
def FineL (segs : List ByteArray) (l : List ED) : Prop := exprL declD segs l = 0 ∧ smallL 4 l

/-- What a drawn condition is: data that fits the declared attributes and the segments, in new memory. -/
def ExprIs (B b : Nat) (segs : List ByteArray) (e : Ending) (w' : World) : Prop :=
  ∃ (d : ED) (op : Int) (kind name : ByteArray) (va : Option Addr) (vn vc : Nat) (ka : Option Addr) (kn kc : Nat), e = .returned (.agg #[.int .i64 op, .string kind, .string name, .slice va vn vc, .slice ka kn kc]) ∧
    EAt (newM B b w') d [.int .i64 op, .string kind, .string name, .slice va vn vc, .slice ka kn kc] ∧ Fine segs d

/-- What is known while a condition is made: the codes; the box r of the result. -/
structure XI (w u : World) (b : Nat) (a : Option Addr) (n c r : Nat) : Prop where
  head : Head b a n c u
  grown : w.grownBy u (some b)
  ownR : Own u r zeroE 29
  br : b < w.heap.size
  rw : w.heap.size ≤ r
theorem XI.call {w u x : World} {b : Nat} {a : Option Addr} {n c r : Nat} (h : XI w u b a n c r) (hG : u.grownBy x (some b)) (hH : Head b a n c x) : XI w x b a n c r := by
  obtain ⟨h1, h2, h3, h4, h5⟩ := h
  exact ⟨hH, g_call h2 hG, h3.kept hG (by simp; omega), h4, h5⟩
theorem XI.alloc {w u : World} {b : Nat} {a : Option Addr} {n c r : Nat} (h : XI w u b a n c r) (o : Obj) : XI w (u.alloc o) b a n c r := h.call (World.grownBy_alloc u o _) (h.head.alloc o)
theorem XI.codes {w u : World} {b : Nat} {a : Option Addr} {n c r : Nat} (h : XI w u b a n c r) (hC : Codes b a n c w) : Codes b a n c u := hC.still h.grown h.head
theorem XI.glob {w u : World} {b : Nat} {a : Option Addr} {n c r : Nat} (h : XI w u b a n c r) (hg : Glob (but b w)) : Glob (but b u) := hg.mono (sub_of_grown h.grown)
theorem XI.segs {w u : World} {b : Nat} {a : Option Addr} {n c r : Nat} (h : XI w u b a n c r) {sv : Value} {segs : List ByteArray} (hs : RowsAt (but b w) 1 sv (segs.map strRow)) : RowsAt (but b u) 1 sv (segs.map strRow) := hs.mono (sub_of_grown h.grown)

theorem hasS_self {l : List ByteArray} {k : Nat} (h : k < l.length) : hasS l[k].toList l = true := by
  induction l generalizing k with
  | nil => simp at h
  | cons x r ih =>
    cases k with
    | zero => simp [hasS]
    | succ k => rw [hasS, List.getElem_cons_succ, ih (by simpa using h)]; simp
theorem eat_true (m : Mem) : EAt m (.mk 1 ⟨#[]⟩ ⟨#[]⟩ [] []) [.int .i64 1, .string ⟨#[]⟩, .string ⟨#[]⟩, .slice none 0 0, .slice none 0 0] :=
  EAt.mk [] (rows_nil _ _) (rows_nil _ _) rfl (fun v hv => by cases hv) (fun i r k hi => by simp at hi)
theorem eat_seg (m : Mem) (s : ByteArray) : EAt m (.mk 5 ⟨#[]⟩ s [] []) [.int .i64 5, .string ⟨#[]⟩, .string s, .slice none 0 0, .slice none 0 0] :=
  EAt.mk [] (rows_nil _ _) (rows_nil _ _) rfl (fun v hv => by cases hv) (fun i r k hi => by simp at hi)
theorem eat_test {m : Mem} {op : Int} {kind name : ByteArray} {l : List VD} {v : Value} (h : RowsAt m 4 v (l.map VD.row)) (hL : ∀ v ∈ l, LAt m v) : EAt m (.mk op kind name l []) [.int .i64 op, .string kind, .string name, v, .slice none 0 0] :=
  EAt.mk [] h (rows_nil _ _) rfl hL (fun i r k hi => by simp at hi)
theorem eat_not {m : Mem} {d : ED} {r : List Value} {v : Value} (h : RowsAt m 5 v [r]) (hE : EAt m d r) : EAt m (.mk 4 ⟨#[]⟩ ⟨#[]⟩ [] [d]) [.int .i64 4, .string ⟨#[]⟩, .string ⟨#[]⟩, .slice none 0 0, v] :=
  EAt.mk [r] (rows_nil _ _) h rfl (fun v hv => by cases hv) (fun i r' k hi hk => by
    cases i with
    | zero => simp at hi hk; subst hi; subst hk; exact hE
    | succ i => simp at hi)
theorem s_true (segs : List ByteArray) : Fine segs (.mk 1 ⟨#[]⟩ ⟨#[]⟩ [] []) := by simp [Fine, exprS, hereS, exprL, smallE, smallL]
theorem s_seg {segs : List ByteArray} {k : Nat} (h : k < segs.length) : Fine segs (.mk 5 ⟨#[]⟩ segs[k] [] []) := by simp [Fine, exprS, hereS, exprL, hasS_self h, smallE, smallL]
theorem s_test {segs : List ByteArray} {op : Int} {kind name : ByteArray} {l : List VD} (h : TestFits op kind name l) : Fine segs (.mk op kind name l []) := by
  have h4 := h.2.2.2
  have h0 : op ≠ 4 := by have := h.1; omega
  simp [Fine, exprS, h.2.2.1 segs, exprL, smallE, smallL, h4, h0]
theorem s_not {segs : List ByteArray} {d : ED} (h : Fine segs d) : Fine segs (.mk 4 ⟨#[]⟩ ⟨#[]⟩ [] [d]) := by simp [Fine, exprS, hereS, exprL, smallE, smallL, h.1, h.2]
theorem s_conj {segs : List ByteArray} {op : Int} {l : List ED} (ho : op = 2 ∨ op = 3) (hl : l.length ≤ 4) (h : FineL segs l) : Fine segs (.mk op ⟨#[]⟩ ⟨#[]⟩ [] l) := by
  rcases ho with rfl | rfl <;> simp [Fine, exprS, hereS, h.1, smallE, h.2, hl]
theorem smallL_snoc {N : Nat} {l : List ED} {d : ED} (h : smallL N l) (hd : smallE N d) : smallL N (l ++ [d]) := by
  induction l with
  | nil => exact ⟨hd, trivial⟩
  | cons x r ih => exact ⟨h.1, ih h.2⟩
theorem exprL_snoc {decl : List DD} {segs : List ByteArray} {l : List ED} {d : ED} (h : exprL decl segs l = 0) (hd : exprS decl segs d = 0) : exprL decl segs (l ++ [d]) = 0 := by
  induction l with
  | nil => simp [exprL, hd]
  | cons x r ih =>
    rw [exprL] at h
    split at h
    · rename_i hx
      rw [List.cons_append, exprL, if_pos hx]
      exact ih h
    · rename_i hx
      exact absurd h hx

theorem fineL_snoc {segs : List ByteArray} {l : List ED} {d : ED} (h : FineL segs l) (hd : Fine segs d) : FineL segs (l ++ [d]) := ⟨exprL_snoc h.1 hd.1, smallL_snoc h.2 hd.2⟩
theorem fineL_nil (segs : List ByteArray) : FineL segs [] := ⟨rfl, trivial⟩

def exprK (op : Int) (v : Value) : Array Value := #[.int .i64 op, .string ⟨#[]⟩, .string ⟨#[]⟩, .slice none 0 0, v]
/-- The loop that draws the parts of a conjunction or a disjunction: e is its box, the parts are in a row of the call's own. -/
def RelC (w wr : World) (b : Nat) (a : Option Addr) (n c r e : Nat) (op : Int) (segs : List ByteArray) (k : Nat) : Prop :=
  ∃ ka kc, ∃ (rows : List (List Value)) (kids : List ED), rows.length = k ∧ kids.length = k ∧ (∀ x ∈ rows, x.length = 5) ∧
    (∀ (i : Nat) (x : List Value) (kd : ED), rows[i]? = some x → kids[i]? = some kd → EAt (newG (e + 1) b (Value.slice ka k kc).ownBlock wr) kd x) ∧ FineL segs kids ∧
    XI w wr b a n c r ∧ r < e ∧ Own wr e (exprK op (.slice ka k kc)) 29 ∧ wr.ownsRow (e + 1) 29 5 (.slice ka k kc) k rows.flatten

theorem relC_start {w u : World} {b : Nat} {a : Option Addr} {n c r : Nat} {op : Int} {segs : List ByteArray} (h : XI w u b a n c r) : RelC w (u.alloc (.cells (exprK op (.slice none 0 0)) 29)) b a n c r u.heap.size op segs 0 :=
  ⟨none, 0, [], [], rfl, rfl, by simp, fun i x kd hi => by simp at hi, fineL_nil segs, h.alloc _, h.ownR.lt, Own.new u _ _, World.ownsRow_nil _ _ _ _⟩
theorem RelC.call {w u x : World} {b : Nat} {a : Option Addr} {n c r e : Nat} {op : Int} {segs : List ByteArray} {k : Nat} (h : RelC w u b a n c r e op segs k) (hG : u.grownBy x (some b)) (hH : Head b a n c x) : RelC w x b a n c r e op segs k := by
  obtain ⟨ka, kc, rows, kids, h1, h2, h3, h4, h5, h6, h7, h8, h9⟩ := h
  have hb := h6.br
  have hr := h6.rw
  exact ⟨ka, kc, rows, kids, h1, h2, h3, fun i x kd hi hk => (h4 i x kd hi hk).mono (newG_grown hG), h5, h6.call hG hH, h7, h8.kept hG (by simp; omega), owns_kept h9 hG (by omega)⟩
theorem relC_next {w wr X w8 : World} {b : Nat} {a : Option Addr} {n c r e gg cap kc : Nat} {ka : Option Addr} {op : Int} {segs : List ByteArray} {k : Nat} {rows : List (List Value)} {kids : List ED} {x : List Value} {kd : ED} {o : Obj}
    (h1 : rows.length = k) (h2 : kids.length = k) (h3 : ∀ x ∈ rows, x.length = 5)
    (h4 : ∀ (i : Nat) (x : List Value) (kd : ED), rows[i]? = some x → kids[i]? = some kd → EAt (newG (e + 1) b (Value.slice ka k kc).ownBlock wr) kd x) (h5 : FineL segs kids)
    (h6 : XI w X b a n c r) (h7 : r < e) (h8 : Own X e (exprK op (.slice ka k kc)) 29) (h9 : wr.ownsRow (e + 1) 29 5 (.slice ka k kc) k rows.flatten)
    (hX : wr.grownBy X (some b)) (hs : e < wr.heap.size) (hx5 : x.length = 5) (hE : EAt (newM wr.heap.size b X) kd x) (hS : Fine segs kd)
    (hg : (X.alloc o).grownBy w8 (Value.slice ka k kc).ownBlock) (hat : (Value.slice ka k kc).ownBlock = some gg ∨ gg = (X.alloc o).heap.size)
    (hown8 : w8.ownsRow (e + 1) 29 5 (.slice (some ⟨gg, 0, none⟩) (k + 1) cap) (k + 1) (rows.flatten ++ x)) :
    RelC w (w8.setCell ⟨e, 4, none⟩ (.slice (some ⟨gg, 0, none⟩) (k + 1) cap)) b a n c r e op segs (k + 1) := by
  have hb := h6.br
  have hr := h6.rw
  have ho := (owns_kept h9 hX (by omega)).alloc o
  have hlt : ∀ j, (Value.slice ka k kc).ownBlock = some j → j < wr.heap.size := fun j hj => (h9.lt j hj).2
  have mX : Sub (newG (e + 1) b (Value.slice ka k kc).ownBlock X) (newG (e + 1) b (some gg) (w8.setCell ⟨e, 4, none⟩ (.slice (some ⟨gg, 0, none⟩) (k + 1) cap))) :=
    ((newG_grown (World.grownBy_alloc X o _)).trans (newG_app hg hat)).trans (newG_set (by simp) _)
  refine ⟨some ⟨gg, 0, none⟩, cap, rows ++ [x], kids ++ [kd], by simp [h1], by simp [h2], ?_, ?_, fineL_snoc h5 hS, ?_, h7, ?_, ?_⟩
  · intro y hy
    rcases List.mem_append.1 hy with hy | hy
    · exact h3 y hy
    · simp at hy; subst hy; exact hx5
  · intro i y d hi hd
    show EAt (newG (e + 1) b (some gg) _) d y
    rcases Nat.lt_or_ge i k with hi1 | hi1
    · rw [List.getElem?_append_left (by omega)] at hi hd
      exact (h4 i y d hi hd).mono ((newG_grown hX).trans mX)
    · rw [List.getElem?_append_right (by omega)] at hi hd
      rw [h1] at hi
      rw [h2] at hd
      cases hik : i - k with
      | zero =>
        rw [hik] at hi hd
        simp at hi hd
        subst hi
        subst hd
        exact hE.mono ((newM_newG (by omega) hlt X).trans mX)
      | succ q => rw [hik] at hi; simp at hi
  · exact ⟨((h6.head.alloc o).kept hg (row_far ho (by omega))).set (by simp; omega) _, g_setCell (g_own (g_alloc h6.grown o) hg (fun i e => by have := (ho.lt i e).1; omega)) (by simp; omega) _,
      (own_past ho (h6.ownR.alloc o) hg (by omega)).setOther (by simp; omega) _, h6.br, h6.rw⟩
  · exact (own_past ho (h8.alloc o) hg (by omega)).set 4 _
  · have e1 : (rows ++ [x]).flatten = rows.flatten ++ x := by simp
    rw [e1]
    exact ownsRow_setCell_below hown8 (by simp) _
theorem info26 : (Tryz.prog.info? 29).map (fun i => (i.zero, i.size, i.bytes)) = some (some (.agg #[.int .i64 0, .string ⟨#[]⟩, .string ⟨#[]⟩, .slice none 0 0, .slice none 0 0]), 5, 88) := by kernel_rfl

end Go.Proofs.YtlohdmghaeabjaaGreatDoor.draw

