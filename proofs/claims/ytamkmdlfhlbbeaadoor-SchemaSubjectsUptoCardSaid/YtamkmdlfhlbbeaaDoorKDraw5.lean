/- The drawing function Test: a test that fits the declared attributes. -/
import Derived.Test.YtamkmdlfhlbbeaaDoorKJ5
namespace Go.Proofs.YtamkmdlfhlbbeaaDoor.draw
open Go.RowKit Go.Proofs.YtamkmdlfhlbbeaaDoor.schema

attribute [local go_sem ↓] Go.wp_at_zero Go.wp_at_succ

def exprE (op : Int) (kind name : ByteArray) (v : Value) : Array Value := #[.int .i64 op, .string kind, .string name, v, .slice none 0 0]
def zeroE : Array Value := #[.int .i64 0, .string ⟨#[]⟩, .string ⟨#[]⟩, .slice none 0 0, .slice none 0 0]
theorem own5 {w : World} {n : Nat} {x0 x1 x2 x3 x4 : Value} {t : TypeId} (h : Own w n #[x0, x1, x2, x3, x4] t) :
    w.cell? ⟨n, 0, none⟩ = some x0 ∧ w.cell? ⟨n, 1, none⟩ = some x1 ∧ w.cell? ⟨n, 2, none⟩ = some x2 ∧ w.cell? ⟨n, 3, none⟩ = some x3 ∧ w.cell? ⟨n, 4, none⟩ = some x4 ∧
    w.frozen? ⟨n, 0, none⟩ = false ∧ w.frozen? ⟨n, 1, none⟩ = false ∧ w.frozen? ⟨n, 2, none⟩ = false ∧ w.frozen? ⟨n, 3, none⟩ = false ∧ w.frozen? ⟨n, 4, none⟩ = false :=
  ⟨h.cell 0, h.cell 1, h.cell 2, h.cell 3, h.cell 4, h.free 0, h.free 1, h.free 2, h.free 3, h.free 4⟩
theorem own3 {w : World} {n : Nat} {x0 x1 x2 : Value} {t : TypeId} (h : Own w n #[x0, x1, x2] t) :
    w.cell? ⟨n, 0, none⟩ = some x0 ∧ w.cell? ⟨n, 1, none⟩ = some x1 ∧ w.cell? ⟨n, 2, none⟩ = some x2 :=
  ⟨h.cell 0, h.cell 1, h.cell 2⟩

/-- A test without parts that fits the declared attributes. -/
def TestFits (op : Int) (kind name : ByteArray) (l : List VD) : Prop := 6 ≤ op ∧ op ≤ 15 ∧ (∀ segs, hereS declD segs op kind name l = 0) ∧ l.length ≤ 4
def TestIs (B b : Nat) (e : Ending) (w' : World) : Prop :=
  ∃ (op : Int) (kind name : ByteArray) (l : List VD) (va : Option Addr) (vn vc : Nat), e = .returned (.agg #[.int .i64 op, .string kind, .string name, .slice va vn vc, .slice none 0 0]) ∧ RowsAt (newM B b w') 4 (.slice va vn vc) (l.map VD.row) ∧ (∀ v ∈ l, LAt (newM B b w') v) ∧ TestFits op kind name l
theorem fits_here {op t : Int} {kind name : ByteArray} {l : List VD} (hT : typeOf kind.toList name.toList declD = t) (ht : 1 ≤ t) (h1 : 6 ≤ op) (h2 : op ≤ 15) (hlen : l.length ≤ 4) (hf : fitsS op t l = true) : TestFits op kind name l := by
  refine ⟨h1, h2, fun segs => ?_, hlen⟩
  unfold hereS
  rw [if_neg (by omega), if_pos ⟨h1, h2⟩, hT, if_neg (by omega), if_pos hf]
theorem kindOf_self {t : Int} (h1 : 1 ≤ t) (h2 : t ≤ 5) : kindOf t = t := by unfold kindOf; split <;> omega

theorem declArr_cell (j : Nat) (h : j < 8) : declArr[j * 3]? = some (.string (declD[j]'h).kind) ∧ declArr[j * 3 + 1]? = some (.string (declD[j]'h).name) ∧ declArr[j * 3 + 2]? = some (.int .i64 (declD[j]'h).type) := by
  have h1 := flat_get 3 (declD.map DD.row) (by intro r hr; obtain ⟨d, -, rfl⟩ := List.mem_map.1 hr; rfl) j ((declD[j]'h).row) (by rw [List.getElem?_map, List.getElem?_eq_getElem (show j < declD.length from h)]; rfl)
  exact ⟨by simpa [declArr] using h1 0 _ rfl, by simpa [declArr] using h1 1 _ rfl, by simpa [declArr] using h1 2 _ rfl⟩

/-- What is known while a test is made: the codes; the box r of the result, the box d of the attribute, the box e of the test. -/
structure TI (w u : World) (b : Nat) (a : Option Addr) (n c r e d : Nat) (kind name : ByteArray) (t op : Int) (v : Value) : Prop where
  head : Head b a n c u
  grown : w.grownBy u (some b)
  ownR : Own u r zeroE 47
  ownD : Own u d #[.string kind, .string name, .int .i64 t] 36
  ownE : Own u e (exprE op kind name v) 47
  br : b < w.heap.size
  rw : w.heap.size ≤ r
  de : d = e - 1
  re : r + 1 < e
theorem TI.call {w u x : World} {b : Nat} {a : Option Addr} {n c r e d : Nat} {kind name : ByteArray} {t op : Int} {v : Value} (h : TI w u b a n c r e d kind name t op v) (hG : u.grownBy x (some b)) (hH : Head b a n c x) : TI w x b a n c r e d kind name t op v := by
  obtain ⟨h1, h2, h3, h4, h5, h6, h7, h8, h9⟩ := h
  exact ⟨hH, g_call h2 hG, h3.kept hG (by simp; omega), h4.kept hG (by simp; omega), h5.kept hG (by simp; omega), h6, h7, h8, h9⟩
theorem TI.drew {w u : World} {b : Nat} {a : Option Addr} {n c r e d : Nat} {kind name : ByteArray} {t op : Int} {v : Value} (h : TI w u b a n c r e d kind name t op v) : TI w u.drew b a n c r e d kind name t op v := by
  obtain ⟨h1, h2, h3, h4, h5, h6, h7, h8, h9⟩ := h
  exact ⟨h1, g_drew h2, h3, h4, h5, h6, h7, h8, h9⟩
theorem TI.setOp {w u : World} {b : Nat} {a : Option Addr} {n c r e d : Nat} {kind name : ByteArray} {t op : Int} {v : Value} (h : TI w u b a n c r e d kind name t op v) (op' : Int) : TI w (u.setCell ⟨e, 0, none⟩ (.int .i64 op')) b a n c r e d kind name t op' v := by
  obtain ⟨h1, h2, h3, h4, h5, h6, h7, h8, h9⟩ := h
  exact ⟨h1.set (by simp; omega) _, g_setCell h2 (by simp; omega) _, h3.setOther (by simp; omega) _, h4.setOther (by simp; omega) _, h5.set 0 _, h6, h7, h8, h9⟩
theorem TI.codes {w u : World} {b : Nat} {a : Option Addr} {n c r e d : Nat} {kind name : ByteArray} {t op : Int} {v : Value} (h : TI w u b a n c r e d kind name t op v) (hC : Codes b a n c w) : Codes b a n c u := hC.still h.grown h.head
theorem TI.glob {w u : World} {b : Nat} {a : Option Addr} {n c r e d : Nat} {kind name : ByteArray} {t op : Int} {v : Value} (h : TI w u b a n c r e d kind name t op v) (hg : Glob (but b w)) : Glob (but b u) := hg.mono (sub_of_grown h.grown)

theorem fits_eq {t : Int} {d : VD} (h : d.kind = t) : fitsS 7 t [d] = true := by simp [fitsS, fitsK, h]
theorem fits_contains {t : Int} {d : VD} (ht : t = 3 ∨ t = 5) (h : d.kind = kindOf 3) : fitsS 11 t [d] = true := by
  rw [kindOf_self (by omega) (by omega)] at h
  rcases ht with rfl | rfl <;> simp [fitsS, fitsK, h]
theorem fits_starts {op t : Int} {d : VD} (ho : op = 9 ∨ op = 10) (ht : t = 3) (h : d.kind = kindOf 3) : fitsS op t [d] = true := by
  rw [kindOf_self (by omega) (by omega)] at h
  rcases ho with rfl | rfl <;> simp [fitsS, fitsK, h, ht]
theorem fits_cmp {op t : Int} {d : VD} (ho : 12 ≤ op) (ht : t = 2 ∨ t = 3 ∨ t = 4) (h : d.kind = t) : fitsS op t [d] = true := by
  unfold fitsS fitsK
  rw [if_neg (by omega), if_neg (by omega)]
  simp only
  rw [if_neg (by omega), if_neg (by omega), if_neg (by omega), h]
  rcases ht with rfl | rfl | rfl <;> simp
theorem allKind_snoc (t : Int) (l : List VD) (d : VD) : allKind t (l ++ [d]) = (allKind t l && d.kind == t) := by
  induction l with
  | nil => simp [allKind]
  | cons x r ih => simp [allKind, ih, Bool.and_assoc]
theorem fits_in8 {t : Int} {l : List VD} (ht : t ≠ 5) (h : allKind t l = true) : fitsS 8 t l = true := by simp [fitsS, ht, h]

theorem vals_more {B b : Nat} {g : Option Nat} {w4 w5 : World} {l : List VD} {dv : VD} (h : ∀ v ∈ l, LAt (newG B b g w4) v) (hg : ∀ j, g = some j → j < w4.heap.size) (hB : B ≤ w4.heap.size) (hG : w4.drew.grownBy w5 (some b)) (hd : LAt (newM w4.drew.heap.size b w5) dv) : ∀ v ∈ l ++ [dv], LAt (newG B b g w5) v := by
  intro v hv
  rcases List.mem_append.1 hv with hv | hv
  · exact (h v hv).mono (newG_grown (w := w4.drew) hG)
  · obtain rfl := List.mem_singleton.1 hv
    exact hd.mono (newM_newG hB hg w5)
/-- The loop that draws the values of a test with 'in'. -/
def RelI (w wr : World) (b : Nat) (a : Option Addr) (n c r e d : Nat) (kind name : ByteArray) (t : Int) (k : Nat) : Prop :=
  ∃ va vc, ∃ l : List VD, l.length = k ∧ allKind t l = true ∧ (∀ v ∈ l, LAt (newG (e + 1) b (Value.slice va k vc).ownBlock wr) v) ∧ TI w wr b a n c r e d kind name t 8 (.slice va k vc) ∧ wr.ownsRow (e + 1) 42 4 (.slice va k vc) k (l.map VD.row).flatten
theorem TI.setV {w u : World} {b : Nat} {a : Option Addr} {n c r e d : Nat} {kind name : ByteArray} {t op : Int} {v : Value} (h : TI w u b a n c r e d kind name t op v) (v' : Value) : TI w (u.setCell ⟨e, 3, none⟩ v') b a n c r e d kind name t op v' := by
  obtain ⟨h1, h2, h3, h4, h5, h6, h7, h8, h9⟩ := h
  exact ⟨h1.set (by simp; omega) _, g_setCell h2 (by simp; omega) _, h3.setOther (by simp; omega) _, h4.setOther (by simp; omega) _, h5.set 3 _, h6, h7, h8, h9⟩
theorem TI.alloc {w u : World} {b : Nat} {a : Option Addr} {n c r e d : Nat} {kind name : ByteArray} {t op : Int} {v : Value} (h : TI w u b a n c r e d kind name t op v) (o : Obj) : TI w (u.alloc o) b a n c r e d kind name t op v :=
  h.call (World.grownBy_alloc u o _) (h.head.alloc o)
theorem TI.app {w u x : World} {b : Nat} {a : Option Addr} {n c r e d : Nat} {kind name : ByteArray} {t op : Int} {v v2 : Value} {ty : TypeId} {sz m : Nat} {xs : List Value} (h : TI w u b a n c r e d kind name t op v)
    (ho : u.ownsRow (e + 1) ty sz v2 m xs) (hg : u.grownBy x v2.ownBlock) : TI w x b a n c r e d kind name t op v := by
  obtain ⟨h1, h2, h3, h4, h5, h6, h7, h8, h9⟩ := h
  exact ⟨h1.kept hg (row_far ho (by omega)), g_own h2 hg (fun i e => by have := (ho.lt i e).1; omega), own_past ho h3 hg (by omega), own_past ho h4 hg (by omega), own_past ho h5 hg (by omega), h6, h7, h8, h9⟩
theorem relI_next {w w5 w6 : World} {b : Nat} {a : Option Addr} {n c r e d : Nat} {kind name : ByteArray} {t : Int} {k : Nat} {v : Value} {l : List VD} {dv : VD} {o : Obj} {gg cap : Nat} (hl : l.length = k) (ha : allKind t l = true) (hd : dv.kind = t)
    (hLs : ∀ u ∈ l ++ [dv], LAt (newG (e + 1) b v.ownBlock w5) u) (hat : v.ownBlock = some gg ∨ gg = w5.heap.size + 1)
    (hI : TI w w5 b a n c r e d kind name t 8 v) (hown : w5.ownsRow (e + 1) 42 4 v k (l.map VD.row).flatten) (hg : (w5.alloc o).grownBy w6 v.ownBlock)
    (hown6 : w6.ownsRow (e + 1) 42 4 (.slice (some ⟨gg, 0, none⟩) (k + 1) cap) (k + 1) ((l.map VD.row).flatten ++ dv.row)) :
    RelI w (w6.setCell ⟨e, 3, none⟩ (.slice (some ⟨gg, 0, none⟩) (k + 1) cap)) b a n c r e d kind name t (k + 1) := by
  have mX : Sub (newG (e + 1) b v.ownBlock w5) (newG (e + 1) b (some gg) (w6.setCell ⟨e, 3, none⟩ (.slice (some ⟨gg, 0, none⟩) (k + 1) cap))) :=
    ((newG_grown (World.grownBy_alloc w5 o _)).trans (newG_app hg (hat.imp id (fun e => by rw [e]; simp)))).trans (newG_set (by simp) _)
  refine ⟨some ⟨gg, 0, none⟩, cap, l ++ [dv], by simp [hl], by rw [allKind_snoc, ha, hd]; simp, fun u hu => (hLs u hu).mono mX, ((hI.alloc o).app (hown.alloc o) hg).setV _, ?_⟩
  have e1 : ((l ++ [dv]).map VD.row).flatten = (l.map VD.row).flatten ++ dv.row := by simp
  rw [e1]
  exact ownsRow_setCell_below hown6 (by simp) _
theorem info44 : (Tryd.prog.info? 42).map (fun i => (i.zero, i.size, i.bytes)) = some (some (.agg #[.int .i64 0, .int .i64 0, .string ⟨#[]⟩, .slice none 0 0]), 4, 56) := by kernel_rfl
theorem vd_one (d : VD) : ∀ u ∈ d.row, u.oneCell' = true := by simp [VD.row, Value.oneCell']

end Go.Proofs.YtamkmdlfhlbbeaaDoor.draw

