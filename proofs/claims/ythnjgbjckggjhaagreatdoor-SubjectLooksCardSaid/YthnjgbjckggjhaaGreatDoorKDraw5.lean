/- The drawing function Test: a test that fits the declared attributes. -/
import Derived.Test.YthnjgbjckggjhaaGreatDoorKJ5
namespace Go.Proofs.YthnjgbjckggjhaaGreatDoor.draw
open Go.RowKit Go.Proofs.YthnjgbjckggjhaaGreatDoor.schema

attribute [local go_sem ↓] Go.wp_at_zero Go.wp_at_succ

def exprE (op : Int) (kind name : ByteArray) (v : Value) : Array Value := #[.int .i64 op, .string kind, .string name, v, .slice none 0 0]
def zeroE : Array Value := #[.int .i64 0, .string ⟨#[]⟩, .string ⟨#[]⟩, .slice none 0 0, .slice none 0 0]
theorem own5 {w : World} {n : Nat} {x0 x1 x2 x3 x4 : Value} {t : TypeId} (h : Own w n #[x0, x1, x2, x3, x4] t) :
    w.cell? ⟨n, 0, none⟩ = some x0 ∧ w.cell? ⟨n, 1, none⟩ = some x1 ∧ w.cell? ⟨n, 2, none⟩ = some x2 ∧ w.cell? ⟨n, 3, none⟩ = some x3 ∧ w.cell? ⟨n, 4, none⟩ = some x4 ∧
    w.frozen? ⟨n, 0, none⟩ = false ∧ w.frozen? ⟨n, 1, none⟩ = false ∧ w.frozen? ⟨n, 2, none⟩ = false ∧ w.frozen? ⟨n, 3, none⟩ = false ∧ w.frozen? ⟨n, 4, none⟩ = false :=
  ⟨h.cell 0, h.cell 1, h.cell 2, h.cell 3, h.cell 4, h.free 0, h.free 1, h.free 2, h.free 3, h.free 4⟩
theorem own3 {w : World} {n : Nat} {x0 x1 x2 : Value} {t : TypeId} (h : Own w n #[x0, x1, x2] t) :
    w.cell? ⟨n, 0, none⟩ = some x0 ∧ w.cell? ⟨n, 1, none⟩ = some x1 ∧ w.cell? ⟨n, 2, none⟩ = some x2 :=
  ⟨h.cell 0, h.cell 1, h.cell 2⟩

/-- A test without parts that fits the declared attributes. -/
def TestFits (op : Int) (kind name : ByteArray) (l : List VD) : Prop := 6 ≤ op ∧ op ≤ 15 ∧ (∀ segs, hereS declD segs op kind name l = 0) ∧ l.length ≤ 4
def TestIs (B b : Nat) (e : Ending) (w' : World) : Prop :=
  ∃ (op : Int) (kind name : ByteArray) (l : List VD) (va : Option Addr) (vn vc : Nat), e = .returned (.agg #[.int .i64 op, .string kind, .string name, .slice va vn vc, .slice none 0 0]) ∧ RowsAt (newM B b w') 4 (.slice va vn vc) (l.map VD.row) ∧ (∀ v ∈ l, LAt (newM B b w') v) ∧ TestFits op kind name l
theorem fits_here {op t : Int} {kind name : ByteArray} {l : List VD} (hT : typeOf kind.toList name.toList declD = t) (ht : 1 ≤ t) (h1 : 6 ≤ op) (h2 : op ≤ 15) (hlen : l.length ≤ 4) (hf : fitsS op t l = true) : TestFits op kind name l := by
  refine ⟨h1, h2, fun segs => ?_, hlen⟩
  unfold hereS
  rw [if_neg (by omega), if_pos ⟨h1, h2⟩, hT, if_neg (by omega), if_pos hf]
theorem kindOf_self {t : Int} (h1 : 1 ≤ t) (h2 : t ≤ 5) : kindOf t = t := by unfold kindOf; split <;> omega

theorem declArr_cell (j : Nat) (h : j < 8) : declArr[j * 3]? = some (.string (declD[j]'h).kind) ∧ declArr[j * 3 + 1]? = some (.string (declD[j]'h).name) ∧ declArr[j * 3 + 2]? = some (.int .i64 (declD[j]'h).type) := by
  have h1 := flat_get 3 (declD.map DD.row) (by intro r hr; obtain ⟨d, -, rfl⟩ := List.mem_map.1 hr; rfl) j ((declD[j]'h).row) (by rw [List.getElem?_map, List.getElem?_eq_getElem (show j < declD.length from h)]; rfl)
  exact ⟨by simpa [declArr] using h1 0 _ rfl, by simpa [declArr] using h1 1 _ rfl, by simpa [declArr] using h1 2 _ rfl⟩

theorem fits_eq {t : Int} {d : VD} (h : d.kind = t) : fitsS 7 t [d] = true := by simp [fitsS, fitsK, h]
theorem fits_contains {t : Int} {d : VD} (ht : t = 3 ∨ t = 5) (h : d.kind = kindOf 3) : fitsS 11 t [d] = true := by
  rw [kindOf_self (by omega) (by omega)] at h
  rcases ht with rfl | rfl <;> simp [fitsS, fitsK, h]
theorem fits_starts {op t : Int} {d : VD} (ho : op = 9 ∨ op = 10) (ht : t = 3) (h : d.kind = kindOf 3) : fitsS op t [d] = true := by
  rw [kindOf_self (by omega) (by omega)] at h
  rcases ho with rfl | rfl <;> simp [fitsS, fitsK, h, ht]
theorem fits_cmp {op t : Int} {d : VD} (ho : 12 ≤ op) (ht : t = 2 ∨ t = 3 ∨ t = 4) (h : d.kind = t) : fitsS op t [d] = true := by
  unfold fitsS fitsK
  rw [if_neg (by omega), if_neg (by omega)]
  simp only
  rw [if_neg (by omega), if_neg (by omega), if_neg (by omega), h]
  rcases ht with rfl | rfl | rfl <;> simp
theorem allKind_snoc (t : Int) (l : List VD) (d : VD) : allKind t (l ++ [d]) = (allKind t l && d.kind == t) := by
  induction l with
  | nil => simp [allKind]
  | cons x r ih => simp [allKind, ih, Bool.and_assoc]
theorem fits_in8 {t : Int} {l : List VD} (ht : t ≠ 5) (h : allKind t l = true) : fitsS 8 t l = true := by simp [fitsS, ht, h]

theorem vals_more {B b : Nat} {g : Option Nat} {w4 w5 : World} {l : List VD} {dv : VD} (h : ∀ v ∈ l, LAt (newG B b g w4) v) (hg : ∀ j, g = some j → j < w4.heap.size) (hB : B ≤ w4.heap.size) (hG : w4.drew.grownBy w5 (some b)) (hd : LAt (newM w4.drew.heap.size b w5) dv) : ∀ v ∈ l ++ [dv], LAt (newG B b g w5) v := by
  intro v hv
  rcases List.mem_append.1 hv with hv | hv
  · exact (h v hv).mono (newG_grown (w := w4.drew) hG)
  · obtain rfl := List.mem_singleton.1 hv
    exact hd.mono (newM_newG hB hg w5)
theorem info44 : (Tryz.prog.info? 42).map (fun i => (i.zero, i.size, i.bytes)) = some (some (.agg #[.int .i64 0, .int .i64 0, .string ⟨#[]⟩, .slice none 0 0]), 4, 56) := by kernel_rfl
theorem vd_one (d : VD) : ∀ u ∈ d.row, u.oneCell' = true := by simp [VD.row, Value.oneCell']

end Go.Proofs.YthnjgbjckggjhaaGreatDoor.draw

