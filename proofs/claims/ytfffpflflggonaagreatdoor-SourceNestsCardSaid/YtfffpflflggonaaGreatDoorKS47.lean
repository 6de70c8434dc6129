/- Copies: a list of values, copied one by one. Drawn conditions: words on memory that a loop of appends does not touch; what a drawn condition is. A changed condition: what the change holds on its way. Bounds of a changed condition: how many parts, how long its lists. Copies: conditions. Whether two conditions are of one content: the program's Expr. Which attribute is found: the reference's Find and Lookup. Whether a test holds: the reference's Test. Whether two rows of texts are equal: the reference's Same. Whether two values are equal: the reference's Equal at any two values. Whether a test holds: the reference's Test. -/
import Derived.Test.YtfffpflflggonaaGreatDoorKS17
import Derived.Test.YtfffpflflggonaaGreatDoorKDraw5
import Derived.OwnWalk
import Derived.Test.YtfffpflflggonaaGreatDoorKS31
import Derived.Laws.IdiomCopy
import Derived.Laws.OwnMore
import Derived.Test.YtfffpflflggonaaGreatDoorKS30
import Derived.Lib.QuietBelow
import Derived.BigQuiet
namespace Go.Proofs.YtfffpflflggonaaGreatDoor.clause
open Go.RowKit Go.Proofs.YtfffpflflggonaaGreatDoor Go.Proofs.YtfffpflflggonaaGreatDoor.schema Go.Proofs.YtfffpflflggonaaGreatDoor.value Go.Proofs.YtfffpflflggonaaGreatDoor.text Go.Proofs.YtfffpflflggonaaGreatDoor.draw

/-- Two lists of one content. -/
def SameL (l' l : List VD) : Prop := l'.length = l.length ∧ ∀ i (h' : i < l'.length) (h : i < l.length), SameV l'[i] l[i]
end Go.Proofs.YtfffpflflggonaaGreatDoor.clause

namespace Go.Proofs.YtfffpflflggonaaGreatDoor.draw
open Go.RowKit Go.Proofs.YtfffpflflggonaaGreatDoor.schema

/- No list in a condition has more than N elements. -/
mutual
def smallE (N : Nat) : ED → Prop
  | .mk op _ _ vals kids => vals.length ≤ N ∧ kids.length ≤ N ∧ (op = 4 → 0 < kids.length) ∧ smallL N kids
def smallL (N : Nat) : List ED → Prop
  | [] => True
  | k :: r => smallE N k ∧ smallL N r
end
/- How deep a condition is. -/
mutual
def depE : ED → Nat
  | .mk _ _ _ _ ks => depL ks
def depL : List ED → Nat
  | [] => 0
  | k :: r => max (depE k + 1) (depL r)
end
def FineL (segs : List ByteArray) (D : Nat) (l : List ED) : Prop := exprL declD segs l = 0 ∧ smallL 4 l ∧ depL l ≤ D
/-- What is known while a condition is made: the codes; the box r of the result. -/
structure XI (w u : World) (b : Nat) (a : Option Addr) (n c r : Nat) : Prop where
  head : Head b a n c u
  grown : w.grownBy u (some b)
  ownR : Own u r zeroE 31
  br : b < w.heap.size
  rw : w.heap.size ≤ r
theorem XI.call {w u x : World} {b : Nat} {a : Option Addr} {n c r : Nat} (h : XI w u b a n c r) (hG : u.grownBy x (some b)) (hH : Head b a n c x) : XI w x b a n c r := by
  obtain ⟨h1, h2, h3, h4, h5⟩ := h
  exact ⟨hH, g_call h2 hG, h3.kept hG (by simp; omega), h4, h5⟩
theorem XI.alloc {w u : World} {b : Nat} {a : Option Addr} {n c r : Nat} (h : XI w u b a n c r) (o : Obj) : XI w (u.alloc o) b a n c r := h.call (World.grownBy_alloc u o _) (h.head.alloc o)
theorem XI.codes {w u : World} {b : Nat} {a : Option Addr} {n c r : Nat} (h : XI w u b a n c r) (hC : Codes b a n c w) : Codes b a n c u := hC.still h.grown h.head
theorem XI.glob {w u : World} {b : Nat} {a : Option Addr} {n c r : Nat} (h : XI w u b a n c r) (hg : Glob (but b w)) : Glob (but b u) := hg.mono (sub_of_grown h.grown)
theorem XI.segs {w u : World} {b : Nat} {a : Option Addr} {n c r : Nat} (h : XI w u b a n c r) {sv : Value} {segs : List ByteArray} (hs : RowsAt (but b w) 1 sv (segs.map strRow)) : RowsAt (but b u) 1 sv (segs.map strRow) := hs.mono (sub_of_grown h.grown)

def exprK (op : Int) (v : Value) : Array Value := #[.int .i64 op, .string ⟨#[]⟩, .string ⟨#[]⟩, .slice none 0 0, v]
/-- The loop that draws the parts of a conjunction or a disjunction: e is its box, the parts are in a row of the call's own. -/
def RelC (w wr : World) (b : Nat) (a : Option Addr) (n c r e : Nat) (op : Int) (segs : List ByteArray) (D : Nat) (k : Nat) : Prop :=
  ∃ ka kc, ∃ (rows : List (List Value)) (kids : List ED), rows.length = k ∧ kids.length = k ∧ (∀ x ∈ rows, x.length = 5) ∧
    (∀ (i : Nat) (x : List Value) (kd : ED), rows[i]? = some x → kids[i]? = some kd → EAt (newG (e + 1) b (Value.slice ka k kc).ownBlock wr) kd x) ∧ FineL segs D kids ∧
    XI w wr b a n c r ∧ r < e ∧ Own wr e (exprK op (.slice ka k kc)) 31 ∧ wr.ownsRow (e + 1) 31 5 (.slice ka k kc) k rows.flatten

theorem RelC.call {w u x : World} {b : Nat} {a : Option Addr} {n c r e : Nat} {op : Int} {segs : List ByteArray} {D : Nat} {k : Nat} (h : RelC w u b a n c r e op segs D k) (hG : u.grownBy x (some b)) (hH : Head b a n c x) : RelC w x b a n c r e op segs D k := by
  obtain ⟨ka, kc, rows, kids, h1, h2, h3, h4, h5, h6, h7, h8, h9⟩ := h
  have hb := h6.br
  have hr := h6.rw
  exact ⟨ka, kc, rows, kids, h1, h2, h3, fun i x kd hi hk => (h4 i x kd hi hk).mono (newG_grown hG), h5, h6.call hG hH, h7, h8.kept hG (by simp; omega), owns_kept h9 hG (by omega)⟩
end Go.Proofs.YtfffpflflggonaaGreatDoor.draw

namespace Go.Proofs.YtfffpflflggonaaGreatDoor.draw
open Go.RowKit Go.Proofs.YtfffpflflggonaaGreatDoor.schema

/-- The codes, the parameter's box, the result's box, and the memory that is done. -/
structure CX (w u : World) (b : Nat) (a : Option Addr) (n c : Nat) (A : Array Value) (M0 M : Mem) : Prop where
  head : Head b a n c u
  grown : w.grownBy u (some b)
  br : b < w.heap.size
  box : Own u w.heap.size A 31
  res : Own u (w.heap.size + 1) zeroE 31
  sub0 : Sub M0 w.cell?
  ext : Ext M0 M (w.heap.size + 2)
  sub : Sub M u.cell?
  off : Off b M
theorem CX.start {w : World} {b : Nat} {a : Option Addr} {n c : Nat} {M : Mem} (h : Codes b a n c w) (hM : Sub M w.cell?) (ho : Off b M) (A : Array Value) :
    CX w ((w.alloc (.cells A 31)).alloc (.cells zeroE 31)) b a n c A M M := by
  have h2 := Own.new (w.alloc (.cells A 31)) zeroE 31
  rw [show (w.alloc (.cells A 31)).heap.size = w.heap.size + 1 by simp] at h2
  exact ⟨(h.1.alloc _).alloc _, g_alloc (g_alloc (grown_refl _ _) _) _, h.lt, (Own.new w A _).alloc _, h2, hM, Ext.refl _ _, sub_alloc (sub_alloc hM _) _, ho⟩
theorem CX.size {w u : World} {b : Nat} {a : Option Addr} {n c : Nat} {A : Array Value} {M0 M : Mem} (h : CX w u b a n c A M0 M) : w.heap.size + 2 ≤ u.heap.size := h.res.lt
theorem CX.offs {w u : World} {b : Nat} {a : Option Addr} {n c : Nat} {A : Array Value} {M0 M : Mem} (h : CX w u b a n c A M0 M) {k : Nat} (h1 : w.heap.size ≤ k) (h2 : k < w.heap.size + 2) : Off k M := (off_new h.sub0 h1).ext h.ext h2
theorem CX.codes {w u : World} {b : Nat} {a : Option Addr} {n c : Nat} {A : Array Value} {M0 M : Mem} (h : CX w u b a n c A M0 M) (hC : Codes b a n c w) : Codes b a n c u := hC.still h.grown h.head
theorem CX.glob {w u : World} {b : Nat} {a : Option Addr} {n c : Nat} {A : Array Value} {M0 M : Mem} (h : CX w u b a n c A M0 M) (hg : Glob (but b w)) : Glob (but b u) := hg.mono (sub_of_grown h.grown)
theorem CX.call {w u x : World} {b : Nat} {a : Option Addr} {n c : Nat} {A : Array Value} {M0 M : Mem} (h : CX w u b a n c A M0 M) (hG : u.grownBy x (some b)) (hH : Head b a n c x) : CX w x b a n c A M0 M :=
  ⟨hH, g_call h.grown hG, h.br, h.box.kept hG (by have := h.br; simp; omega), h.res.kept hG (by have := h.br; simp; omega), h.sub0, h.ext, sub_grow h.sub hG (fun k e => by injection e with e; subst e; exact h.off), h.off⟩
theorem CX.alloc {w u : World} {b : Nat} {a : Option Addr} {n c : Nat} {A : Array Value} {M0 M : Mem} (h : CX w u b a n c A M0 M) (o : Obj) : CX w (u.alloc o) b a n c A M0 M := h.call (World.grownBy_alloc u o _) (h.head.alloc o)
theorem CX.set {w u : World} {b : Nat} {a : Option Addr} {n c : Nat} {A : Array Value} {M0 M : Mem} (h : CX w u b a n c A M0 M) (i : Nat) (v : Value) : CX w (u.setCell ⟨w.heap.size, i, none⟩ v) b a n c (A.setIfInBounds i v) M0 M :=
  ⟨h.head.set (by have := h.br; simp; omega) _, g_setCell h.grown (by simp) _, h.br, h.box.set i v, h.res.setOther (by simp) _, h.sub0, h.ext, sub_setCell h.sub (h.offs (Nat.le_refl _) (by simp)) _, h.off⟩
/-- A row of the call's own is appended to. -/
theorem CX.grow {w u x : World} {b : Nat} {a : Option Addr} {n c : Nat} {A : Array Value} {M0 M : Mem} (h : CX w u b a n c A M0 M) {r : Option Nat} (hG : u.grownBy x r) (hr : ∀ k, r = some k → w.heap.size + 2 ≤ k ∧ Off k M) : CX w x b a n c A M0 M := by
  have hne : ∀ k, k < w.heap.size + 2 → r ≠ some k := fun k hk e => by have := (hr k e).1; omega
  have hb := h.br
  refine ⟨h.head.kept hG (hne b (by omega)), ?_, hb, h.box.kept hG (hne _ (by omega)), h.res.kept hG (hne _ (by omega)), h.sub0, h.ext, sub_grow h.sub hG (fun k e => (hr k e).2), h.off⟩
  exact g_own h.grown hG (fun i e => by have := (hr i e).1; omega)
/-- A block that is done. -/
theorem CX.block {w u : World} {b : Nat} {a : Option Addr} {n c : Nat} {A : Array Value} {M0 M : Mem} (h : CX w u b a n c A M0 M) {g : Nat} (hg : w.heap.size + 2 ≤ g) (ho : Off g M) : CX w u b a n c A M0 (addB M g u) :=
  ⟨h.head, h.grown, h.br, h.box, h.res, h.sub0, h.ext.trans (addB_ext ho hg) (Nat.le_refl _), addB_sub h.sub, addB_off h.off (by have := h.br; omega)⟩
/-- The end. -/
theorem CX.done {w u : World} {b : Nat} {a : Option Addr} {n c : Nat} {A : Array Value} {M0 M : Mem} (h : CX w u b a n c A M0 M) {d : ED} {op : Int} {kind name : ByteArray} {va : Option Addr} {vn vc : Nat} {ka : Option Addr} {kn kc : Nat}
    (hE : EAt M d [.int .i64 op, .string kind, .string name, .slice va vn vc, .slice ka kn kc]) (x0 x1 x2 x3 x4 : Value) :
    Drawn b a n c w (fun e w' => CondIs M0 b w e w') (.returned (.agg #[.int .i64 op, .string kind, .string name, .slice va vn vc, .slice ka kn kc]))
      (((((u.setCell ⟨w.heap.size + 1, 0, none⟩ x0).setCell ⟨w.heap.size + 1, 1, none⟩ x1).setCell ⟨w.heap.size + 1, 2, none⟩ x2).setCell ⟨w.heap.size + 1, 3, none⟩ x3).setCell ⟨w.heap.size + 1, 4, none⟩ x4) := by
  have hb := h.br
  have ho : Off (w.heap.size + 1) M := h.offs (by omega) (by omega)
  refine ⟨⟨M, d, op, kind, name, va, vn, vc, ka, kn, kc, rfl, h.ext.low (by omega), ?_, h.off, hE⟩, ?_, ?_⟩
  · exact sub_setCell (sub_setCell (sub_setCell (sub_setCell (sub_setCell h.sub ho _) ho _) ho _) ho _) ho _
  · exact (Head.set (Head.set (Head.set (Head.set (Head.set h.head (by simp <;> omega) _) (by simp <;> omega) _) (by simp <;> omega) _) (by simp <;> omega) _) (by simp <;> omega) _)
  · exact (g_setCell (g_setCell (g_setCell (g_setCell (g_setCell h.grown (by simp <;> omega) _) (by simp <;> omega) _) (by simp <;> omega) _) (by simp <;> omega) _) (by simp <;> omega) _)

end Go.Proofs.YtfffpflflggonaaGreatDoor.draw

namespace Go.Proofs.YtfffpflflggonaaGreatDoor.draw
open Go.RowKit Go.Proofs.YtfffpflflggonaaGreatDoor.schema

/- How many parts a condition has. -/
/- No list in a condition has more than N elements. -/
section
variable {N K k : Nat} {op : Int} {kind name : ByteArray} {vals : List VD} {kids : List ED}
end
end Go.Proofs.YtfffpflflggonaaGreatDoor.draw

namespace Go.Proofs.YtfffpflflggonaaGreatDoor.clause
open Go.RowKit Go.Proofs.YtfffpflflggonaaGreatDoor Go.Proofs.YtfffpflflggonaaGreatDoor.schema Go.Proofs.YtfffpflflggonaaGreatDoor.value Go.Proofs.YtfffpflflggonaaGreatDoor.text Go.Proofs.YtfffpflflggonaaGreatDoor.draw

/- Two conditions of one content. -/
mutual
def SameE : ED → ED → Prop
  | .mk op k n v ks, .mk op' k' n' v' ks' => op = op' ∧ k = k' ∧ n = n' ∧ SameL v v' ∧ SameEL ks ks'
def SameEL : List ED → List ED → Prop
  | [], [] => True
  | a :: r, b :: s => SameE a b ∧ SameEL r s
  | _, _ => False
end
theorem SameEL.len : ∀ {l' l : List ED}, SameEL l' l → l'.length = l.length
  | [], [], _ => rfl
  | [], _ :: _, h => by simp [SameEL] at h
  | _ :: _, [], h => by simp [SameEL] at h
  | _ :: _, _ :: _, h => by simp [h.2.len]

end Go.Proofs.YtfffpflflggonaaGreatDoor.clause

namespace Go.Proofs.YtfffpflflggonaaGreatDoor.clause
open Go.RowKit Go.Proofs.YtfffpflflggonaaGreatDoor Go.Proofs.YtfffpflflggonaaGreatDoor.schema Go.Proofs.YtfffpflflggonaaGreatDoor.value Go.Proofs.YtfffpflflggonaaGreatDoor.text Go.Proofs.YtfffpflflggonaaGreatDoor.draw

def sameVL : List VD → List VD → Bool
  | [], [] => true
  | a :: r, b :: s => eqV a b && sameVL r s
  | _, _ => false
mutual
def sameB : ED → ED → Bool
  | .mk op k n v ks, .mk op' k' n' v' ks' => op == op' && (k.toList == k'.toList && (n.toList == n'.toList && (sameVL v v' && sameKL ks ks')))
def sameKL : List ED → List ED → Bool
  | [], [] => true
  | a :: r, b :: s => sameB a b && sameKL r s
  | _, _ => false
end
theorem sameVL_len : ∀ {a b : List VD}, a.length ≠ b.length → sameVL a b = false
  | [], [], h => absurd rfl h
  | [], _ :: _, _ => rfl
  | _ :: _, [], _ => rfl
  | x :: r, y :: s, h => by rw [sameVL, sameVL_len (a := r) (b := s) (by simpa using h), Bool.and_false]
theorem sameKL_len : ∀ {a b : List ED}, a.length ≠ b.length → sameKL a b = false
  | [], [], h => absurd rfl h
  | [], _ :: _, _ => rfl
  | _ :: _, [], _ => rfl
  | x :: r, y :: s, h => by rw [sameKL, sameKL_len (a := r) (b := s) (by simpa using h), Bool.and_false]
def RV (a b : List VD) (k : Nat) : Prop := sameVL (a.drop k) (b.drop k) = sameVL a b
theorem rv_hit {a b : List VD} {k : Nat} (h : k < a.length) (h' : k < b.length) (h1 : eqV a[k] b[k] = false) (T : RV a b k) : sameVL a b = false := by
  unfold RV at T; rw [← T, List.drop_eq_getElem_cons h, List.drop_eq_getElem_cons h', sameVL, h1]; rfl
theorem rv_miss {a b : List VD} {k : Nat} (h : k < a.length) (h' : k < b.length) (h1 : eqV a[k] b[k] = true) (T : RV a b k) : RV a b (k + 1) := by
  unfold RV at *; rw [← T, List.drop_eq_getElem_cons h, List.drop_eq_getElem_cons h', sameVL, h1]; rfl
theorem rv_end {a b : List VD} {k : Nat} (h : ¬ k < a.length) (h' : a.length = b.length) (T : RV a b k) : sameVL a b = true := by
  unfold RV at T; rw [← T, List.drop_eq_nil_of_le (by omega), List.drop_eq_nil_of_le (by omega)]; rfl
def RK (a b : List ED) (k : Nat) : Prop := sameKL (a.drop k) (b.drop k) = sameKL a b
theorem rk_hit {a b : List ED} {k : Nat} (h : k < a.length) (h' : k < b.length) (h1 : sameB a[k] b[k] = false) (T : RK a b k) : sameKL a b = false := by
  unfold RK at T; rw [← T, List.drop_eq_getElem_cons h, List.drop_eq_getElem_cons h', sameKL, h1]; rfl
theorem rk_miss {a b : List ED} {k : Nat} (h : k < a.length) (h' : k < b.length) (h1 : sameB a[k] b[k] = true) (T : RK a b k) : RK a b (k + 1) := by
  unfold RK at *; rw [← T, List.drop_eq_getElem_cons h, List.drop_eq_getElem_cons h', sameKL, h1]; rfl
theorem rk_end {a b : List ED} {k : Nat} (h : ¬ k < a.length) (h' : a.length = b.length) (T : RK a b k) : sameKL a b = true := by
  unfold RK at T; rw [← T, List.drop_eq_nil_of_le (by omega), List.drop_eq_nil_of_le (by omega)]; rfl

/-- The contract for one condition on the left, whatever stands on the right. -/
def SameOk (f : FuncId) (m : Mem) (d : ED) (r : List Value) : Prop := ∀ (m' : Mem) (d' : ED) (r' : List Value), EAt m' d' r' → ∀ w : World, Sub m w.cell? → Sub m' w.cell? → Calls Tryz.prog f #[.agg r.toArray, .agg r'.toArray] w fun e w' => e = .returned (.bool (sameB d d')) ∧ Below w.heap.size w w'

end Go.Proofs.YtfffpflflggonaaGreatDoor.clause

namespace Go.Proofs.YtfffpflflggonaaGreatDoor.clause
open Go.RowKit Go.Proofs.YtfffpflflggonaaGreatDoor Go.Proofs.YtfffpflflggonaaGreatDoor.schema Go.Proofs.YtfffpflflggonaaGreatDoor.value Go.Proofs.YtfffpflflggonaaGreatDoor.text Go.Proofs.YtfffpflflggonaaGreatDoor.draw

end Go.Proofs.YtfffpflflggonaaGreatDoor.clause

namespace Go.Proofs.YtfffpflflggonaaGreatDoor.clause
open Go.RowKit Go.Proofs.YtfffpflflggonaaGreatDoor Go.Proofs.YtfffpflflggonaaGreatDoor.schema Go.Proofs.YtfffpflflggonaaGreatDoor.value Go.Proofs.YtfffpflflggonaaGreatDoor.text Go.Proofs.YtfffpflflggonaaGreatDoor.draw

end Go.Proofs.YtfffpflflggonaaGreatDoor.clause

namespace Go.Proofs.YtfffpflflggonaaGreatDoor.value
open Go.RowKit Go.Proofs.YtfffpflflggonaaGreatDoor.text

set_option maxRecDepth 100000 in
set_option maxHeartbeats 2000000 in
theorem same_ref (la lb : Option Addr) (ca cb : Nat) (xs ys : List ByteArray) (w : World) (hX : LIn w la xs) (hY : LIn w lb ys) (hm : xs.length ≤ 9223372036854775807) :
    Calls Tryz.prog 120 #[.slice la xs.length ca, .slice lb ys.length cb] w fun e w' => e = .returned (.bool (lsL xs == lsL ys)) ∧ Below w.heap.size w w' := by
  go_enter Tryz.func120, Tryz.ntmps120
  by_cases hl : xs.length = ys.length
  · rw [← hl]
    have hl2 := Lib.hid hl
    clear hl
    go_wp2
    go_loopw [5] (fun i wr => Hid (Below w.heap.size w wr) ∧ ∃ k : Nat, k ≤ xs.length ∧ i = .int .i64 k ∧ Hid (∀ j (hx : j < xs.length) (hy : j < ys.length), j < k → xs[j].toList = ys[j].toList)) (fun i _ => xs.length - (intOf i).toNat)
    case atStart => exact ⟨Below.refl _ _, 0, Nat.zero_le _, rfl, fun _ _ _ h => absurd h (by omega)⟩
    case round =>
      obtain ⟨hb, k, hk, rfl, hA⟩ := hrel
      by_cases hlt : k < xs.length
      · have hly : k < ys.length := by have := hl2.out; omega
        rcases hX with h0 | ⟨bx, ox, rfl, hcx⟩
        · rw [h0] at hlt; simp at hlt
        rcases hY with h0 | ⟨bY, oy, rfl, hcy⟩
        · rw [h0] at hly; simp at hly
        have hc1 := sub_of_below hb.out _ _ (hcx k hlt)
        have hc2 := sub_of_below hb.out _ _ (hcy k hly)
        have n0 : (0 : Int) ≤ (k : Int) := Int.natCast_nonneg _
        have n1 : (k : Int) < (xs.length : Int) := by omega
        clear hcx hcy
        by_cases he : xs[k].toList = ys[k].toList
        · have hA2 := Lib.hid (show ∀ j (hx : j < xs.length) (hy : j < ys.length), j < k + 1 → xs[j].toList = ys[j].toList from fun j hx hy h => by
            rcases Nat.lt_or_ge j k with h1 | h1
            · exact hA.out j hx hy h1
            · obtain rfl : j = k := by omega
              exact he)
          have q : (!xs[k].toList == ys[k].toList) = false := by simp [he]
          clear he
          go_wp2_with fail
          go_quiet (fail)
          go_wp2
          go_roundw
          case rel => exact ⟨bel_drew hb.out _, k + 1, by omega, by go_num, hA2.out⟩
          case measure => simp [intOf]; omega
        · have hQ := Lib.hid (ls_bad hlt hly he)
          have q : (!xs[k].toList == ys[k].toList) = true := by simp [he]
          clear he
          go_wp2_with fail
          go_quiet (fail)
          go_wp2
          go_ret
          exact ⟨ret_bool hQ.out, bel_drew hb.out _⟩
      · have hQ := Lib.hid (ls_good hl2.out (fun j hx hy => hA.out j hx hy (by omega)))
        go_wp2
        go_ret
        exact ⟨ret_bool hQ.out, hb.out⟩
  · have hQ := Lib.hid (ls_len hl)
    have q : ((xs.length : Int) == (ys.length : Int)) = false := by simp; omega
    have q' : ((xs.length : Int) != (ys.length : Int)) = true := by simp; omega
    go_wp2
    go_ret
    exact ⟨ret_bool hQ.out, Below.refl _ _⟩

end Go.Proofs.YtfffpflflggonaaGreatDoor.value

namespace Go.Proofs.YtfffpflflggonaaGreatDoor.value
open Go.RowKit Go.Proofs.YtfffpflflggonaaGreatDoor.text

set_option maxRecDepth 100000 in
set_option maxHeartbeats 2000000 in
theorem equal_ref (k l n m : Int) (s t : ByteArray) (la lb : Option Addr) (ca cb : Nat) (xs ys : List ByteArray) (w : World) (hX : LIn w la xs) (hY : LIn w lb ys) (hm : xs.length ≤ 9223372036854775807) :
    Calls Tryz.prog 54 #[.agg #[.int .i64 k, .int .i64 n, .string s, .slice la xs.length ca], .agg #[.int .i64 l, .int .i64 m, .string t, .slice lb ys.length cb]] w fun e w' => e = .returned (.bool (eqVV k l n m s t (lsL xs == lsL ys))) ∧ Below w.heap.size w w' := by
  have hB := Lib.hid (show Below w.heap.size w ((w.alloc (.cells #[.int .i64 k, .int .i64 n, .string s, .slice la xs.length ca] 76)).alloc (.cells #[.int .i64 l, .int .i64 m, .string t, .slice lb ys.length cb] 76)) from ((Below.refl _ _).alloc (Nat.le_refl _) _).alloc (by simp) _)
  have hX1 := Lib.hid (hX.below hB.out)
  have hY1 := Lib.hid (hY.below hB.out)
  go_enter Tryz.func54, Tryz.ntmps54
  cases hk : (k == l) with
  | false =>
    have hQ := Lib.hid (show false = eqVV k l n m s t (lsL xs == lsL ys) by unfold eqVV; rw [hk]; rfl)
    go_wp2
    go_ret
    exact ⟨ret_b hQ.out, hB.out⟩
  | true =>
    cases hn : (n == m) with
    | false =>
      have hQ := Lib.hid (show false = eqVV k l n m s t (lsL xs == lsL ys) by unfold eqVV; rw [hk, hn]; rfl)
      go_wp2
      go_ret
      exact ⟨ret_b hQ.out, hB.out⟩
    | true =>
      cases ht : (s.toList == t.toList) with
      | false =>
        have hQ := Lib.hid (show false = eqVV k l n m s t (lsL xs == lsL ys) by unfold eqVV; rw [hk, hn, ht]; rfl)
        go_wp2
        go_ret
        exact ⟨ret_b hQ.out, hB.out⟩
      | true =>
        have hQ := Lib.hid (show (lsL xs == lsL ys) = eqVV k l n m s t (lsL xs == lsL ys) by unfold eqVV; rw [hk, hn, ht]; rfl)
        go_wp2_with fail
        refine (same_ref la lb ca cb xs ys _ hX1.out hY1.out hm).mono ?_
        rintro e w1 ⟨rfl, hb1⟩
        have hB2 := Lib.hid (hB.out.trans (hb1.mono hB.out.size))
        go_wp2
        go_ret
        exact ⟨ret_b hQ.out, hB2.out⟩

end Go.Proofs.YtfffpflflggonaaGreatDoor.value

namespace Go.Proofs.YtfffpflflggonaaGreatDoor.clause
open Go.RowKit Go.Sort Go.Proofs.YtfffpflflggonaaGreatDoor Go.Proofs.YtfffpflflggonaaGreatDoor.schema Go.Proofs.YtfffpflflggonaaGreatDoor.value Go.Proofs.YtfffpflflggonaaGreatDoor.text Go.Proofs.YtfffpflflggonaaGreatDoor.draw

/-- Two values are compared for equality, by the reference. -/
theorem eqr_any (a b : VD) (w : World) (ha : LAt w.cell? a) (hb : LAt w.cell? b) :
    Calls Tryz.prog 54 #[.agg #[.int .i64 a.kind, .int .i64 a.num, .string a.text, .slice a.ptr a.len a.cap], .agg #[.int .i64 b.kind, .int .i64 b.num, .string b.text, .slice b.ptr b.len b.cap]] w fun e w' => e = .returned (.bool (eqV a b)) ∧ Below w.heap.size w w' := by
  rw [vd_len ha, vd_len hb]
  exact equal_ref a.kind b.kind a.num b.num a.text b.text a.ptr b.ptr a.cap b.cap a.ls b.ls w (lin_of_rows ha.rows) (lin_of_rows hb.rows) (lenI ha)
end Go.Proofs.YtfffpflflggonaaGreatDoor.clause
