/- append of no elements, wherever they would lie, to a row of the call's own. -/
import Derived.Test.YthnjgbjckggjhaaGreatDoorKJ1
import Derived.Laws.OwnMore
import Derived.Laws.AppendOwnNone
import Derived.Tactics
namespace Go

theorem run_append_owned_zero {P : Program} {w : World} (base : Nat) (t ty e : TypeId) (i : TypeInfo) (size : Nat) (ht : P.underlying t = some (.slice e)) (hi : P.info? e = some i)
    (v : Value) (n : Nat) (xs : List Value) (hown : w.ownsRow base e size v n xs) (a : Option Addr) (c : Nat) :
    (Builtin.append_ #[t, t] ty #[v, .slice a 0 c]).run P w = .ok v w := by
  rcases hown.2 with ⟨rfl, rfl⟩ | ⟨g, cap, cur, rfl, _, _, hnc, _⟩
  · cases a <;> simp [Builtin.append_, run_underlying ht, sizeOf, typeInfo, hi, Builtin.lenOf, Builtin.firstCells, loadCells, loadCellsFrom]
  · cases a <;> simp [Builtin.append_, run_underlying ht, sizeOf, typeInfo, hi, Builtin.lenOf, Builtin.firstCells, hnc, storeCells, loadCells, loadCellsFrom]
theorem wpList_append_own_zero {P : Program} {w : World} {ops : Array Oper} {rest : List Oper} {o : Oper} {a : Act} {Q : Exit → Act → World → Prop} (hgd : o.guard = none) (s x : Operand) (t : TypeId)
    (ho : o.op = .call { callee := .builtin .append, args := #[s, x], argTypes := #[t, t] })
    (base : Nat) (e : TypeId) (i : TypeInfo) (size : Nat) (ht : P.underlying t = some (.slice e)) (hi : P.info? e = some i)
    (v : Value) (n : Nat) (xs : List Value) (hs : a.eval s = v) (hown : w.ownsRow base e size v n xs) (ad : Option Addr) (c : Nat) (hx : a.eval x = .slice ad 0 c)
    (h : wpList P ops Q rest (a.put o.dst v) w) : wpList P ops Q (o :: rest) a w := by
  refine wpList_plain hgd fun K hK => ?_
  have hrun := run_append_owned_zero (P := P) (w := w) base t o.type e i size ht hi v n xs hown ad c
  unfold Oper.wp
  simp [execOp, ho, resolve, invoke, builtin, hs, hx, hrun, Result.andThen]
  exact hK _ _ h
theorem wp_append_own_zero {P : Program} {w : World} {o : Oper} {a : Act} {K : Act → World → Prop} {Q : Exit → Act → World → Prop} (s x : Operand) (t : TypeId)
    (ho : o.op = .call { callee := .builtin .append, args := #[s, x], argTypes := #[t, t] })
    (base : Nat) (e : TypeId) (i : TypeInfo) (size : Nat) (ht : P.underlying t = some (.slice e)) (hi : P.info? e = some i)
    (v : Value) (n : Nat) (xs : List Value) (hs : a.eval s = v) (hown : w.ownsRow base e size v n xs) (ad : Option Addr) (c : Nat) (hx : a.eval x = .slice ad 0 c)
    (h : K (a.put o.dst v) w) : o.wp P a w K Q := by
  have hrun := run_append_owned_zero (P := P) (w := w) base t o.type e i size ht hi v n xs hown ad c
  unfold Oper.wp
  simp [execOp, ho, resolve, invoke, builtin, hs, hx, hrun, Result.andThen]
  exact h

end Go
namespace Go.Proofs.YthnjgbjckggjhaaGreatDoor
open Go.RowKit

theorem rows_len {M : Mem} {sz : Nat} {a : Option Addr} {n c : Nat} {rows : List (List Value)} (h : RowsAt M sz (.slice a n c) rows) : rows.length = n ∧ n ≤ c ∧ c ≤ maxLen := by
  obtain ⟨a', c', h1, h2, h3, -⟩ := h
  injection h1 with h4 h5 h6
  subst h5; subst h6
  exact ⟨rfl, h2, h3⟩
/-- Rows of sz cells each, as the cells behind the slice's address: what an append copies. -/
theorem rows_flat {M : Mem} {sz : Nat} {a : Option Addr} {n c : Nat} {rows : List (List Value)} (h : RowsAt M sz (.slice a n c) rows) (hs : ∀ r ∈ rows, r.length = sz) (hz : 0 < sz) :
    rows = [] ∨ ∃ ad, a = some ad ∧ ∀ j v, rows.flatten[j]? = some v → M (ad.add j) = some v := by
  obtain ⟨a', c', h1, h2, h3, h4⟩ := h
  injection h1 with h5 h6 h7
  subst h5
  rcases h4 with h4 | ⟨blk, off, h5, h8⟩
  · exact Or.inl h4
  · refine Or.inr ⟨⟨blk, off, none⟩, h5, fun j v hj => ?_⟩
    have hjl : j < rows.length * sz := by
      have := (List.getElem?_eq_some_iff.1 hj).1
      rw [flat_len sz rows hs] at this
      exact this
    have hq : j / sz < rows.length := (Nat.div_lt_iff_lt_mul hz).2 hjl
    have hm : j % sz < sz := Nat.mod_lt _ hz
    have hr : rows[j / sz]? = some rows[j / sz] := List.getElem?_eq_getElem hq
    have hl : (rows[j / sz]).length = sz := hs _ (List.getElem_mem hq)
    have hx : (rows[j / sz])[j % sz]? = some (rows[j / sz])[j % sz] := List.getElem?_eq_getElem (by omega)
    have h9 := flat_get sz rows hs _ _ hr _ _ hx
    have e1 : j / sz * sz + j % sz = j := by rw [Nat.mul_comm]; exact Nat.div_add_mod j sz
    rw [e1, hj] at h9
    have h10 := h8 _ _ hr _ _ hx
    have e2 : off + j / sz * sz + j % sz = off + j := by omega
    rw [e2, ← h9] at h10
    have e3 : (⟨blk, off, none⟩ : Addr).add j = ⟨blk, off + j, none⟩ := by unfold Addr.add; split <;> simp_all
    rw [e3]
    exact h10

/-- Rows that lie in a memory are appended to a row of the call's own, be they none. -/
theorem wp_append_rows {P : Program} {w : World} {o : Oper} {a : Act} {K : Act → World → Prop} {Q : Exit → Act → World → Prop} (s x : Operand) (t : TypeId)
    (ho : o.op = .call { callee := .builtin .append, args := #[s, x], argTypes := #[t, t] })
    (base : Nat) (e : TypeId) (i : TypeInfo) (z : Value) (size bytes : Nat) (ht : P.underlying t = some (.slice e)) (hi : P.info? e = some i) (hz : i.zero = some z)
    (hsize : i.size = size) (hby : i.bytes = bytes) (hzs : z.cells.size = size) (hsz : 0 < size)
    (v : Value) (n : Nat) (xs : List Value) (hs : a.eval s = v) (hown : w.ownsRow base e size v n xs)
    (sa : Option Addr) (m c : Nat) (rows : List (List Value)) (M : Mem) (hx : a.eval x = .slice sa m c) (hR : RowsAt M size (.slice sa m c) rows) (hM : Sub M w.cell?) (hr : ∀ r ∈ rows, r.length = size) (h1 : ∀ u ∈ rows.flatten, u.oneCell' = true)
    (h63 : n + m ≤ maxLen) (hbytes : (n + m) * bytes ≤ 140737488355328) (hbase : base ≤ w.heap.size)
    (h : ∀ v' w', w'.ownsRow base e size v' (n + m) (xs ++ rows.flatten) → w.grownBy w' v.ownBlock → K (a.put o.dst v') w') : o.wp P a w K Q := by
  have hln := (rows_len hR).1
  rcases rows_flat hR hr hsz with rfl | ⟨ad, rfl, hc⟩
  · have hm : m = 0 := by rw [← hln]; rfl
    subst hm
    exact wp_append_own_zero s x t ho base e i size ht hi v n xs hs hown sa c hx (h v w (by simpa using hown) (grown_refl _ _))
  · exact wp_append_own w s x t ho base e i z size bytes ht hi hz hsize hby hzs hsz v n xs hs hown ad m c rows.flatten hx (by rw [flat_len size rows hr, hln]) (fun j u hu => hM _ _ (hc j u hu)) h1 h63 hbytes hbase (fun v' w' h2 h3 _ => h v' w' h2 h3)

theorem wpList_append_rows {P : Program} {w : World} {ops : Array Oper} {rest : List Oper} {o : Oper} {a : Act} {Q : Exit → Act → World → Prop} (hgd : o.guard = none) (s x : Operand) (t : TypeId)
    (ho : o.op = .call { callee := .builtin .append, args := #[s, x], argTypes := #[t, t] })
    (base : Nat) (e : TypeId) (i : TypeInfo) (z : Value) (size bytes : Nat) (ht : P.underlying t = some (.slice e)) (hi : P.info? e = some i) (hz : i.zero = some z)
    (hsize : i.size = size) (hby : i.bytes = bytes) (hzs : z.cells.size = size) (hsz : 0 < size)
    (v : Value) (n : Nat) (xs : List Value) (hs : a.eval s = v) (hown : w.ownsRow base e size v n xs)
    (sa : Option Addr) (m c : Nat) (rows : List (List Value)) (M : Mem) (hx : a.eval x = .slice sa m c) (hR : RowsAt M size (.slice sa m c) rows) (hM : Sub M w.cell?) (hr : ∀ r ∈ rows, r.length = size) (h1 : ∀ u ∈ rows.flatten, u.oneCell' = true)
    (h63 : n + m ≤ maxLen) (hbytes : (n + m) * bytes ≤ 140737488355328) (hbase : base ≤ w.heap.size)
    (h : ∀ v' w', w'.ownsRow base e size v' (n + m) (xs ++ rows.flatten) → w.grownBy w' v.ownBlock → wpList P ops Q rest (a.put o.dst v') w') : wpList P ops Q (o :: rest) a w :=
  wpList_plain hgd fun _ hK => wp_append_rows s x t ho base e i z size bytes ht hi hz hsize hby hzs hsz v n xs hs hown sa m c rows M hx hR hM hr h1 h63 hbytes hbase fun v' w' h2 h3 => hK _ _ (h v' w' h2 h3)

end Go.Proofs.YthnjgbjckggjhaaGreatDoor

