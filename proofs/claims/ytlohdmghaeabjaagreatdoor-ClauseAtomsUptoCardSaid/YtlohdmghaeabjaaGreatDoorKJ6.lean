/- append of no elements, wherever they would lie, to a row of the call's own. Memory that only grows: what a changed condition leads to while own boxes and rows are written beside it. -/
import Derived.Test.YtlohdmghaeabjaaGreatDoorKJ1
import Derived.Laws.OwnMore
import Derived.Laws.AppendOwnNone
import Derived.Tactics
import Derived.Test.YtlohdmghaeabjaaGreatDoorKJ5
namespace Go

theorem run_append_owned_zero {P : Program} {w : World} (base : Nat) (t ty e : TypeId) (i : TypeInfo) (size : Nat) (ht : P.underlying t = some (.slice e)) (hi : P.info? e = some i)
    (v : Value) (n : Nat) (xs : List Value) (hown : w.ownsRow base e size v n xs) (a : Option Addr) (c : Nat) :
    (Builtin.append_ #[t, t] ty #[v, .slice a 0 c]).run P w = .ok v w := by
  rcases hown.2 with ⟨rfl, rfl⟩ | ⟨g, cap, cur, rfl, _, _, hnc, _⟩
  · cases a <;> simp [Builtin.append_, run_underlying ht, sizeOf, typeInfo, hi, Builtin.lenOf, Builtin.firstCells, loadCells, loadCellsFrom]
  · cases a <;> simp [Builtin.append_, run_underlying ht, sizeOf, typeInfo, hi, Builtin.lenOf, Builtin.firstCells, hnc, storeCells, loadCells, loadCellsFrom]
theorem wpList_append_own_zero {P : Program} {w : World} {ops : Array Oper} {rest : List Oper} {o : Oper} {a : Act} {Q : Exit → Act → World → Prop} (hgd : o.guard = none) (s x : Operand) (t : TypeId)
    (ho : o.op = .call { callee := .builtin .append, args := #[s, x], argTypes := #[t, t] })
    (base : Nat) (e : TypeId) (i : TypeInfo) (size : Nat) (ht : P.underlying t = some (.slice e)) (hi : P.info? e = some i)
    (v : Value) (n : Nat) (xs : List Value) (hs : a.eval s = v) (hown : w.ownsRow base e size v n xs) (ad : Option Addr) (c : Nat) (hx : a.eval x = .slice ad 0 c)
    (h : wpList P ops Q rest (a.put o.dst v) w) : wpList P ops Q (o :: rest) a w := by
  refine wpList_plain hgd fun K hK => ?_
  have hrun := run_append_owned_zero (P := P) (w := w) base t o.type e i size ht hi v n xs hown ad c
  unfold Oper.wp
  simp [execOp, ho, resolve, invoke, builtin, hs, hx, hrun, Result.andThen]
  exact hK _ _ h
theorem wp_append_own_zero {P : Program} {w : World} {o : Oper} {a : Act} {K : Act → World → Prop} {Q : Exit → Act → World → Prop} (s x : Operand) (t : TypeId)
    (ho : o.op = .call { callee := .builtin .append, args := #[s, x], argTypes := #[t, t] })
    (base : Nat) (e : TypeId) (i : TypeInfo) (size : Nat) (ht : P.underlying t = some (.slice e)) (hi : P.info? e = some i)
    (v : Value) (n : Nat) (xs : List Value) (hs : a.eval s = v) (hown : w.ownsRow base e size v n xs) (ad : Option Addr) (c : Nat) (hx : a.eval x = .slice ad 0 c)
    (h : K (a.put o.dst v) w) : o.wp P a w K Q := by
  have hrun := run_append_owned_zero (P := P) (w := w) base t o.type e i size ht hi v n xs hown ad c
  unfold Oper.wp
  simp [execOp, ho, resolve, invoke, builtin, hs, hx, hrun, Result.andThen]
  exact h

end Go
namespace Go.Proofs.YtlohdmghaeabjaaGreatDoor
open Go.RowKit

theorem rows_len {M : Mem} {sz : Nat} {a : Option Addr} {n c : Nat} {rows : List (List Value)} (h : RowsAt M sz (.slice a n c) rows) : rows.length = n ∧ n ≤ c ∧ c ≤ maxLen := by
  obtain ⟨a', c', h1, h2, h3, -⟩ := h
  injection h1 with h4 h5 h6
  subst h5; subst h6
  exact ⟨rfl, h2, h3⟩
/-- Rows of sz cells each, as the cells behind the slice's address: what an append copies. -/
theorem rows_flat {M : Mem} {sz : Nat} {a : Option Addr} {n c : Nat} {rows : List (List Value)} (h : RowsAt M sz (.slice a n c) rows) (hs : ∀ r ∈ rows, r.length = sz) (hz : 0 < sz) :
    rows = [] ∨ ∃ ad, a = some ad ∧ ∀ j v, rows.flatten[j]? = some v → M (ad.add j) = some v := by
  obtain ⟨a', c', h1, h2, h3, h4⟩ := h
  injection h1 with h5 h6 h7
  subst h5
  rcases h4 with h4 | ⟨blk, off, h5, h8⟩
  · exact Or.inl h4
  · refine Or.inr ⟨⟨blk, off, none⟩, h5, fun j v hj => ?_⟩
    have hjl : j < rows.length * sz := by
      have := (List.getElem?_eq_some_iff.1 hj).1
      rw [flat_len sz rows hs] at this
      exact this
    have hq : j / sz < rows.length := (Nat.div_lt_iff_lt_mul hz).2 hjl
    have hm : j % sz < sz := Nat.mod_lt _ hz
    have hr : rows[j / sz]? = some rows[j / sz] := List.getElem?_eq_getElem hq
    have hl : (rows[j / sz]).length = sz := hs _ (List.getElem_mem hq)
    have hx : (rows[j / sz])[j % sz]? = some (rows[j / sz])[j % sz] := List.getElem?_eq_getElem (by omega)
    have h9 := flat_get sz rows hs _ _ hr _ _ hx
    have e1 : j / sz * sz + j % sz = j := by rw [Nat.mul_comm]; exact Nat.div_add_mod j sz
    rw [e1, hj] at h9
    have h10 := h8 _ _ hr _ _ hx
    have e2 : off + j / sz * sz + j % sz = off + j := by omega
    rw [e2, ← h9] at h10
    have e3 : (⟨blk, off, none⟩ : Addr).add j = ⟨blk, off + j, none⟩ := by unfold Addr.add; split <;> simp_all
    rw [e3]
    exact h10

/-- Rows that lie in a memory are appended to a row of the call's own, be they none. -/
theorem wp_append_rows {P : Program} {w : World} {o : Oper} {a : Act} {K : Act → World → Prop} {Q : Exit → Act → World → Prop} (s x : Operand) (t : TypeId)
    (ho : o.op = .call { callee := .builtin .append, args := #[s, x], argTypes := #[t, t] })
    (base : Nat) (e : TypeId) (i : TypeInfo) (z : Value) (size bytes : Nat) (ht : P.underlying t = some (.slice e)) (hi : P.info? e = some i) (hz : i.zero = some z)
    (hsize : i.size = size) (hby : i.bytes = bytes) (hzs : z.cells.size = size) (hsz : 0 < size)
    (v : Value) (n : Nat) (xs : List Value) (hs : a.eval s = v) (hown : w.ownsRow base e size v n xs)
    (sa : Option Addr) (m c : Nat) (rows : List (List Value)) (M : Mem) (hx : a.eval x = .slice sa m c) (hR : RowsAt M size (.slice sa m c) rows) (hM : Sub M w.cell?) (hr : ∀ r ∈ rows, r.length = size) (h1 : ∀ u ∈ rows.flatten, u.oneCell' = true)
    (h63 : n + m ≤ maxLen) (hbytes : (n + m) * bytes ≤ 140737488355328) (hbase : base ≤ w.heap.size)
    (h : ∀ v' w', w'.ownsRow base e size v' (n + m) (xs ++ rows.flatten) → w.grownBy w' v.ownBlock → K (a.put o.dst v') w') : o.wp P a w K Q := by
  have hln := (rows_len hR).1
  rcases rows_flat hR hr hsz with rfl | ⟨ad, rfl, hc⟩
  · have hm : m = 0 := by rw [← hln]; rfl
    subst hm
    exact wp_append_own_zero s x t ho base e i size ht hi v n xs hs hown sa c hx (h v w (by simpa using hown) (grown_refl _ _))
  · exact wp_append_own w s x t ho base e i z size bytes ht hi hz hsize hby hzs hsz v n xs hs hown ad m c rows.flatten hx (by rw [flat_len size rows hr, hln]) (fun j u hu => hM _ _ (hc j u hu)) h1 h63 hbytes hbase (fun v' w' h2 h3 _ => h v' w' h2 h3)

theorem wpList_append_rows {P : Program} {w : World} {ops : Array Oper} {rest : List Oper} {o : Oper} {a : Act} {Q : Exit → Act → World → Prop} (hgd : o.guard = none) (s x : Operand) (t : TypeId)
    (ho : o.op = .call { callee := .builtin .append, args := #[s, x], argTypes := #[t, t] })
    (base : Nat) (e : TypeId) (i : TypeInfo) (z : Value) (size bytes : Nat) (ht : P.underlying t = some (.slice e)) (hi : P.info? e = some i) (hz : i.zero = some z)
    (hsize : i.size = size) (hby : i.bytes = bytes) (hzs : z.cells.size = size) (hsz : 0 < size)
    (v : Value) (n : Nat) (xs : List Value) (hs : a.eval s = v) (hown : w.ownsRow base e size v n xs)
    (sa : Option Addr) (m c : Nat) (rows : List (List Value)) (M : Mem) (hx : a.eval x = .slice sa m c) (hR : RowsAt M size (.slice sa m c) rows) (hM : Sub M w.cell?) (hr : ∀ r ∈ rows, r.length = size) (h1 : ∀ u ∈ rows.flatten, u.oneCell' = true)
    (h63 : n + m ≤ maxLen) (hbytes : (n + m) * bytes ≤ 140737488355328) (hbase : base ≤ w.heap.size)
    (h : ∀ v' w', w'.ownsRow base e size v' (n + m) (xs ++ rows.flatten) → w.grownBy w' v.ownBlock → wpList P ops Q rest (a.put o.dst v') w') : wpList P ops Q (o :: rest) a w :=
  wpList_plain hgd fun _ hK => wp_append_rows s x t ho base e i z size bytes ht hi hz hsize hby hzs hsz v n xs hs hown sa m c rows M hx hR hM hr h1 h63 hbytes hbase fun v' w' h2 h3 => hK _ _ (h v' w' h2 h3)

end Go.Proofs.YtlohdmghaeabjaaGreatDoor

namespace Go.Proofs.YtlohdmghaeabjaaGreatDoor.draw
open Go.RowKit Go.Proofs.YtlohdmghaeabjaaGreatDoor.schema

/-- M' holds what M holds, and else only what was made from block B on. -/
structure Ext (M M' : Mem) (B : Nat) : Prop where
  sub : Sub M M'
  new : ∀ p v, M' p = some v → M p = some v ∨ B ≤ p.block
theorem Ext.refl (M : Mem) (B : Nat) : Ext M M B := ⟨Sub.refl M, fun _ _ h => Or.inl h⟩
theorem Ext.trans {M M' M2 : Mem} {B B' : Nat} (h : Ext M M' B) (k : Ext M' M2 B') (hB : B ≤ B') : Ext M M2 B :=
  ⟨h.sub.trans k.sub, fun p v hp => by
    rcases k.new p v hp with h1 | h1
    · exact h.new p v h1
    · exact Or.inr (by omega)⟩
theorem Ext.low {M M' : Mem} {B B' : Nat} (h : Ext M M' B') (hB : B ≤ B') : Ext M M' B := (Ext.refl M B).trans h hB
/-- M is memory of the world u, and block k is no part of it. -/
def Off (k : Nat) (M : Mem) : Prop := ∀ p v, M p = some v → p.block ≠ k
theorem Off.ext {k B : Nat} {M M' : Mem} (h : Off k M) (e : Ext M M' B) (hk : k < B) : Off k M' := by
  intro p v hp
  rcases e.new p v hp with h1 | h1
  · exact h p v h1
  · omega
theorem off_new {M : Mem} {u : World} (h : Sub M u.cell?) {k : Nat} (hk : u.heap.size ≤ k) : Off k M := by
  intro p v hp
  have := World.block_lt_of_cell? u p (h p v hp)
  omega
theorem sub_setCell {M : Mem} {u : World} (h : Sub M u.cell?) {q : Addr} (ho : Off q.block M) (x : Value) : Sub M (u.setCell q x).cell? := by
  intro p v hp
  rw [World.cell?_of_block (Below.heap_setCell u q x p.block (ho p v hp))]
  exact h p v hp
theorem sub_grow {M : Mem} {u u' : World} (h : Sub M u.cell?) {r : Option Nat} (g : u.grownBy u' r) (ho : ∀ k, r = some k → Off k M) : Sub M u'.cell? := by
  intro p v hp
  exact g.cell (h p v hp) (by intro e; exact ho _ e.symm p v hp rfl)
theorem sub_alloc {M : Mem} {u : World} (h : Sub M u.cell?) (o : Obj) : Sub M (u.alloc o).cell? := sub_grow h (World.grownBy_alloc u o none) (fun k e => by cases e)
/-- Block g of the world u besides. -/
def addB (M : Mem) (g : Nat) (u : World) : Mem := fun p => if p.block = g then u.cell? p else M p
theorem addB_ext {M : Mem} {g B : Nat} {u : World} (ho : Off g M) (hB : B ≤ g) : Ext M (addB M g u) B := by
  refine ⟨fun p v hp => ?_, fun p v hp => ?_⟩
  · unfold addB
    rw [if_neg (ho p v hp)]
    exact hp
  · unfold addB at hp
    split at hp
    · exact Or.inr (by omega)
    · exact Or.inl hp
theorem addB_sub {M : Mem} {g : Nat} {u : World} (h : Sub M u.cell?) : Sub (addB M g u) u.cell? := by
  intro p v hp
  unfold addB at hp
  split at hp
  · exact hp
  · exact h p v hp
theorem addB_off {M : Mem} {g k : Nat} {u : World} (h : Off k M) (hk : k ≠ g) : Off k (addB M g u) := by
  intro p v hp
  unfold addB at hp
  split at hp
  · omega
  · exact h p v hp
/-- What was made from block B on, without block b, besides. -/
def joinN (M : Mem) (B b : Nat) (u : World) : Mem := fun p => if p.block < B ∨ p.block = b then M p else u.cell? p
theorem joinN_new (M : Mem) (B b : Nat) (u : World) : Sub (newM B b u) (joinN M B b u) := by
  intro p v hp
  unfold newM at hp
  unfold joinN
  split at hp
  · cases hp
  · rename_i h
    rw [if_neg h]
    exact hp
theorem joinN_ext {M : Mem} {B b : Nat} {u : World} (h : Sub M u.cell?) : Ext M (joinN M B b u) B := by
  refine ⟨fun p v hp => ?_, fun p v hp => ?_⟩
  · unfold joinN
    split
    · exact hp
    · exact h p v hp
  · unfold joinN at hp
    split at hp
    · exact Or.inl hp
    · rename_i h2
      exact Or.inr (by omega)
theorem joinN_sub {M : Mem} {B b : Nat} {u : World} (h : Sub M u.cell?) : Sub (joinN M B b u) u.cell? := by
  intro p v hp
  unfold joinN at hp
  split at hp
  · exact h p v hp
  · exact hp
theorem joinN_off {M : Mem} {B b : Nat} {u : World} (h : Off b M) : Off b (joinN M B b u) := by
  intro p v hp
  unfold joinN at hp
  split at hp
  · exact h p v hp
  · rename_i h2
    omega
/-- A slice of rows whose block is a part of M. -/
theorem rows_in {M : Mem} {u : World} {sz : Nat} {v : Value} {rows : List (List Value)} (h : RowsAt u.cell? sz v rows) (hv : ∀ n, v.ownBlock = some n → ∀ p : Addr, p.block = n → M p = u.cell? p) : RowsAt M sz v rows := by
  obtain ⟨a, c, h1, h2, h3, h4⟩ := h
  refine ⟨a, c, h1, h2, h3, ?_⟩
  rcases h4 with h4 | ⟨blk, off, h5, h6⟩
  · exact Or.inl h4
  · refine Or.inr ⟨blk, off, h5, fun i r hi j x hx => ?_⟩
    rw [hv blk (by rw [h1, h5]; rfl) _ rfl]
    exact h6 i r hi j x hx

/-- What a changed condition is: some condition, in the memory M and in new memory. -/
def CondIs (M : Mem) (b : Nat) (w : World) (e : Ending) (w' : World) : Prop :=
  ∃ (M' : Mem) (d : ED) (op : Int) (kind name : ByteArray) (va : Option Addr) (vn vc : Nat) (ka : Option Addr) (kn kc : Nat), e = .returned (.agg #[.int .i64 op, .string kind, .string name, .slice va vn vc, .slice ka kn kc]) ∧
    Ext M M' w.heap.size ∧ Sub M' w'.cell? ∧ Off b M' ∧ EAt M' d [.int .i64 op, .string kind, .string name, .slice va vn vc, .slice ka kn kc]
/-- The five cells of a condition. -/
theorem eat_five {m : Mem} {d : ED} {r : List Value} (h : EAt m d r) : ∃ (op : Int) (kind name : ByteArray) (va : Option Addr) (vn vc : Nat) (ka : Option Addr) (kn kc : Nat), r = [.int .i64 op, .string kind, .string name, .slice va vn vc, .slice ka kn kc] := by
  cases h with
  | mk rows hv hk hl hL h =>
    obtain ⟨a, c, rfl, -⟩ := hv
    obtain ⟨a2, c2, rfl, -⟩ := hk
    exact ⟨_, _, _, _, _, _, _, _, _, rfl⟩
/-- One of the parts is another one. -/
theorem eat_put {M : Mem} {op : Int} {kind name : ByteArray} {vals : List VD} {kids : List ED} {vs ks : Value} {rows : List (List Value)} {k : Nat} {d : ED} {r : List Value}
    (hv : RowsAt M 4 vs (vals.map VD.row)) (hk : RowsAt M 5 ks (rows.set k r)) (hl : rows.length = kids.length) (hL : ∀ v ∈ vals, LAt M v) (h : ∀ (i : Nat) (r : List Value) (k : ED), rows[i]? = some r → kids[i]? = some k → EAt M k r) (hd : EAt M d r) :
    EAt M (.mk op kind name vals (kids.set k d)) [.int .i64 op, .string kind, .string name, vs, ks] :=
  .mk (rows.set k r) hv hk (by simp [hl]) hL (fun i r' k' hi hk' => by
    by_cases e : i = k
    · subst e
      have h1 : i < rows.length := by have := (List.getElem?_eq_some_iff.1 hi).1; simpa using this
      rw [List.getElem?_set_self h1] at hi
      rw [List.getElem?_set_self (by omega)] at hk'
      injection hi with hi
      injection hk' with hk'
      subst hi; subst hk'
      exact hd
    · rw [List.getElem?_set_ne (fun h => e h.symm)] at hi hk'
      exact h i r' k' hi hk')
/-- One part more. -/
theorem eat_snoc {M : Mem} {op : Int} {kind name : ByteArray} {vals : List VD} {kids : List ED} {vs ks : Value} {rows : List (List Value)} {d : ED} {r : List Value}
    (hv : RowsAt M 4 vs (vals.map VD.row)) (hk : RowsAt M 5 ks (rows ++ [r])) (hl : rows.length = kids.length) (hL : ∀ v ∈ vals, LAt M v) (h : ∀ (i : Nat) (r : List Value) (k : ED), rows[i]? = some r → kids[i]? = some k → EAt M k r) (hd : EAt M d r) :
    EAt M (.mk op kind name vals (kids ++ [d])) [.int .i64 op, .string kind, .string name, vs, ks] :=
  .mk (rows ++ [r]) hv hk (by simp [hl]) hL (fun i r' k' hi hk' => by
    rcases Nat.lt_trichotomy i rows.length with h1 | h1 | h1
    · rw [List.getElem?_append_left h1] at hi
      rw [List.getElem?_append_left (by omega)] at hk'
      exact h i r' k' hi hk'
    · rw [List.getElem?_append_right (by omega), h1, Nat.sub_self] at hi
      rw [List.getElem?_append_right (by omega), h1, hl, Nat.sub_self] at hk'
      simp at hi hk'
      subst hi; subst hk'
      exact hd
    · rw [List.getElem?_append_right (by omega), List.getElem?_singleton, if_neg (by omega)] at hi
      cases hi)
/-- A condition of one or two parts, made anew. -/
theorem eat_list {M : Mem} {op : Int} {kids : List ED} {ks : Value} {rows : List (List Value)} (hk : RowsAt M 5 ks rows) (hl : rows.length = kids.length) (h : ∀ (i : Nat) (r : List Value) (k : ED), rows[i]? = some r → kids[i]? = some k → EAt M k r) :
    EAt M (.mk op ⟨#[]⟩ ⟨#[]⟩ [] kids) [.int .i64 op, .string ⟨#[]⟩, .string ⟨#[]⟩, .slice none 0 0, ks] := .mk rows (rows_nil _ _) hk hl (fun v hv => by cases hv) h

/-- The parts of a condition that lies in a memory. -/
theorem eat_parts {M : Mem} {op : Int} {kind name : ByteArray} {va : Option Addr} {vn vc : Nat} {ka : Option Addr} {kn kc : Nat} {d : ED} (h : EAt M d [.int .i64 op, .string kind, .string name, .slice va vn vc, .slice ka kn kc]) :
    ∃ (vals : List VD) (kids : List ED) (rows : List (List Value)), d = .mk op kind name vals kids ∧ RowsAt M 4 (.slice va vn vc) (vals.map VD.row) ∧ RowsAt M 5 (.slice ka kn kc) rows ∧ rows.length = kids.length ∧ (∀ v ∈ vals, LAt M v) ∧
      ∀ (i : Nat) (r : List Value) (k : ED), rows[i]? = some r → kids[i]? = some k → EAt M k r := by
  cases h with
  | mk rows hv hk hl hL h => exact ⟨_, _, rows, rfl, hv, hk, hl, hL, h⟩
/-- Another operation, kind or name. -/
theorem eat_head {M : Mem} {op : Int} {kind name : ByteArray} {vals : List VD} {kids : List ED} {vs ks : Value} (h : EAt M (.mk op kind name vals kids) [.int .i64 op, .string kind, .string name, vs, ks]) (op' : Int) (kind' name' : ByteArray) :
    EAt M (.mk op' kind' name' vals kids) [.int .i64 op', .string kind', .string name', vs, ks] := by
  cases h with
  | mk rows hv hk hl hL h => exact .mk rows hv hk hl hL h
/-- Other values. -/
theorem eat_vals {M : Mem} {op : Int} {kind name : ByteArray} {vals vals' : List VD} {kids : List ED} {vs vs' ks : Value} (h : EAt M (.mk op kind name vals kids) [.int .i64 op, .string kind, .string name, vs, ks]) (hv' : RowsAt M 4 vs' (vals'.map VD.row)) (hL' : ∀ v ∈ vals', LAt M v) :
    EAt M (.mk op kind name vals' kids) [.int .i64 op, .string kind, .string name, vs', ks] := by
  cases h with
  | mk rows hv hk hl hL h => exact .mk rows hv' hk hl hL' h
theorem rows5 {M : Mem} {rows : List (List Value)} {kids : List ED} (hl : rows.length = kids.length) (h : ∀ (i : Nat) (r : List Value) (k : ED), rows[i]? = some r → kids[i]? = some k → EAt M k r) : ∀ r ∈ rows, r.length = 5 := by
  intro r hr
  obtain ⟨i, hi, rfl⟩ := List.getElem_of_mem hr
  have h1 := h i rows[i] (kids[i]'(by omega)) (List.getElem?_eq_getElem hi) (List.getElem?_eq_getElem (by omega))
  obtain ⟨op, kind, name, va, vn, vc, ka, kn, kc, e⟩ := eat_five h1
  rw [e]
  rfl
theorem rows4 (l : List VD) : ∀ r ∈ l.map VD.row, r.length = 4 := by
  intro r hr
  obtain ⟨d, -, rfl⟩ := List.mem_map.1 hr
  rfl
/-- The cells of rows of conditions, one cell each. -/
theorem flat5_one {M : Mem} {rows : List (List Value)} {kids : List ED} (hl : rows.length = kids.length) (h : ∀ (i : Nat) (r : List Value) (k : ED), rows[i]? = some r → kids[i]? = some k → EAt M k r) : ∀ v ∈ rows.flatten, v.oneCell' = true := by
  intro v hv
  obtain ⟨r, hr, hv⟩ := List.mem_flatten.1 hv
  obtain ⟨i, hi, rfl⟩ := List.getElem_of_mem hr
  have h1 := h i rows[i] (kids[i]'(by omega)) (List.getElem?_eq_getElem hi) (List.getElem?_eq_getElem (by omega))
  obtain ⟨op, kind, name, va, vn, vc, ka, kn, kc, e⟩ := eat_five h1
  rw [e] at hv
  simp only [List.mem_cons, List.not_mem_nil, or_false] at hv
  rcases hv with rfl | rfl | rfl | rfl | rfl <;> rfl
theorem flat4_one (l : List VD) : ∀ v ∈ (l.map VD.row).flatten, v.oneCell' = true := by
  intro v hv
  obtain ⟨r, hr, hv⟩ := List.mem_flatten.1 hv
  obtain ⟨d, -, rfl⟩ := List.mem_map.1 hr
  simp only [VD.row, List.mem_cons, List.not_mem_nil, or_false] at hv
  rcases hv with rfl | rfl | rfl | rfl <;> rfl

end Go.Proofs.YtlohdmghaeabjaaGreatDoor.draw
