/- Attributes of the call's own, appended to; what the reference's With holds while it goes over the contexts. -/
import Derived.Test.YtamkmdlfhlbbeaaGreatDoorKSuWx
import Derived.Test.YtamkmdlfhlbbeaaGreatDoorKJ20
import Derived.Test.YtamkmdlfhlbbeaaGreatDoorKJ20
import Derived.Test.YtamkmdlfhlbbeaaGreatDoorKSuX
import Derived.Deep.AppendLies
namespace Go.Proofs.YtamkmdlfhlbbeaaGreatDoor.subj
open Go.RowKit Go.Deep Go.Proofs.YtamkmdlfhlbbeaaGreatDoor Go.Proofs.YtamkmdlfhlbbeaaGreatDoor.schema Go.Proofs.YtamkmdlfhlbbeaaGreatDoor.value Go.Proofs.YtamkmdlfhlbbeaaGreatDoor.text Go.Proofs.YtamkmdlfhlbbeaaGreatDoor.clause Go.Proofs.YtamkmdlfhlbbeaaGreatDoor.draw

/-- Attributes in a row of the call's own. -/
def AS (B : Nat) (v : Value) (L : List AD) (w : World) : Prop := w.ownsRow B 79 5 v L.length (L.map AD.row).flatten
theorem AS.out {B : Nat} {v : Value} {L : List AD} {w : World} (h : AS B v L w) : w.ownsRow B 79 5 v L.length (L.map AD.row).flatten := h
theorem as_nil (B : Nat) (w : World) : AS B (.slice none 0 0) [] w := World.ownsRow_nil w B _ _
theorem AS.kept {B : Nat} {v : Value} {L : List AD} {w u : World} {r : Option Nat} (h : AS B v L w) (g : w.grownBy u r) (hr : ∀ x, r = some x → x < B) : AS B v L u := by
  have ho := h.out
  refine ho.kept g ?_
  cases hv : v.ownBlock with
  | none => exact Or.inl rfl
  | some k => exact Or.inr (fun e => by have := (ho.lt k hv).1; have := hr k e.symm; omega)
theorem AS.below {B : Nat} {v : Value} {L : List AD} {w u : World} (h : AS B v L w) (hb : Below w.heap.size w u) : AS B v L u := h.kept (grown_of_below hb none) (fun x e => by cases e)
theorem AS.rows {B : Nat} {v : Value} {L : List AD} {w : World} (h : AS B v L w) : RowsAt w.cell? 5 v (L.map AD.row) := rows_of_owns h.out (L.map AD.row) (by simp) (rows5a L) rfl
theorem as_form {B : Nat} {v : Value} {L : List AD} {w : World} (h : AS B v L w) : ∃ a c, v = .slice a L.length c := by
  obtain ⟨a, c, h1, -⟩ := h.rows
  rw [List.length_map] at h1
  exact ⟨a, c, h1⟩
theorem AS.below_own {B : Nat} {v : Value} {L : List AD} {w u : World} (h : AS B v L w) (hB : B ≤ w.heap.size) (g : w.grownBy u v.ownBlock) : Below B w u :=
  (Below.refl B w).grown g hB (fun k hk => (h.out.lt k hk).1)
/-- One attribute, written out. -/
theorem row_lit {w : World} {g : Nat} {d : AD} (h : Own w g #[.string d.name, .int .i64 d.val.kind, .int .i64 d.val.num, .string d.val.text, .slice d.val.ptr d.val.len d.val.cap] 79) : RowsAt w.cell? 5 (.slice (some ⟨g, 0, none⟩) 1 1) ([d].map AD.row) := by
  refine ⟨_, 1, rfl, by simp, by decide, Or.inr ⟨g, 0, rfl, fun i r hr j x hx => ?_⟩⟩
  match i, hr with
  | 0, hr =>
    injection hr with hr
    subst hr
    rw [Nat.zero_mul, Nat.add_zero, Nat.zero_add, ← hx]
    exact (h.cell j).trans (by simp [AD.row, VD.row])
  | i + 1, hr => simp at hr
/-- Rows cut off at a place. -/
theorem rows_take {m : Mem} {sz : Nat} {a : Option Addr} {n c k : Nat} {rows : List (List Value)} (h : RowsAt m sz (.slice a n c) rows) (hk : k ≤ rows.length) : RowsAt m sz (.slice a k c) (rows.take k) := by
  obtain ⟨a0, c0, e, h2, h3, h4⟩ := h
  injection e with e1 e2 e3
  subst e1; subst e3
  refine ⟨a, c, by rw [List.length_take, Nat.min_eq_left hk], by rw [List.length_take]; omega, h3, ?_⟩
  rcases h4 with rfl | ⟨blk, off, rfl, h5⟩
  · exact Or.inl (by simp)
  · refine Or.inr ⟨blk, off, rfl, fun i r hr j x hx => h5 i r ?_ j x hx⟩
    rw [List.getElem?_take] at hr
    split at hr
    · exact hr
    · cases hr
/-- Rows from a place on. -/
theorem rows_drop {m : Mem} {sz : Nat} {blk off n c k : Nat} {rows : List (List Value)} (h : RowsAt m sz (.slice (some ⟨blk, off, none⟩) n c) rows) (hk : k ≤ rows.length) : RowsAt m sz (.slice (some ⟨blk, off + k * sz, none⟩) (n - k) (c - k)) (rows.drop k) := by
  obtain ⟨a0, c0, e, h2, h3, h4⟩ := h
  injection e with e1 e2 e3
  subst e1; subst e3; subst e2
  refine ⟨_, c - k, by rw [List.length_drop], by rw [List.length_drop]; omega, by omega, ?_⟩
  rcases h4 with rfl | ⟨b2, o2, e, h5⟩
  · exact Or.inl (by simp)
  · injection e with e
    injection e with e1 e2
    subst e1; subst e2
    refine Or.inr ⟨blk, off + k * sz, rfl, fun i r hr j x hx => ?_⟩
    rw [List.getElem?_drop] at hr
    have := h5 (k + i) r hr j x hx
    rw [show off + k * sz + i * sz + j = off + (k + i) * sz + j by rw [Nat.add_mul]; omega]
    exact this
theorem rows_end {m : Mem} {sz : Nat} {b : Option Addr} {c' k : Nat} {rows : List (List Value)} (hk : k = rows.length) (hc : c' ≤ maxLen) : RowsAt m sz (.slice b 0 c') (rows.drop k) := by
  refine ⟨b, c', by rw [hk]; simp, by rw [hk]; simp, hc, Or.inl (by rw [hk]; simp)⟩

/-- 'append(l, m...)' of attributes that lie somewhere, be they none, at a step of a region that draws its order. -/
theorem step_append_attrs {ops : Array Oper} {o : Oper} {a : Act} {K : Act → World → Prop} {Q : Exit → Act → World → Prop} {E : Prop} {w : World} (hgd : o.guard = none) (s x : Operand)
    (ho : o.op = .call { callee := .builtin .append, args := #[s, x], argTypes := #[35, 35] })
    (B : Nat) (va : Option Addr) (n vc : Nat) (L : List AD) (hs : a.eval s = .slice va n vc) (hown : AS B (.slice va n vc) L w) (hn : n = L.length)
    (sa : Option Addr) (m c : Nat) (L2 : List AD) (hx : a.eval x = .slice sa m c) (hR : RowsAt w.cell? 5 (.slice sa m c) (L2.map AD.row))
    (hl : n + m ≤ 1099511627776) (hB : B ≤ w.heap.size)
    (h : ∀ va' vc' w', AS B (.slice va' (n + m) vc') (L ++ L2) w' → n + m = (L ++ L2).length → Below B w w' → w.grownBy w' (Value.slice va n vc).ownBlock → K (a.put o.dst (.slice va' (n + m) vc')) w') :
    if Region.wanted o (yielded ops a.tmps) = true then Oper.wp Tryz.prog o a w K Q else E := by
  have hw : Region.wanted o (yielded ops a.tmps) = true := by simp [Region.wanted, hgd]
  rw [if_pos hw]
  subst hn
  have hm := (rows_len hR).1
  rw [List.length_map] at hm
  subst hm
  obtain ⟨i0, hi, hz0, hz1, hz2⟩ := info_parts info5
  refine wp_append_rows s x _ ho B 79 i0 (.agg #[.string ⟨#[]⟩, .int .i64 0, .int .i64 0, .string ⟨#[]⟩, .slice none 0 0]) 5 72 Tryz.underlying35 hi hz0 hz1 hz2 rfl (by decide) (.slice va L.length vc) L.length (L.map AD.row).flatten hs hown.out sa L2.length c (L2.map AD.row) w.cell? hx hR (fun _ _ e => e) (rows5a L2) (flat5a L2) (by unfold maxLen; omega) (by omega) hB ?_
  intro v' w' h2 h3
  have e1 : (L.map AD.row).flatten ++ (L2.map AD.row).flatten = ((L ++ L2).map AD.row).flatten := by rw [List.map_append, List.flatten_append]
  have e2 : L.length + L2.length = (L ++ L2).length := by simp
  rw [e1] at h2
  have hbs : AS B v' (L ++ L2) w' := by
    show w'.ownsRow B _ 5 _ (L ++ L2).length _
    rw [← e2]
    exact h2
  obtain ⟨va', vc', rfl⟩ := as_form hbs
  have hb := hown.below_own hB h3
  rw [← e2] at hbs ⊢
  exact h va' vc' w' hbs e2 hb h3
/-- The same, where one operation comes behind another. -/
theorem wpList_append_attrs {ops : Array Oper} {rest : List Oper} {o : Oper} {a : Act} {Q : Exit → Act → World → Prop} {w : World} (hgd : o.guard = none) (s x : Operand)
    (ho : o.op = .call { callee := .builtin .append, args := #[s, x], argTypes := #[35, 35] })
    (B : Nat) (va : Option Addr) (n vc : Nat) (L : List AD) (hs : a.eval s = .slice va n vc) (hown : AS B (.slice va n vc) L w) (hn : n = L.length)
    (sa : Option Addr) (m c : Nat) (L2 : List AD) (hx : a.eval x = .slice sa m c) (hR : RowsAt w.cell? 5 (.slice sa m c) (L2.map AD.row))
    (hl : n + m ≤ 1099511627776) (hB : B ≤ w.heap.size)
    (h : ∀ va' vc' w', AS B (.slice va' (n + m) vc') (L ++ L2) w' → n + m = (L ++ L2).length → Below B w w' → w.grownBy w' (Value.slice va n vc).ownBlock → wpList Tryz.prog ops Q rest (a.put o.dst (.slice va' (n + m) vc')) w') :
    wpList Tryz.prog ops Q (o :: rest) a w := by
  subst hn
  have hm := (rows_len hR).1
  rw [List.length_map] at hm
  subst hm
  obtain ⟨i0, hi, hz0, hz1, hz2⟩ := info_parts info5
  refine wpList_append_rows hgd s x _ ho B 79 i0 (.agg #[.string ⟨#[]⟩, .int .i64 0, .int .i64 0, .string ⟨#[]⟩, .slice none 0 0]) 5 72 Tryz.underlying35 hi hz0 hz1 hz2 rfl (by decide) (.slice va L.length vc) L.length (L.map AD.row).flatten hs hown.out sa L2.length c (L2.map AD.row) w.cell? hx hR (fun _ _ e => e) (rows5a L2) (flat5a L2) (by unfold maxLen; omega) (by omega) hB ?_
  intro v' w' h2 h3
  have e1 : (L.map AD.row).flatten ++ (L2.map AD.row).flatten = ((L ++ L2).map AD.row).flatten := by rw [List.map_append, List.flatten_append]
  have e2 : L.length + L2.length = (L ++ L2).length := by simp
  rw [e1] at h2
  have hbs : AS B v' (L ++ L2) w' := by
    show w'.ownsRow B _ 5 _ (L ++ L2).length _
    rw [← e2]
    exact h2
  obtain ⟨va', vc', rfl⟩ := as_form hbs
  have hb := hown.below_own hB h3
  rw [← e2] at hbs ⊢
  exact h va' vc' w' hbs e2 hb h3

/-- A value in its box. -/
def VC (n : Nat) (v : VD) (W : World) : Prop := W.cell? ⟨n + 1, 0, none⟩ = some (.int .i64 v.kind) ∧ W.cell? ⟨n + 1, 1, none⟩ = some (.int .i64 v.num) ∧ W.cell? ⟨n + 1, 2, none⟩ = some (.string v.text) ∧ W.cell? ⟨n + 1, 3, none⟩ = some (.slice v.ptr v.len v.cap)

/-- The boxes and the contexts of the reference's With. -/
structure RW (w wr : World) (pa : Option Addr) (n c : Nat) (v : VD) (B g cap : Nat) (L : List CT) : Prop where
  x : WX w wr pa n c v
  row : wr.ownsRow B 37 3 (.slice (some ⟨g, 0, none⟩) L.length cap) L.length (L.map CT.row).flatten
  low : w.heap.size + 1 + 1 < B
  each : ∀ u ∈ L, CAt (excl [w.heap.size + 1 + 1, g] wr) u
section
variable {w wr u : World} {pa : Option Addr} {n c : Nat} {v : VD} {B g cap : Nat} {L : List CT}
theorem RW.Bg (h : RW w wr pa n c v B g cap L) : B ≤ g ∧ g < wr.heap.size := h.row.lt g rfl
theorem RW.call (h : RW w wr pa n c v B g cap L) (hb : Below wr.heap.size wr u) : RW w u pa n c v B g cap L :=
  ⟨h.x.call hb, h.row.kept (grown_of_below hb none) (Or.inr (by intro e; cases e)), h.low, fun y hy => (h.each y hy).mono (excl_grown (grown_of_below hb none) (fun k e => by cases e))⟩
theorem RW.cells (h : RW w wr pa n c v B g cap L) {i : Nat} {x : CT} (hk : L[i]? = some x) :
    wr.cell? ⟨g, i * 3, none⟩ = some (.string x.kind) ∧ wr.cell? ⟨g, i * 3 + 2, none⟩ = some (.slice x.ptr x.len x.cap) ∧ wr.frozen? ⟨g, i * 3 + 2, none⟩ = false := by
  have hkl : i < L.length := (List.getElem?_eq_some_iff.1 hk).1
  have hr : (L.map CT.row)[i]? = some x.row := by rw [List.getElem?_map, hk]; rfl
  refine ⟨?_, ?_, h.row.frozenAt _⟩
  · rw [h.row.cellAt _ (by omega)]; exact flat_get 3 _ (rows3c L) i _ hr 0 _ rfl
  · rw [h.row.cellAt _ (by omega)]; exact flat_get 3 _ (rows3c L) i _ hr 2 _ rfl
theorem RW.attrs (h : RW w wr pa n c v B g cap L) {i : Nat} {x : CT} (hk : L[i]? = some x) : RowsAt wr.cell? 5 (.slice x.ptr x.len x.cap) (x.attrs.map AD.row) :=
  (h.each x (List.mem_of_getElem? hk)).rows.mono (excl_sub _ _)
theorem old_excl {X : List Nat} (hb : Below w.heap.size w wr) (hX : ∀ k ∈ X, w.heap.size ≤ k) : Sub w.cell? (excl X wr) := fun p x h1 =>
  have hl := World.block_lt_of_cell? w p h1
  excl_mk (fun e => by have := hX _ e; omega) ((hb.cell hl).trans h1)
/-- The attributes of a context are replaced. -/
theorem RW.put (h : RW w wr pa n c v B g cap L) {i : Nat} {kd ky : ByteArray} {p a2 : Option Addr} {m m' n2 c2 E : Nat} {at' L2 : List AD} (hk : L[i]? = some ⟨kd, ky, p, m, m', at'⟩) (own : AS E (.slice a2 n2 c2) L2 wr) (hE : g < E)
    (hL : ∀ a ∈ L2, a ∈ at' ∨ a.val = v) (hv : LAt w.cell? v) : RW w (wr.setCell ⟨g, i * 3 + 2, none⟩ (.slice a2 n2 c2)) pa n c v B g cap (L.set i ⟨kd, ky, a2, n2, c2, L2⟩) := by
  have hB := h.Bg
  have hlow := h.low
  have hs : Sub (excl [w.heap.size + 1 + 1, g] wr) (excl [w.heap.size + 1 + 1, g] (wr.setCell ⟨g, i * 3 + 2, none⟩ (.slice a2 n2 c2))) := excl_set (by simp) _
  have hm := h.each _ (List.mem_of_getElem? hk)
  refine ⟨⟨h.x.low.setCell (by simp; omega) _, h.x.s.setOther (by simp; omega) _, h.x.v.setOther (by simp; omega) _, h.x.z.setOther (by simp; omega) _⟩, ?_, hlow, ?_⟩
  · have := (h.row.stored (i * 3 + 2) (.slice a2 n2 c2)).1
    rw [ct_set (c' := ⟨kd, ky, a2, n2, c2, L2⟩) hk (by decide) rfl] at this
    rw [List.length_set]
    exact this
  · intro y hy
    rcases List.mem_or_eq_of_mem_set hy with hy | rfl
    · exact (h.each y hy).mono hs
    · refine (show CAt (excl [w.heap.size + 1 + 1, g] wr) ⟨kd, ky, a2, n2, c2, L2⟩ from ⟨rows_excl own.rows (fun k hk => ?_), fun a ha => ?_, hm.key⟩).mono hs
      · have := (own.out.lt k hk).1
        simp
        omega
      · rcases hL a ha with h1 | h1
        · exact hm.each a h1
        · rw [h1]
          exact hv.mono (old_excl h.x.low (by simp; omega))
/-- The contexts are handed back. -/
theorem RW.done (h : RW w wr pa n c v B g cap L) (x : Value) : SAt (wr.setCell ⟨w.heap.size + 1 + 1, 0, none⟩ x).cell? (.slice (some ⟨g, 0, none⟩) L.length cap) L ∧ Below w.heap.size w (wr.setCell ⟨w.heap.size + 1 + 1, 0, none⟩ x) := by
  have hB := h.Bg
  have hlow := h.low
  refine ⟨⟨?_, fun y hy => (h.each y hy).mono ((excl_set (X := [w.heap.size + 1 + 1, g]) (by simp) x).trans (excl_sub _ _))⟩, h.x.low.setCell (by simp; omega) x⟩
  exact rows_of_owns (owns_kept h.row (grown_setCell wr (w.heap.size + 1 + 1) 0 x) (by omega)) (L.map CT.row) (by simp) (rows3c L) rfl
theorem RW.start (hW : WX w wr pa n c v) (hown : wr.ownsRow B 37 3 (.slice (some ⟨g, 0, none⟩) L.length cap) L.length (L.map CT.row).flatten) (hB : w.heap.size + 1 + 1 < B) (hS : ∀ u ∈ L, CAt w.cell? u) : RW w wr pa n c v B g cap L := by
  have := (hown.lt g rfl).1
  exact ⟨hW, hown, hB, fun y hy => (hS y hy).mono (old_excl hW.low (by simp; omega))⟩
end

end Go.Proofs.YtamkmdlfhlbbeaaGreatDoor.subj

