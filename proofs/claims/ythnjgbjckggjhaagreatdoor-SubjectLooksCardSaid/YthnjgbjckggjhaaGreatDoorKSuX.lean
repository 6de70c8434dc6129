/- What the walk over a changed subject holds: the row of contexts of its own. -/
import Derived.Test.YthnjgbjckggjhaaGreatDoorKSuC
import Derived.Test.YthnjgbjckggjhaaGreatDoorKClB
import Derived.Test.YthnjgbjckggjhaaGreatDoorKApp0
namespace Go.Proofs.YthnjgbjckggjhaaGreatDoor.subj
open Go.RowKit Go.Proofs.YthnjgbjckggjhaaGreatDoor Go.Proofs.YthnjgbjckggjhaaGreatDoor.schema Go.Proofs.YthnjgbjckggjhaaGreatDoor.value Go.Proofs.YthnjgbjckggjhaaGreatDoor.text Go.Proofs.YthnjgbjckggjhaaGreatDoor.clause Go.Proofs.YthnjgbjckggjhaaGreatDoor.draw

/-- The memory but for some blocks. -/
def excl (X : List Nat) (w : World) : Mem := fun p => if p.block ∈ X then none else w.cell? p
theorem excl_some {X : List Nat} {w : World} {p : Addr} {v : Value} (h : excl X w p = some v) : p.block ∉ X ∧ w.cell? p = some v := by
  unfold excl at h
  split at h
  · cases h
  · rename_i hn; exact ⟨hn, h⟩
theorem excl_mk {X : List Nat} {w : World} {p : Addr} {v : Value} (h1 : p.block ∉ X) (h2 : w.cell? p = some v) : excl X w p = some v := by
  unfold excl; rw [if_neg h1]; exact h2
theorem excl_sub (X : List Nat) (w : World) : Sub (excl X w) w.cell? := fun _ _ h => (excl_some h).2
theorem excl_up {X Y : List Nat} (w : World) (h : ∀ k ∈ X, k ∈ Y) : Sub (excl Y w) (excl X w) := fun _ _ h1 =>
  have h2 := excl_some h1
  excl_mk (fun e => h2.1 (h _ e)) h2.2
theorem excl_but {X : List Nat} {b : Nat} (w : World) (h : b ∈ X) : Sub (excl X w) (but b w) := fun p v h1 => by
  have h2 := excl_some h1
  unfold but
  rw [if_neg (fun e => h2.1 (by rw [e]; exact h))]
  exact h2.2
theorem excl_grown {X : List Nat} {w u : World} {r : Option Nat} (g : w.grownBy u r) (hr : ∀ k, r = some k → k ∈ X) : Sub (excl X w) (excl X u) := fun p v h1 => by
  have h2 := excl_some h1
  exact excl_mk h2.1 (g.cell h2.2 (fun e => h2.1 (hr _ e.symm)))
theorem excl_set {X : List Nat} {w : World} {q : Addr} (hq : q.block ∈ X) (x : Value) : Sub (excl X w) (excl X (w.setCell q x)) :=
  excl_grown (r := some q.block) ⟨rfl, rfl, rfl, by simp, fun k _ hk => heap_setCell_other w q k x (fun e => hk (by rw [e]))⟩ (fun k e => by cases e; exact hq)
/-- A row grown into a block, perhaps a new one. -/
theorem excl_app {Z : List Nat} {w u : World} {r : Option Nat} {g : Nat} (hg : w.grownBy u r) (hat : r = some g ∨ w.heap.size ≤ g) (X : List Nat) (hX : ∀ k ∈ X, k ∈ Z ∨ k = g) (hZ : ∀ k, r = some k → k ∈ Z) : Sub (excl Z w) (excl X u) := fun p v h1 => by
  have h2 := excl_some h1
  have hlt : p.block < w.heap.size := World.block_lt_of_cell? w _ h2.2
  refine excl_mk (fun e => ?_) (hg.cell h2.2 (fun e => h2.1 (hZ _ e.symm)))
  rcases hX _ e with e1 | e1
  · exact h2.1 e1
  · rcases hat with h3 | h3
    · exact h2.1 (by rw [e1]; exact hZ _ h3)
    · omega
theorem but_excl {X : List Nat} {b : Nat} {w u : World} (g : w.grownBy u (some b)) (hX : ∀ k ∈ X, k = b ∨ w.heap.size ≤ k) : Sub (but b w) (excl X u) := fun p v h1 => by
  have hb : p.block ≠ b := by intro e; unfold but at h1; rw [if_pos e] at h1; cases h1
  have h2 := but_sub _ _ _ _ h1
  have hlt : p.block < w.heap.size := World.block_lt_of_cell? w _ h2
  refine excl_mk (fun e => ?_) (g.cell h2 (fun e => hb (Option.some.inj e)))
  rcases hX _ e with e1 | e1
  · exact hb e1
  · omega
theorem newM_excl {X : List Nat} {B b : Nat} {w : World} (hX : ∀ k ∈ X, k = b ∨ k < B) : Sub (newM B b w) (excl X w) := fun p v h1 => by
  unfold newM at h1
  split at h1
  · cases h1
  · rename_i hn
    refine excl_mk (fun e => ?_) h1
    rcases hX _ e with e1 | e1
    · exact hn (Or.inr e1)
    · exact hn (Or.inl e1)
theorem rows_in {M : Mem} {u : World} {sz : Nat} {v : Value} {rows : List (List Value)} (h : RowsAt u.cell? sz v rows) (hv : ∀ n, v.ownBlock = some n → ∀ p : Addr, p.block = n → M p = u.cell? p) : RowsAt M sz v rows := by
  obtain ⟨a, c, h1, h2, h3, h4⟩ := h
  refine ⟨a, c, h1, h2, h3, ?_⟩
  rcases h4 with h4 | ⟨blk, off, h5, h6⟩
  · exact Or.inl h4
  · refine Or.inr ⟨blk, off, h5, fun i r hi j x hx => ?_⟩
    rw [hv blk (by rw [h1, h5]; rfl) _ rfl]
    exact h6 i r hi j x hx
theorem rows_excl {X : List Nat} {w : World} {sz : Nat} {v : Value} {rows : List (List Value)} (h : RowsAt w.cell? sz v rows) (hv : ∀ n, v.ownBlock = some n → n ∉ X) : RowsAt (excl X w) sz v rows :=
  rows_in h (fun n hn p hp => by unfold excl; rw [if_neg (by rw [hp]; exact hv n hn)])

theorem own_row {u : World} {base n sz : Nat} {e : TypeId} {v : Value} {xs : List Value} (h : u.ownsRow base e sz v n xs) (hn : 0 < n) : ∃ g cap, v = .slice (some ⟨g, 0, none⟩) n cap ∧ base ≤ g := by
  rcases h.2 with ⟨-, h2⟩ | ⟨g, cap, cur, h1, h2, -⟩
  · omega
  · exact ⟨g, cap, h1, h2⟩
/-- A cell of a row is set. -/
theorem flat_set (sz : Nat) (x : Value) : ∀ (rows : List (List Value)) (k j : Nat) (r : List Value), (∀ r ∈ rows, r.length = sz) → rows[k]? = some r → j < sz → rows.flatten.set (k * sz + j) x = (rows.set k (r.set j x)).flatten
  | [], k, j, r, _, h, _ => by simp at h
  | a :: rest, 0, j, r, hs, h, hj => by
    simp only [List.getElem?_cons_zero, Option.some.injEq] at h
    subst h
    have ha := hs a (by simp)
    simp only [Nat.zero_mul, Nat.zero_add, List.flatten_cons, List.set_cons_zero]
    rw [List.set_append_left _ _ (by omega)]
  | a :: rest, k + 1, j, r, hs, h, hj => by
    have ha := hs a (by simp)
    have ih := flat_set sz x rest k j r (fun r hr => hs r (by simp [hr])) (by simpa using h) hj
    simp only [List.flatten_cons, List.set_cons_succ]
    have e : (k + 1) * sz + j = a.length + (k * sz + j) := by rw [Nat.add_mul, ha]; omega
    rw [e, List.set_append_right _ _ (by omega), ← ih]
    congr 2
    omega
theorem rows3c (l : List CT) : ∀ r ∈ l.map CT.row, r.length = 3 := by intro r hr; obtain ⟨d, -, rfl⟩ := List.mem_map.1 hr; rfl
theorem rows5a (l : List AD) : ∀ r ∈ l.map AD.row, r.length = 5 := by intro r hr; obtain ⟨d, -, rfl⟩ := List.mem_map.1 hr; rfl
theorem flat3c (l : List CT) : ∀ v ∈ (l.map CT.row).flatten, v.oneCell' = true := by
  intro v hv
  obtain ⟨r, hr, hv⟩ := List.mem_flatten.1 hv
  obtain ⟨d, -, rfl⟩ := List.mem_map.1 hr
  exact ct_one d v hv
theorem flat5a (l : List AD) : ∀ v ∈ (l.map AD.row).flatten, v.oneCell' = true := by
  intro v hv
  obtain ⟨r, hr, hv⟩ := List.mem_flatten.1 hv
  obtain ⟨d, -, rfl⟩ := List.mem_map.1 hr
  exact ad_one d.name d.val v hv
theorem ct_set {l : List CT} {k j : Nat} {c c' : CT} {x : Value} (hk : l[k]? = some c) (hj : j < 3) (hc : c.row.set j x = c'.row) : (l.map CT.row).flatten.set (k * 3 + j) x = ((l.set k c').map CT.row).flatten := by
  rw [flat_set 3 x (l.map CT.row) k j c.row (rows3c l) (by rw [List.getElem?_map, hk]; rfl) hj, hc, List.map_set]

/-- What a changed subject is. -/
def SpIs (b : Nat) (e : Ending) (w' : World) : Prop := ∃ va vn vc l, e = .returned (.agg #[.slice va vn vc]) ∧ (l.length ≤ 8 ∧ Nm l ∧ ∀ x ∈ l, x.attrs.length ≤ 30) ∧ SAt (but b w') (.slice va vn vc) l

/-- The row of contexts of the call's own, in block g, and what they refer to, elsewhere. -/
structure SG (w u : World) (b : Nat) (a : Option Addr) (n c R g N cap : Nat) (L : List CT) : Prop where
  head : Head b a n c u
  grown : w.grownBy u (some b)
  br : b < w.heap.size
  res : Own u R #[.slice none 0 0] 24
  wr : w.heap.size ≤ R
  row : u.ownsRow (R + 1) 37 3 (.slice (some ⟨g, 0, none⟩) N cap) N (L.map CT.row).flatten
  len : L.length = N
  ats : ∀ x ∈ L, CAt (excl [b, R, g] u) x
  nm : Nm L
  few : ∀ x ∈ L, x.attrs.length ≤ 30
theorem SG.gR {w u : World} {b : Nat} {a : Option Addr} {n c R g N cap : Nat} {L : List CT} (h : SG w u b a n c R g N cap L) : R < g := by have := (h.row.lt g rfl).1; omega
theorem SG.gl {w u : World} {b : Nat} {a : Option Addr} {n c R g N cap : Nat} {L : List CT} (h : SG w u b a n c R g N cap L) : g < u.heap.size := (h.row.lt g rfl).2
/-- It is handed back. -/
theorem SG.done {w u : World} {b : Nat} {a : Option Addr} {n c R g N cap : Nat} {L : List CT} (h : SG w u b a n c R g N cap L) (hN : N ≤ 8) :
    Drawn b a n c w (fun e w' => SpIs b e w') (.returned (.agg #[.slice (some ⟨g, 0, none⟩) N cap])) (u.setCell ⟨R, 0, none⟩ (.slice (some ⟨g, 0, none⟩) N cap)) := by
  have hgR := h.gR
  have hb := h.br
  have hw := h.wr
  have hs : Sub (excl [b, R, g] u) (but b (u.setCell ⟨R, 0, none⟩ (.slice (some ⟨g, 0, none⟩) N cap))) := (excl_set (X := [b, R, g]) (by simp) _).trans (excl_but _ (by simp))
  refine ⟨⟨_, _, _, L, rfl, ⟨by rw [h.len]; exact hN, h.nm, h.few⟩, ?_, fun x hx => (h.ats x hx).mono hs⟩, h.head.set (by simp; omega) _, g_setCell h.grown (by simp; omega) _⟩
  have hr := rows_of_owns_new (B := R + 1) (b := b) (ownsRow_setCell_below h.row (a := ⟨R, 0, none⟩) (by simp) (.slice (some ⟨g, 0, none⟩) N cap)) (Nat.le_refl _) (by omega) (L.map CT.row) (by simp [h.len]) (rows3c L) rfl
  exact hr.mono (newM_but _ _ _)
/-- A context is put in the place of another one. -/
theorem SG.put {w u : World} {b : Nat} {a : Option Addr} {n c R g N cap : Nat} {L : List CT} (h : SG w u b a n c R g N cap L) {k j : Nat} {x x' : CT} {v : Value} (hk : L[k]? = some x) (hj : j < 3) (hr : x.row.set j v = x'.row)
    (hx : CAt (excl [b, R, g] u) x → CAt (excl [b, R, g] u) x') (hn : x'.kind.size ≤ 1048576 ∧ x'.attrs = x.attrs) : SG w (u.setCell ⟨g, k * 3 + j, none⟩ v) b a n c R g N cap (L.set k x') := by
  have hgR := h.gR
  have hb := h.br
  have hw := h.wr
  have hst := h.row.stored (k * 3 + j) v
  have hm := List.mem_of_getElem? hk
  have hs : Sub (excl [b, R, g] u) (excl [b, R, g] (u.setCell ⟨g, k * 3 + j, none⟩ v)) := excl_set (by simp) _
  refine ⟨h.head.set (by simp; omega) _, g_setCell h.grown (by simp; omega) _, h.br, h.res.setOther (by simp; omega) _, h.wr, ?_, by simp [h.len], ?_, ?_, ?_⟩
  · have := hst.1; rw [ct_set hk hj hr] at this; exact this
  · intro y hy
    rcases List.mem_or_eq_of_mem_set hy with hy | rfl
    · exact (h.ats y hy).mono hs
    · exact (hx (h.ats x hm)).mono hs
  · intro y hy
    rcases List.mem_or_eq_of_mem_set hy with hy | rfl
    · exact h.nm y hy
    · exact ⟨hn.1, by rw [hn.2]; exact (h.nm x hm).2⟩
  · intro y hy
    rcases List.mem_or_eq_of_mem_set hy with hy | rfl
    · exact h.few y hy
    · rw [hn.2]; exact h.few x hm
/-- The draw of something turns nothing of it. -/
theorem SG.call {w u x : World} {b : Nat} {a : Option Addr} {n c R g N cap : Nat} {L : List CT} (h : SG w u b a n c R g N cap L) (hG : u.grownBy x (some b)) (hH : Head b a n c x) : SG w x b a n c R g N cap L := by
  have hgR := h.gR
  have hb := h.br
  have hw := h.wr
  exact ⟨hH, g_call h.grown hG, h.br, h.res.kept hG (by simp; omega), h.wr, owns_kept h.row hG (by omega), h.len, fun y hy => (h.ats y hy).mono (excl_grown hG (fun k e => by cases e; simp)), h.nm, h.few⟩
theorem SG.alloc {w u : World} {b : Nat} {a : Option Addr} {n c R g N cap : Nat} {L : List CT} (h : SG w u b a n c R g N cap L) (o : Obj) : SG w (u.alloc o) b a n c R g N cap L := h.call (World.grownBy_alloc u o _) (h.head.alloc o)
theorem SG.drew {w u : World} {b : Nat} {a : Option Addr} {n c R g N cap : Nat} {L : List CT} (h : SG w u b a n c R g N cap L) : SG w u.drew b a n c R g N cap L := h.call (grown_drewN u 1 _) h.head.drew
theorem SG.codes {w u : World} {b : Nat} {a : Option Addr} {n c R g N cap : Nat} {L : List CT} (h : SG w u b a n c R g N cap L) (hC : Codes b a n c w) : Codes b a n c u := hC.still h.grown h.head
theorem SG.glob {w u : World} {b : Nat} {a : Option Addr} {n c R g N cap : Nat} {L : List CT} (h : SG w u b a n c R g N cap L) (hg : Glob (but b w)) : Glob (but b u) := hg.mono (sub_of_grown h.grown)
/-- Contexts are appended. -/
theorem SG.more {w u x : World} {b : Nat} {a : Option Addr} {n c R g N cap g' cap' m : Nat} {L M : List CT} (h : SG w u b a n c R g N cap L) (hG : u.grownBy x (some g)) (hat : g = g' ∨ u.heap.size ≤ g')
    (hrow : x.ownsRow (R + 1) 37 3 (.slice (some ⟨g', 0, none⟩) (N + m) cap') (N + m) ((L.map CT.row).flatten ++ (M.map CT.row).flatten)) (hm : M.length = m)
    (hM : ∀ y ∈ M, CAt (excl [b, R, g] u) y) (hn : Nm M) (hf : ∀ y ∈ M, y.attrs.length ≤ 30) : SG w x b a n c R g' (N + m) cap' (L ++ M) := by
  have hgR := h.gR
  have hb := h.br
  have hw := h.wr
  have hs : Sub (excl [b, R, g] u) (excl [b, R, g'] x) := excl_app hG (hat.imp (fun e => by rw [e]) id) [b, R, g'] (by intro k hk; simp at hk ⊢; rcases hk with h | h | h <;> simp [h]) (fun k e => by cases e; simp)
  refine ⟨h.head.kept hG (by simp; omega), g_own h.grown hG (fun i e => by cases e; omega), h.br, h.res.kept hG (by simp; omega), h.wr, by rw [List.map_append, List.flatten_append]; exact hrow, by simp [h.len, hm], ?_, ?_, ?_⟩
  · intro y hy
    rcases List.mem_append.1 hy with hy | hy
    · exact (h.ats y hy).mono hs
    · exact (hM y hy).mono hs
  · intro y hy
    rcases List.mem_append.1 hy with hy | hy
    · exact h.nm y hy
    · exact hn y hy
  · intro y hy
    rcases List.mem_append.1 hy with hy | hy
    · exact h.few y hy
    · exact hf y hy
theorem SG.cells {w u : World} {b : Nat} {a : Option Addr} {n c R g N cap : Nat} {L : List CT} (h : SG w u b a n c R g N cap L) {k : Nat} {x : CT} (hk : L[k]? = some x) :
    u.cell? ⟨g, k * 3, none⟩ = some (.string x.kind) ∧ u.cell? ⟨g, k * 3 + 1, none⟩ = some (.string x.key) ∧ u.cell? ⟨g, k * 3 + 2, none⟩ = some (.slice x.ptr x.len x.cap) ∧
      u.frozen? ⟨g, k * 3, none⟩ = false ∧ u.frozen? ⟨g, k * 3 + 1, none⟩ = false ∧ u.frozen? ⟨g, k * 3 + 2, none⟩ = false := by
  have hkl : k < N := by rw [← h.len]; exact (List.getElem?_eq_some_iff.1 hk).1
  have hr : (L.map CT.row)[k]? = some x.row := by rw [List.getElem?_map, hk]; rfl
  refine ⟨?_, ?_, ?_, h.row.frozenAt _, h.row.frozenAt _, h.row.frozenAt _⟩
  · rw [h.row.cellAt _ (by omega)]; exact flat_get 3 _ (rows3c L) k _ hr 0 _ rfl
  · rw [h.row.cellAt _ (by omega)]; exact flat_get 3 _ (rows3c L) k _ hr 1 _ rfl
  · rw [h.row.cellAt _ (by omega)]; exact flat_get 3 _ (rows3c L) k _ hr 2 _ rfl

theorem over_row {w : World} {b : Nat} {a : Option Addr} {n c R g N cap : Nat} : ∀ (vs : List (Nat × Value)) (u : World) (xs : List Value), Head b a n c u → w.grownBy u (some b) → Own u R #[.slice none 0 0] 24 → u.ownsRow (R + 1) 37 3 (.slice (some ⟨g, 0, none⟩) N cap) N xs → b < w.heap.size → w.heap.size ≤ R → R < g →
    let u' := vs.foldl (fun u p => u.setCell ⟨g, p.1, none⟩ p.2) u
    Head b a n c u' ∧ w.grownBy u' (some b) ∧ Own u' R #[.slice none 0 0] 24 ∧ u'.ownsRow (R + 1) 37 3 (.slice (some ⟨g, 0, none⟩) N cap) N (vs.foldl (fun xs p => xs.set p.1 p.2) xs) ∧ Sub (excl [b, R, g] u) (excl [b, R, g] u')
  | [], u, xs, h1, h2, h3, h4, _, _, _ => ⟨h1, h2, h3, h4, Sub.refl _⟩
  | p :: r, u, xs, h1, h2, h3, h4, hb, hw, hR => by
    have ih := over_row (w := w) (b := b) (a := a) (n := n) (c := c) (R := R) (g := g) (N := N) (cap := cap) r (u.setCell ⟨g, p.1, none⟩ p.2) (xs.set p.1 p.2) (h1.set (by simp; omega) _) (g_setCell h2 (by simp; omega) _) (h3.setOther (by simp; omega) _) (h4.stored p.1 p.2).1 hb hw hR
    exact ⟨ih.1, ih.2.1, ih.2.2.1, ih.2.2.2.1, (excl_set (by simp) _).trans ih.2.2.2.2⟩
/-- Cells of the row are set, so that it holds the same contexts in another order. -/
theorem SG.over {w u : World} {b : Nat} {a : Option Addr} {n c R g N cap : Nat} {L : List CT} (h : SG w u b a n c R g N cap L) (vs : List (Nat × Value)) (L' : List CT) (hl : L'.length = N)
    (hf : vs.foldl (fun xs p => xs.set p.1 p.2) (L.map CT.row).flatten = (L'.map CT.row).flatten) (hs : ∀ x ∈ L', x ∈ L) : SG w (vs.foldl (fun u p => u.setCell ⟨g, p.1, none⟩ p.2) u) b a n c R g N cap L' := by
  have hgR := h.gR
  have k := over_row (w := w) vs u _ h.head h.grown h.res h.row h.br h.wr hgR
  rw [hf] at k
  exact ⟨k.1, k.2.1, h.br, k.2.2.1, h.wr, k.2.2.2.1, hl, fun x hx => (h.ats x (hs x hx)).mono k.2.2.2.2, fun x hx => h.nm x (hs x hx), fun x hx => h.few x (hs x hx)⟩

/-- The row of contexts, and the k-th context's row of attributes of the call's own. -/
structure SP (w u : World) (b : Nat) (a : Option Addr) (n c R g N cap B2 : Nat) (L : List CT) (k : Nat) (ck : CT) : Prop where
  head : Head b a n c u
  grown : w.grownBy u (some b)
  br : b < w.heap.size
  res : Own u R #[.slice none 0 0] 24
  wr : w.heap.size ≤ R
  row : u.ownsRow (R + 1) 37 3 (.slice (some ⟨g, 0, none⟩) N cap) N (L.map CT.row).flatten
  len : L.length = N
  here : L[k]? = some ck
  oth : ∀ i x, L[i]? = some x → i ≠ k → CAt (but b w) x
  gB : g < B2
  own : u.ownsRow B2 56 5 (.slice ck.ptr ck.len ck.cap) ck.len (ck.attrs.map AD.row).flatten
  lenk : ck.attrs.length = ck.len
  vals : ∀ x ∈ ck.attrs, LAt (excl ([b, R, g] ++ (Value.slice ck.ptr ck.len ck.cap).ownBlock.toList) u) x.val
  key : ck.key.size < 4294967281
  nm : Nm L
  few : ∀ x ∈ L, x.attrs.length ≤ 30
  bl : B2 ≤ u.heap.size
section
variable {w u x : World} {b : Nat} {a : Option Addr} {n c R g N cap B2 : Nat} {L : List CT} {k : Nat} {ck : CT}
theorem SP.gR (h : SP w u b a n c R g N cap B2 L k ck) : R < g := by have := (h.row.lt g rfl).1; omega
theorem SP.gl (h : SP w u b a n c R g N cap B2 L k ck) : g < u.heap.size := (h.row.lt g rfl).2
theorem SP.blk (h : SP w u b a n c R g N cap B2 L k ck) : ∀ j, (Value.slice ck.ptr ck.len ck.cap).ownBlock = some j → B2 ≤ j ∧ j < u.heap.size := fun j hj => h.own.lt j hj
theorem SP.toSG (h : SP w u b a n c R g N cap B2 L k ck) : SG w u b a n c R g N cap L := by
  have hgR := h.gR
  have hb := h.br
  have hw := h.wr
  have hgB := h.gB
  refine ⟨h.head, h.grown, h.br, h.res, h.wr, h.row, h.len, fun y hy => ?_, h.nm, h.few⟩
  obtain ⟨i, hi, rfl⟩ := List.getElem_of_mem hy
  have hi' : L[i]? = some L[i] := List.getElem?_eq_getElem hi
  by_cases hik : i = k
  · subst hik
    have e : L[i] = ck := Option.some.inj (hi'.symm.trans h.here)
    rw [e]
    refine ⟨?_, fun y hy => (h.vals y hy).mono (excl_up u (by simp)), h.key⟩
    refine rows_excl (rows_of_owns h.own (ck.attrs.map AD.row) (by simp [h.lenk]) (rows5a _) rfl) (fun j hj => ?_)
    have := (h.blk j hj).1
    simp
    omega
  · exact (h.oth i _ hi' hik).mono (but_excl h.grown (by simp; omega))
theorem SP.call (h : SP w u b a n c R g N cap B2 L k ck) (hG : u.grownBy x (some b)) (hH : Head b a n c x) : SP w x b a n c R g N cap B2 L k ck := by
  have hgR := h.gR
  have hb := h.br
  have hw := h.wr
  have hgB := h.gB
  exact ⟨hH, g_call h.grown hG, h.br, h.res.kept hG (by simp; omega), h.wr, owns_kept h.row hG (by omega), h.len, h.here, h.oth, h.gB, owns_kept h.own hG (by omega), h.lenk, fun y hy => (h.vals y hy).mono (excl_grown hG (fun k e => by cases e; simp)), h.key, h.nm, h.few, Nat.le_trans h.bl hG.size⟩
theorem SP.alloc (h : SP w u b a n c R g N cap B2 L k ck) (o : Obj) : SP w (u.alloc o) b a n c R g N cap B2 L k ck := h.call (World.grownBy_alloc u o _) (h.head.alloc o)
theorem SP.drew (h : SP w u b a n c R g N cap B2 L k ck) : SP w u.drew b a n c R g N cap B2 L k ck := h.call (grown_drewN u 1 _) h.head.drew
theorem SP.codes (h : SP w u b a n c R g N cap B2 L k ck) (hC : Codes b a n c w) : Codes b a n c u := hC.still h.grown h.head
theorem SP.glob (h : SP w u b a n c R g N cap B2 L k ck) (hg : Glob (but b w)) : Glob (but b u) := hg.mono (sub_of_grown h.grown)
theorem SP.kl (h : SP w u b a n c R g N cap B2 L k ck) : k < N := by rw [← h.len]; exact (List.getElem?_eq_some_iff.1 h.here).1
theorem SP.cells (h : SP w u b a n c R g N cap B2 L k ck) :
    u.cell? ⟨g, k * 3, none⟩ = some (.string ck.kind) ∧ u.cell? ⟨g, k * 3 + 1, none⟩ = some (.string ck.key) ∧ u.cell? ⟨g, k * 3 + 2, none⟩ = some (.slice ck.ptr ck.len ck.cap) ∧
      u.frozen? ⟨g, k * 3, none⟩ = false ∧ u.frozen? ⟨g, k * 3 + 1, none⟩ = false ∧ u.frozen? ⟨g, k * 3 + 2, none⟩ = false := by
  have hkl := h.kl
  have hr : (L.map CT.row)[k]? = some ck.row := by rw [List.getElem?_map, h.here]; rfl
  refine ⟨?_, ?_, ?_, h.row.frozenAt _, h.row.frozenAt _, h.row.frozenAt _⟩
  · rw [h.row.cellAt _ (by omega)]; exact flat_get 3 _ (rows3c L) k _ hr 0 _ rfl
  · rw [h.row.cellAt _ (by omega)]; exact flat_get 3 _ (rows3c L) k _ hr 1 _ rfl
  · rw [h.row.cellAt _ (by omega)]; exact flat_get 3 _ (rows3c L) k _ hr 2 _ rfl
theorem nm_set {L : List CT} {k : Nat} {x : CT} (h : Nm L) (hx : x.kind.size ≤ 1048576 ∧ NmA x.attrs) : Nm (L.set k x) := by
  intro y hy
  rcases List.mem_or_eq_of_mem_set hy with hy | rfl
  · exact h y hy
  · exact hx
theorem few_set {L : List CT} {k : Nat} {x : CT} (h : ∀ y ∈ L, y.attrs.length ≤ 30) (hx : x.attrs.length ≤ 30) : ∀ y ∈ L.set k x, y.attrs.length ≤ 30 := by
  intro y hy
  rcases List.mem_or_eq_of_mem_set hy with hy | rfl
  · exact h y hy
  · exact hx
/-- The k-th context's attributes become another row of the call's own. -/
theorem SP.turn (h : SP w u b a n c R g N cap B2 L k ck) {r : Option Nat} (hG : u.grownBy x r) (hr : ∀ j, r = some j → B2 ≤ j) (p : Option Addr) (m q : Nat) (l : List AD)
    (hrow : x.ownsRow B2 56 5 (.slice p m q) m (l.map AD.row).flatten) (hl : l.length = m)
    (hv : ∀ y ∈ l, LAt (excl ([b, R, g] ++ (Value.slice p m q).ownBlock.toList) x) y.val) (hn : NmA l) (hf : l.length ≤ 30) :
    SP w (x.setCell ⟨g, k * 3 + 2, none⟩ (.slice p m q)) b a n c R g N cap B2 (L.set k ⟨ck.kind, ck.key, p, m, q, l⟩) k ⟨ck.kind, ck.key, p, m, q, l⟩ := by
  have hgR := h.gR
  have hb := h.br
  have hw := h.wr
  have hgB := h.gB
  have hkl := h.kl
  have hrb : r ≠ some b := fun e => by have := hr b e; omega
  have hrg : r ≠ some g := fun e => by have := hr g e; omega
  have hrR : r ≠ some R := fun e => by have := hr R e; omega
  have hrow1 : x.ownsRow (R + 1) 37 3 (.slice (some ⟨g, 0, none⟩) N cap) N (L.map CT.row).flatten := h.row.kept hG (Or.inr (fun e => hrg e.symm))
  have hst := hrow1.stored (k * 3 + 2) (.slice p m q)
  have hmem := List.mem_of_getElem? h.here
  refine ⟨(h.head.kept hG hrb).set (by simp; omega) _, g_setCell (g_own h.grown hG (fun i e => by have := hr i e; omega)) (by simp; omega) _, h.br, (h.res.kept hG hrR).setOther (by simp; omega) _, h.wr, ?_, by simp [h.len], ?_, ?_, h.gB, ownsRow_setCell_below hrow (by simp; omega) _, hl, ?_, h.key, nm_set h.nm ⟨(h.nm ck hmem).1, hn⟩, few_set h.few hf, by have h1 := h.bl; have h2 := hG.size; simp; omega⟩
  · have := hst.1
    rw [ct_set (c' := ⟨ck.kind, ck.key, p, m, q, l⟩) h.here (by omega) rfl] at this
    exact this
  · rw [List.getElem?_set_self (by rw [h.len]; exact hkl)]
  · intro i y hy hik
    rw [List.getElem?_set_ne (fun e => hik e.symm)] at hy
    exact h.oth i y hy hik
  · intro y hy
    exact (hv y hy).mono (excl_set (by simp) _)
/-- An attribute more. -/
theorem SP.app (h : SP w u b a n c R g N cap B2 L k ck) {o : Obj} {gg cp : Nat} {nm : ByteArray} {dv : VD} (hG : (u.alloc o).grownBy x (Value.slice ck.ptr ck.len ck.cap).ownBlock)
    (hat : (Value.slice ck.ptr ck.len ck.cap).ownBlock = some gg ∨ gg = u.heap.size + 1)
    (hrow : x.ownsRow B2 56 5 (.slice (some ⟨gg, 0, none⟩) (ck.len + 1) cp) (ck.len + 1) ((ck.attrs.map AD.row).flatten ++ .string nm :: dv.row))
    (hv : LAt (excl ([b, R, g] ++ (Value.slice ck.ptr ck.len ck.cap).ownBlock.toList) u) dv) (hn : nm.size ≤ 1048576) (hf : ck.len ≤ 29) :
    SP w (x.setCell ⟨g, k * 3 + 2, none⟩ (.slice (some ⟨gg, 0, none⟩) (ck.len + 1) cp)) b a n c R g N cap B2 (L.set k ⟨ck.kind, ck.key, some ⟨gg, 0, none⟩, ck.len + 1, cp, ck.attrs ++ [⟨nm, dv⟩]⟩) k ⟨ck.kind, ck.key, some ⟨gg, 0, none⟩, ck.len + 1, cp, ck.attrs ++ [⟨nm, dv⟩]⟩ := by
  have hmem := List.mem_of_getElem? h.here
  have hx : Sub (excl ([b, R, g] ++ (Value.slice ck.ptr ck.len ck.cap).ownBlock.toList) u) (excl ([b, R, g] ++ (Value.slice (some (⟨gg, 0, none⟩ : Addr)) (ck.len + 1) cp).ownBlock.toList) x) := by
    have h1 : Sub (excl ([b, R, g] ++ (Value.slice ck.ptr ck.len ck.cap).ownBlock.toList) u) (excl ([b, R, g] ++ (Value.slice ck.ptr ck.len ck.cap).ownBlock.toList) (u.alloc o)) := excl_grown (World.grownBy_alloc u o none) (fun k e => by cases e)
    refine h1.trans (excl_app hG (hat.imp id (fun e => by rw [e]; simp)) _ (fun j hj => ?_) (fun j e => by rw [e]; simp))
    have e1 : (Value.slice (some (⟨gg, 0, none⟩ : Addr)) (ck.len + 1) cp).ownBlock.toList = [gg] := rfl
    rw [e1] at hj
    simp at hj ⊢
    rcases hj with hj | hj | hj | hj <;> simp [hj]
  refine (h.alloc o).turn hG (fun j e => (h.blk j e).1) _ _ _ _ (by simpa [AD.row] using hrow) (by simp [h.lenk]) (fun y hy => ?_) (fun y hy => ?_) (by simp [h.lenk]; omega)
  · rcases List.mem_append.1 hy with hy | hy
    · exact (h.vals y hy).mono hx
    · obtain rfl := List.mem_singleton.1 hy
      exact hv.mono hx
  · rcases List.mem_append.1 hy with hy | hy
    · exact (h.nm ck hmem).2 y hy
    · obtain rfl := List.mem_singleton.1 hy
      exact hn
/-- A new value fits. -/
theorem SP.new (h : SP w u b a n c R g N cap B2 L k ck) {dv : VD} (hd : LAt (newM u.heap.size b x) dv) : LAt (excl ([b, R, g] ++ (Value.slice ck.ptr ck.len ck.cap).ownBlock.toList) x) dv := by
  refine hd.mono (newM_excl (fun j hj => ?_))
  have hgl := h.gl
  have hgR := h.gR
  rcases List.mem_append.1 hj with hj | hj
  · simp at hj
    rcases hj with rfl | rfl | rfl
    · exact Or.inl rfl
    · right; omega
    · right; exact hgl
  · right
    exact (h.blk j (by simpa using hj)).2
theorem set_same {α : Type} : ∀ {l : List α} {k : Nat} {x : α}, l[k]? = some x → l.set k x = l
  | [], _, _, h => by simp at h
  | a :: r, 0, x, h => by simp at h; subst h; rfl
  | a :: r, k + 1, x, h => by simp only [List.set_cons_succ]; rw [set_same (by simpa using h)]
theorem five_rows : ∀ {l : List AD}, 0 < l.length → ∃ a r, l = a :: r
  | [], h => absurd h (by simp)
  | a :: r, _ => ⟨a, r, rfl⟩
/-- The cells of the first attribute's value. -/
theorem SP.first {kd ky : ByteArray} {hb kn kc : Nat} {ka : List AD} (h : SP w u b a n c R g N cap B2 L k ⟨kd, ky, some ⟨hb, 0, none⟩, kn, kc, ka⟩) (hk : 0 < kn) :
    ∃ x : VD, u.cell? ⟨hb, 1, none⟩ = some (.int .i64 x.kind) ∧ u.cell? ⟨hb, 2, none⟩ = some (.int .i64 x.num) ∧ u.cell? ⟨hb, 3, none⟩ = some (.string x.text) ∧ u.cell? ⟨hb, 4, none⟩ = some (.slice x.ptr x.len x.cap) ∧
      u.frozen? ⟨hb, 1, none⟩ = false ∧ u.frozen? ⟨hb, 2, none⟩ = false ∧ u.frozen? ⟨hb, 3, none⟩ = false ∧ u.frozen? ⟨hb, 4, none⟩ = false ∧ hb < u.heap.size := by
  have hl := h.lenk
  simp only at hl
  obtain ⟨x, r, rfl⟩ := five_rows (l := ka) (by omega)
  have ho := h.own
  simp only at ho
  have e : ∀ j, j < 5 → u.cell? ⟨hb, j, none⟩ = x.row[j]? := fun j hj => by
    rw [ho.cellAt j (by omega)]
    rw [List.map_cons, List.flatten_cons, List.getElem?_append_left (by simp [AD.row, VD.row]; omega)]
  exact ⟨x.val, e 1 (by omega), e 2 (by omega), e 3 (by omega), e 4 (by omega), ho.frozenAt _, ho.frozenAt _, ho.frozenAt _, ho.frozenAt _, (ho.lt hb rfl).2⟩
theorem SP.put1 {kd ky : ByteArray} {hb kn kc : Nat} {ka : List AD} (h : SP w u b a n c R g N cap B2 L k ⟨kd, ky, some ⟨hb, 0, none⟩, kn, kc, ka⟩) (hk : 0 < kn) (m q : Int) :
    ∃ L', SG w ((((u.setCell ⟨hb, 1, none⟩ (.int .i64 m)).setCell ⟨hb, 2, none⟩ (.int .i64 q)).setCell ⟨hb, 3, none⟩ (.string ⟨#[]⟩)).setCell ⟨hb, 4, none⟩ (.slice none 0 0)) b a n c R g N cap L' := by
  have hl := h.lenk
  simp only at hl
  obtain ⟨x, r, rfl⟩ := five_rows (l := ka) (by omega)
  have ho := h.own
  simp only at ho
  have hgR := h.gR
  have hb0 := h.br
  have hw := h.wr
  have hgB := h.gB
  have hB2 := (h.blk hb rfl).1
  have hmem := List.mem_of_getElem? h.here
  have hn := h.nm _ hmem
  have hf := h.few _ hmem
  have o1 := (ho.stored 1 (.int .i64 m)).1
  have o2 := (o1.stored 2 (.int .i64 q)).1
  have o3 := (o2.stored 3 (.string ⟨#[]⟩)).1
  have o4 := (o3.stored 4 (.slice none 0 0)).1
  have e : ((((((x :: r).map AD.row).flatten.set 1 (.int .i64 m)).set 2 (.int .i64 q)).set 3 (.string ⟨#[]⟩)).set 4 (.slice none 0 0)) = (((⟨x.name, ⟨m, q, ⟨#[]⟩, none, 0, 0, []⟩⟩ :: r) : List AD).map AD.row).flatten := by
    simp [AD.row, VD.row]
  rw [e] at o4
  have hr1 : ∀ (v : World) (j : Nat) (y : Value), v.ownsRow (R + 1) 37 3 (.slice (some ⟨g, 0, none⟩) N cap) N (L.map CT.row).flatten → (v.setCell ⟨hb, j, none⟩ y).ownsRow (R + 1) 37 3 (.slice (some ⟨g, 0, none⟩) N cap) N (L.map CT.row).flatten := fun v j y hv => ownsRow_setCell_other hv (a := ⟨hb, j, none⟩) (by simp [Value.ownBlock]; omega) y
  have hrow := hr1 _ 4 (.slice none 0 0) (hr1 _ 3 (.string ⟨#[]⟩) (hr1 _ 2 (.int .i64 q) (hr1 _ 1 (.int .i64 m) h.row)))
  have hrw : L.map CT.row = (L.set k ⟨kd, ky, some ⟨hb, 0, none⟩, kn, kc, ⟨x.name, ⟨m, q, ⟨#[]⟩, none, 0, 0, []⟩⟩ :: r⟩).map CT.row := by
    rw [List.map_set]
    have h9 : (L.map CT.row)[k]? = some (CT.row ⟨kd, ky, some ⟨hb, 0, none⟩, kn, kc, ⟨x.name, ⟨m, q, ⟨#[]⟩, none, 0, 0, []⟩⟩ :: r⟩) := by rw [List.getElem?_map, h.here]; rfl
    exact (set_same h9).symm
  rw [hrw] at hrow
  refine ⟨L.set k ⟨kd, ky, some ⟨hb, 0, none⟩, kn, kc, ⟨x.name, ⟨m, q, ⟨#[]⟩, none, 0, 0, []⟩⟩ :: r⟩, SP.toSG (B2 := B2) (k := k) (ck := ⟨kd, ky, some ⟨hb, 0, none⟩, kn, kc, ⟨x.name, ⟨m, q, ⟨#[]⟩, none, 0, 0, []⟩⟩ :: r⟩) ⟨?_, ?_, h.br, ?_, h.wr, hrow, by simp [h.len], ?_, ?_, h.gB, o4, by simpa using hl, ?_, h.key, nm_set h.nm ⟨hn.1, ?_⟩, few_set h.few (by simpa using hf), by have := h.bl; simpa using this⟩⟩
  · exact (((h.head.set (by simp; omega) _).set (by simp; omega) _).set (by simp; omega) _).set (by simp; omega) _
  · exact g_setCell (g_setCell (g_setCell (g_setCell h.grown (by simp; omega) _) (by simp; omega) _) (by simp; omega) _) (by simp; omega) _
  · exact (((h.res.setOther (by simp; omega) _).setOther (by simp; omega) _).setOther (by simp; omega) _).setOther (by simp; omega) _
  · rw [List.getElem?_set_self (by rw [h.len]; exact h.kl)]
  · intro i y hy hik
    rw [List.getElem?_set_ne (fun e => hik e.symm)] at hy
    exact h.oth i y hy hik
  · have hs : Sub (excl ([b, R, g] ++ [hb]) u) (excl ([b, R, g] ++ [hb]) ((((u.setCell ⟨hb, 1, none⟩ (.int .i64 m)).setCell ⟨hb, 2, none⟩ (.int .i64 q)).setCell ⟨hb, 3, none⟩ (.string ⟨#[]⟩)).setCell ⟨hb, 4, none⟩ (.slice none 0 0))) :=
      (((excl_set (by simp) _).trans (excl_set (by simp) _)).trans (excl_set (by simp) _)).trans (excl_set (by simp) _)
    intro y hy
    rcases List.mem_cons.1 hy with rfl | hy
    · exact LAt.flat _ _ _ _ (by decide)
    · exact (h.vals y (List.mem_cons_of_mem _ hy)).mono hs
  · intro y hy
    rcases List.mem_cons.1 hy with rfl | hy
    · exact hn.2 x (by simp)
    · exact hn.2 y (List.mem_cons_of_mem _ hy)
end

end Go.Proofs.YthnjgbjckggjhaaGreatDoor.subj

