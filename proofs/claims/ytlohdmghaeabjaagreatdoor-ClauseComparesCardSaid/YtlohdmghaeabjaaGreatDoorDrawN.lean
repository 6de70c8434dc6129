/- Words on memory that was made from some block on. -/
import Derived.Test.YtlohdmghaeabjaaGreatDoorSchema
namespace Go.Proofs.YtlohdmghaeabjaaGreatDoor.draw
open Go.RowKit Go.Proofs.YtlohdmghaeabjaaGreatDoor.schema

/-- Memory that was made from block B on, without block b. -/
def newM (B b : Nat) (w : World) : Mem := fun p => if p.block < B ∨ p.block = b then none else w.cell? p
theorem newM_but (B b : Nat) (w : World) : Sub (newM B b w) (but b w) := by
  intro p v h
  unfold newM at h
  unfold but
  split at h
  · cases h
  · rename_i hne
    rw [if_neg (fun e => hne (Or.inr e))]
    exact h
theorem newM_mono {B B' : Nat} (hB : B ≤ B') (b : Nat) (w : World) : Sub (newM B' b w) (newM B b w) := by
  intro p v h
  unfold newM at *
  split at h
  · cases h
  · rename_i hne
    rw [if_neg (fun e => hne (e.imp (fun e => by omega) id))]
    exact h
theorem newM_grown {B b : Nat} {w u : World} (g : w.grownBy u (some b)) : Sub (newM B b w) (newM B b u) := by
  intro p v h
  unfold newM at *
  split at h
  · cases h
  · rename_i hne
    rw [if_neg hne]
    exact g.cell h (by intro e; injection e with e; exact hne (Or.inr e))
theorem newM_set {B b : Nat} {w : World} {q : Addr} (hq : q.block < B) (x : Value) : Sub (newM B b w) (newM B b (w.setCell q x)) := by
  intro p v h
  unfold newM at *
  split at h
  · cases h
  · rename_i hne
    rw [if_neg hne]
    rw [World.cell?_of_block (Below.heap_setCell w q x p.block (fun e => hne (Or.inl (by omega))))]
    exact h
theorem rows_new {B b : Nat} {w : World} {sz : Nat} {v : Value} {rows : List (List Value)} (h : RowsAt w.cell? sz v rows) (hv : ∀ n, v.ownBlock = some n → B ≤ n ∧ n ≠ b) : RowsAt (newM B b w) sz v rows := by
  obtain ⟨a, c, h1, h2, h3, h4⟩ := h
  refine ⟨a, c, h1, h2, h3, ?_⟩
  rcases h4 with h4 | ⟨blk, off, h5, h6⟩
  · exact Or.inl h4
  · refine Or.inr ⟨blk, off, h5, fun i r hi j x hx => ?_⟩
    obtain ⟨g1, g2⟩ := hv blk (by rw [h1, h5]; rfl)
    unfold newM
    rw [if_neg (by intro e; rcases e with e | e <;> simp at e <;> omega)]
    exact h6 i r hi j x hx
theorem rows_of_own_new {w : World} {n B b : Nat} {A : Array Value} {t : TypeId} (h : Own w n A t) (hB : B ≤ n) (hb : n ≠ b) (sz : Nat) (rows : List (List Value)) (hs : ∀ r ∈ rows, r.length = sz) (hA : A.toList = rows.flatten) (c : Nat) (hc : rows.length ≤ c) (hm : c ≤ maxLen) :
    RowsAt (newM B b w) sz (.slice (some ⟨n, 0, none⟩) rows.length c) rows :=
  rows_new (rows_of_own h sz rows hs hA c hc hm) (fun k hk => by
    have e : n = k := by simpa [Value.ownBlock] using hk
    subst e
    exact ⟨hB, hb⟩)
theorem rows_of_owns_new {w : World} {base B b : Nat} {e : TypeId} {sz : Nat} {v : Value} {n : Nat} {xs : List Value} (h : w.ownsRow base e sz v n xs) (hB : B ≤ base) (hb : b < base) (rows : List (List Value)) (hn : n = rows.length) (hs : ∀ r ∈ rows, r.length = sz) (hx : xs = rows.flatten) :
    RowsAt (newM B b w) sz v rows :=
  rows_new (rows_of_owns h rows hn hs hx) (fun k hk => by have := (h.lt k hk).1; exact ⟨by omega, by omega⟩)

/-- Memory that was made from block B on, without block b and without the block g that is appended to. -/
def newG (B b : Nat) (g : Option Nat) (w : World) : Mem := fun p => if p.block < B ∨ p.block = b ∨ some p.block = g then none else w.cell? p
theorem newG_none (B b : Nat) (g : Option Nat) (w : World) : Sub (newG B b g w) (newM B b w) := by
  intro p v h
  unfold newG at h
  unfold newM
  split at h
  · cases h
  · rename_i hne
    rw [if_neg (fun e => hne (e.imp id Or.inl))]
    exact h
theorem newM_newG {B B' b : Nat} {g : Option Nat} (hB : B ≤ B') (hg : ∀ k, g = some k → k < B') (w : World) : Sub (newM B' b w) (newG B b g w) := by
  intro p v h
  unfold newM at h
  unfold newG
  split at h
  · cases h
  · rename_i hne
    rw [if_neg]
    · exact h
    · rintro (e | e | e)
      · exact hne (Or.inl (by omega))
      · exact hne (Or.inr e)
      · exact hne (Or.inl (hg _ e.symm))
theorem newG_grown {B b : Nat} {g : Option Nat} {w u : World} (gr : w.grownBy u (some b)) : Sub (newG B b g w) (newG B b g u) := by
  intro p v h
  unfold newG at *
  split at h
  · cases h
  · rename_i hne
    rw [if_neg hne]
    exact gr.cell h (by intro e; injection e with e; exact hne (Or.inr (Or.inl e)))
theorem newG_set {B b : Nat} {g : Option Nat} {w : World} {q : Addr} (hq : q.block < B) (x : Value) : Sub (newG B b g w) (newG B b g (w.setCell q x)) := by
  intro p v h
  unfold newG at *
  split at h
  · cases h
  · rename_i hne
    rw [if_neg hne]
    rw [World.cell?_of_block (Below.heap_setCell w q x p.block (fun e => hne (Or.inl (by omega))))]
    exact h
theorem newG_app {B b gg : Nat} {g : Option Nat} {w u : World} (gr : w.grownBy u g) (hat : g = some gg ∨ gg = w.heap.size) : Sub (newG B b g w) (newG B b (some gg) u) := by
  intro p v h
  unfold newG at *
  split at h
  · cases h
  · rename_i hne
    have hlt := World.block_lt_of_cell? w p h
    rw [if_neg]
    · exact gr.cell h (fun e => hne (Or.inr (Or.inr e)))
    · rintro (e | e | e)
      · exact hne (Or.inl e)
      · exact hne (Or.inr (Or.inl e))
      · injection e with e
        rcases hat with hat | hat
        · exact hne (Or.inr (Or.inr (by rw [hat, e])))
        · omega

theorem LAtSet {B b : Nat} {w : World} {q : Addr} {d : VD} (h : LAt (newM B b w) d) (hq : q.block < B) (x : Value) : LAt (newM B b (w.setCell q x)) d := h.mono (newM_set hq x)
theorem LAtAlloc {B b : Nat} {w : World} {d : VD} (h : LAt (newM B b w) d) (o : Obj) : LAt (newM B b (w.alloc o)) d := h.mono (newM_grown (World.grownBy_alloc w o _))
theorem LAtLow {B B' b : Nat} {w : World} {d : VD} (h : LAt (newM B' b w) d) (hB : B ≤ B') : LAt (newM B b w) d := h.mono (newM_mono hB b w)
theorem LAtDrew {B b : Nat} {w : World} {d : VD} (h : LAt (newM B b w) d) : LAt (newM B b w.drew) d := h

end Go.Proofs.YtlohdmghaeabjaaGreatDoor.draw

