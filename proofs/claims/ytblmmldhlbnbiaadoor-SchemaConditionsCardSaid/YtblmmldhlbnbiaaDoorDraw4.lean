/- Walks of the drawing functions Declared and Test: a test that fits the declared attributes. -/
import Derived.Test.YtblmmldhlbnbiaaDoorDraw3
import Derived.Test.YtblmmldhlbnbiaaDoorSchema3
import Derived.Deep.RegionLaw
import Derived.Deep.RegionLawGrows
import Derived.Deep.RegionHeld3
import Derived.Deep.AppendLies
import Derived.Deep.DrawnRows
namespace Go.Proofs.YtblmmldhlbnbiaaDoor.draw
open Go.RowKit Go.Proofs.YtblmmldhlbnbiaaDoor.schema

attribute [local go_sem ↓] Go.wp_at_zero Go.wp_at_succ

def sDevice : ByteArray := ⟨#[100, 101, 118, 105, 99, 101]⟩
def sUser : ByteArray := ⟨#[117, 115, 101, 114]⟩
def sKey : ByteArray := ⟨#[107, 101, 121]⟩
/-- The attributes that all drawn environments declare. -/
def declD : List DD := [⟨sDevice, ⟨#[99, 111, 114, 101, 115]⟩, 2⟩, ⟨sDevice, ⟨#[111, 115]⟩, 3⟩, ⟨sUser, ⟨#[97, 103, 101]⟩, 2⟩, ⟨sUser, ⟨#[97, 112, 112]⟩, 4⟩,
  ⟨sUser, ⟨#[98, 101, 116, 97]⟩, 1⟩, ⟨sUser, ⟨#[99, 111, 117, 110, 116, 114, 121]⟩, 3⟩, ⟨sUser, ⟨#[112, 108, 97, 110]⟩, 3⟩, ⟨sUser, ⟨#[116, 97, 103, 115]⟩, 5⟩]
def declArr : Array Value := (declD.map DD.row).flatten.toArray

set_option maxHeartbeats 400000 in
theorem declared_any (w : World) :
    Calls Tryd.prog 8 #[] w fun e w' => e = .returned (.slice (some ⟨w.heap.size, 0, none⟩) 8 8) ∧ w' = w.alloc (.cells declArr 41) := by
  go_enter Tryd.func8, Tryd.ntmps8
  go_wp2
  go_ret
  exact ⟨rfl, rfl⟩

theorem decl_types : ∀ j, (h : j < 8) → typeOf (declD[j]'h).kind.toList (declD[j]'h).name.toList declD = (declD[j]'h).type ∧ 1 ≤ (declD[j]'h).type ∧ (declD[j]'h).type ≤ 5 := by
  intro j h
  have : ∀ j : Fin 8, typeOf (declD[j.val]'j.isLt).kind.toList (declD[j.val]'j.isLt).name.toList declD = (declD[j.val]'j.isLt).type ∧ 1 ≤ (declD[j.val]'j.isLt).type ∧ (declD[j.val]'j.isLt).type ≤ 5 := by decide +kernel
  exact this ⟨j, h⟩
theorem key_type : typeOf sUser.toList sKey.toList declD = 3 := by kernel_rfl

/-- Memory that was made from block B on, without block b. -/
def newM (B b : Nat) (w : World) : Mem := fun p => if p.block < B ∨ p.block = b then none else w.cell? p
theorem newM_but (B b : Nat) (w : World) : Sub (newM B b w) (but b w) := by
  intro p v h
  unfold newM at h
  unfold but
  split at h
  · cases h
  · rename_i hne
    rw [if_neg (fun e => hne (Or.inr e))]
    exact h
theorem newM_mono {B B' : Nat} (hB : B ≤ B') (b : Nat) (w : World) : Sub (newM B' b w) (newM B b w) := by
  intro p v h
  unfold newM at *
  split at h
  · cases h
  · rename_i hne
    rw [if_neg (fun e => hne (e.imp (fun e => by omega) id))]
    exact h
theorem newM_grown {B b : Nat} {w u : World} (g : w.grownBy u (some b)) : Sub (newM B b w) (newM B b u) := by
  intro p v h
  unfold newM at *
  split at h
  · cases h
  · rename_i hne
    rw [if_neg hne]
    exact g.cell h (by intro e; injection e with e; exact hne (Or.inr e))
theorem newM_set {B b : Nat} {w : World} {q : Addr} (hq : q.block < B) (x : Value) : Sub (newM B b w) (newM B b (w.setCell q x)) := by
  intro p v h
  unfold newM at *
  split at h
  · cases h
  · rename_i hne
    rw [if_neg hne]
    rw [World.cell?_of_block (Below.heap_setCell w q x p.block (fun e => hne (Or.inl (by omega))))]
    exact h
theorem rows_new {B b : Nat} {w : World} {sz : Nat} {v : Value} {rows : List (List Value)} (h : RowsAt w.cell? sz v rows) (hv : ∀ n, v.ownBlock = some n → B ≤ n ∧ n ≠ b) : RowsAt (newM B b w) sz v rows := by
  obtain ⟨a, c, h1, h2, h3, h4⟩ := h
  refine ⟨a, c, h1, h2, h3, ?_⟩
  rcases h4 with h4 | ⟨blk, off, h5, h6⟩
  · exact Or.inl h4
  · refine Or.inr ⟨blk, off, h5, fun i r hi j x hx => ?_⟩
    obtain ⟨g1, g2⟩ := hv blk (by rw [h1, h5]; rfl)
    unfold newM
    rw [if_neg (by intro e; rcases e with e | e <;> simp at e <;> omega)]
    exact h6 i r hi j x hx
theorem rows_of_own_new {w : World} {n B b : Nat} {A : Array Value} {t : TypeId} (h : Own w n A t) (hB : B ≤ n) (hb : n ≠ b) (sz : Nat) (rows : List (List Value)) (hs : ∀ r ∈ rows, r.length = sz) (hA : A.toList = rows.flatten) (c : Nat) (hc : rows.length ≤ c) (hm : c ≤ maxLen) :
    RowsAt (newM B b w) sz (.slice (some ⟨n, 0, none⟩) rows.length c) rows :=
  rows_new (rows_of_own h sz rows hs hA c hc hm) (fun k hk => by
    have e : n = k := by simpa [Value.ownBlock] using hk
    subst e
    exact ⟨hB, hb⟩)
theorem rows_of_owns_new {w : World} {base B b : Nat} {e : TypeId} {sz : Nat} {v : Value} {n : Nat} {xs : List Value} (h : w.ownsRow base e sz v n xs) (hB : B ≤ base) (hb : b < base) (rows : List (List Value)) (hn : n = rows.length) (hs : ∀ r ∈ rows, r.length = sz) (hx : xs = rows.flatten) :
    RowsAt (newM B b w) sz v rows :=
  rows_new (rows_of_owns h rows hn hs hx) (fun k hk => by have := (h.lt k hk).1; exact ⟨by omega, by omega⟩)

end Go.Proofs.YtblmmldhlbnbiaaDoor.draw
