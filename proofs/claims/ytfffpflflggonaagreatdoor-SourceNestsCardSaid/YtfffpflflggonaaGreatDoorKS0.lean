/- Plain words on memory that all walks of this seat share: what stays when a block of the draws is written, what a slice of rows holds. Small words that all walks over texts share. The reference's Number: the decimal form of any number. -/
import Derived.WalkKit
import Derived.WalkSpells
import Derived.BigQuiet
import Derived.Test.YtfffpflflggonaaGreatDoorChecked
import Derived.WalkLawsBesides
import Derived.Deep.QuietTactic
import Derived.Lib.Hide
import Derived.LoopTactic
import Derived.Outline
import Derived.Laws.Runes
import Derived.Lib.ItoaNum
namespace Go.Proofs.YtfffpflflggonaaGreatDoor
open Go.RowKit

/-- An int from lo on and below hi. -/
def IntIn (lo hi : Int) (e : Ending) : Prop := ∃ m : Int, e = .returned (.int .i64 m) ∧ lo ≤ m ∧ m < hi

/-- Memory as it is read. -/
abbrev Mem := Addr → Option Value
def Sub (m m' : Mem) : Prop := ∀ p v, m p = some v → m' p = some v
theorem Sub.refl (m : Mem) : Sub m m := fun _ _ h => h
theorem Sub.trans {a b c : Mem} (h : Sub a b) (k : Sub b c) : Sub a c := fun p v hp => k p v (h p v hp)

/-- Memory without block b. -/
def but (b : Nat) (w : World) : Mem := fun p => if p.block = b then none else w.cell? p
theorem but_sub (b : Nat) (w : World) : Sub (but b w) w.cell? := by
  intro p v h
  unfold but at h
  split at h
  · cases h
  · exact h

theorem grown_trans {a b c : World} {r : Option Nat} (h : a.grownBy b r) (k : b.grownBy c r) : a.grownBy c r :=
  ⟨k.os.trans h.os, k.tape.trans h.tape, k.output.trans h.output, Nat.le_trans h.size k.size,
    fun i hi hne => (k.block i (Nat.lt_of_lt_of_le hi h.size) hne).trans (h.block i hi hne)⟩
theorem grown_refl (w : World) (r : Option Nat) : w.grownBy w r := ⟨rfl, rfl, rfl, Nat.le_refl _, fun _ _ _ => rfl⟩
theorem grown_none {a b : World} (h : a.grownBy b none) (r : Option Nat) : a.grownBy b r :=
  ⟨h.os, h.tape, h.output, h.size, fun i hi _ => h.block i hi (by simp)⟩
theorem grown_of_below {a b : World} (h : Below a.heap.size a b) (r : Option Nat) : a.grownBy b r :=
  ⟨h.os, h.tape, h.output, h.size, fun i hi _ => h.block i hi⟩
theorem grown_drew (w : World) (r : Option Nat) : w.grownBy w.drew r := ⟨rfl, rfl, rfl, Nat.le_refl _, fun _ _ _ => rfl⟩
theorem grown_drewN (w : World) (n : Nat) (r : Option Nat) : w.grownBy (w.drewN n) r := ⟨rfl, rfl, rfl, Nat.le_refl _, fun _ _ _ => rfl⟩

theorem sub_of_grown {a c : World} {b : Nat} (h : a.grownBy c (some b)) : Sub (but b a) (but b c) := by
  intro p v hp
  unfold but at hp ⊢
  split at hp
  · cases hp
  · rename_i hne
    rw [if_neg hne]
    exact h.cell hp (by intro e; cases e; exact hne rfl)
theorem sub_of_below {a c : World} (h : Below a.heap.size a c) : Sub a.cell? c.cell? := by
  intro p v hp
  exact (h.cell (World.block_lt_of_cell? a p hp)).trans hp

/-- A slice whose elements take sz cells each: its elements' cells. -/
def RowsAt (m : Mem) (sz : Nat) (v : Value) (rows : List (List Value)) : Prop :=
  ∃ a c, v = .slice a rows.length c ∧ rows.length ≤ c ∧ c ≤ maxLen ∧ (rows = [] ∨ ∃ blk off, a = some ⟨blk, off, none⟩ ∧ ∀ i r, rows[i]? = some r → ∀ j x, r[j]? = some x → m ⟨blk, off + i * sz + j, none⟩ = some x)
theorem RowsAt.mono {m m' : Mem} (hs : Sub m m') {sz : Nat} {v : Value} {rows : List (List Value)} (h : RowsAt m sz v rows) : RowsAt m' sz v rows := by
  obtain ⟨a, c, h1, h2, h3, h4⟩ := h
  refine ⟨a, c, h1, h2, h3, ?_⟩
  rcases h4 with h4 | ⟨blk, off, h5, h6⟩
  · exact Or.inl h4
  · exact Or.inr ⟨blk, off, h5, fun i r hi j x hx => hs _ _ (h6 i r hi j x hx)⟩

/- What a function that draws does to memory: all that was there stays, but for block b. The steps of a walk, one lemma each. -/
theorem g_alloc {w u : World} {r : Option Nat} (h : w.grownBy u r) (o : Obj) : w.grownBy (u.alloc o) r :=
  grown_trans h (World.grownBy_alloc u o r)
theorem g_drew {w u : World} {r : Option Nat} (h : w.grownBy u r) : w.grownBy u.drew r := grown_trans h (grown_drew u r)
theorem g_setCell {w u : World} {r : Option Nat} (h : w.grownBy u r) {p : Addr} (hp : w.heap.size ≤ p.block) (v : Value) : w.grownBy (u.setCell p v) r :=
  ⟨h.os, h.tape, h.output, by have := h.size; simp [World.setCell]; omega, fun k hk hne => (Below.heap_setCell u p v k (by omega)).trans (h.block k hk hne)⟩
theorem g_call {w u v : World} {r : Option Nat} (h : w.grownBy u r) (k : u.grownBy v r) : w.grownBy v r := grown_trans h k
theorem g_below {w u v : World} {r : Option Nat} (h : w.grownBy u r) (k : Below u.heap.size u v) : w.grownBy v r := grown_trans h (grown_of_below k r)
/-- An append to a row of the call's own, or to nothing. -/
theorem g_own {w u v : World} {r row : Option Nat} (h : w.grownBy u r) (k : u.grownBy v row) (hr : ∀ i, row = some i → w.heap.size ≤ i) : w.grownBy v r :=
  ⟨k.os.trans h.os, k.tape.trans h.tape, k.output.trans h.output, Nat.le_trans h.size k.size,
    fun i hi hne => (k.block i (Nat.lt_of_lt_of_le hi h.size) (by intro e; have := hr i e.symm; omega)).trans (h.block i hi hne)⟩

/-- A block of the call's own, known whole. -/
def Own (w : World) (n : Nat) (A : Array Value) (t : TypeId) : Prop := w.heap[n]? = some (.cells A t (0, 0))
theorem Own.new (w : World) (A : Array Value) (t : TypeId) : Own (w.alloc (.cells A t)) w.heap.size A t := heap_alloc_new w _
theorem Own.new' {w : World} {A : Array Value} {t : TypeId} {n : Nat} (h : n = w.heap.size) : Own (w.alloc (.cells A t)) n A t := by rw [h]; exact Own.new w A t
theorem Own.lt {w : World} {n : Nat} {A : Array Value} {t : TypeId} (h : Own w n A t) : n < w.heap.size := by
  rcases Nat.lt_or_ge n w.heap.size with hl | hl
  · exact hl
  · unfold Own at h; rw [Array.getElem?_eq_none (by omega)] at h; cases h
theorem Own.kept {w u : World} {n : Nat} {A : Array Value} {t : TypeId} {r : Option Nat} (h : Own w n A t) (g : w.grownBy u r) (hr : r ≠ some n) : Own u n A t :=
  (g.block n h.lt (fun e => hr e.symm)).trans h
theorem Own.below {w u : World} {n B : Nat} {A : Array Value} {t : TypeId} (h : Own w n A t) (g : Below B w u) (hr : n < B) : Own u n A t :=
  (g.block n hr).trans h
theorem Own.alloc {w : World} {n : Nat} {A : Array Value} {t : TypeId} (h : Own w n A t) (o : Obj) : Own (w.alloc o) n A t := h.kept (World.grownBy_alloc w o none) (by simp)
theorem Own.drewN {w : World} {n : Nat} {A : Array Value} {t : TypeId} (h : Own w n A t) (q : Nat) : Own (w.drewN q) n A t := h
theorem Own.drew {w : World} {n : Nat} {A : Array Value} {t : TypeId} (h : Own w n A t) : Own w.drew n A t := h
theorem Own.cell {w : World} {n : Nat} {A : Array Value} {t : TypeId} (h : Own w n A t) (i : Nat) : w.cell? ⟨n, i, none⟩ = A[i]? := by
  unfold Own at h; simp [World.cell?, h]
theorem Own.free {w : World} {n : Nat} {A : Array Value} {t : TypeId} (h : Own w n A t) (i : Nat) : w.frozen? ⟨n, i, none⟩ = false := by
  unfold Own at h; simp [World.frozen?, h]
theorem Own.set {w : World} {n : Nat} {A : Array Value} {t : TypeId} (h : Own w n A t) (i : Nat) (v : Value) : Own (w.setCell ⟨n, i, none⟩ v) n (A.setIfInBounds i v) t := by
  unfold Own at *; simp [World.setCell, Array.getElem?_modify, h]
theorem Own.setOther {w : World} {n : Nat} {A : Array Value} {t : TypeId} (h : Own w n A t) {p : Addr} (hp : n ≠ p.block) (v : Value) : Own (w.setCell p v) n A t :=
  (Below.heap_setCell w p v n hp).trans h

theorem owns_slice {w : World} {base : Nat} {e : TypeId} {size : Nat} {v : Value} {n : Nat} {xs : List Value} (h : w.ownsRow base e size v n xs) : ∃ a c, v = .slice a n c := by
  rcases h.2 with ⟨rfl, rfl⟩ | ⟨g, cap, cur, rfl, _⟩
  · exact ⟨_, _, rfl⟩
  · exact ⟨_, _, rfl⟩

theorem flat_get (sz : Nat) (rows : List (List Value)) (hs : ∀ r ∈ rows, r.length = sz) : ∀ (i : Nat) (r : List Value), rows[i]? = some r → ∀ (j : Nat) (x : Value), r[j]? = some x → rows.flatten[i * sz + j]? = some x := by
  induction rows with
  | nil => intro i r hi; simp at hi
  | cons a rest ih =>
    intro i r hi j x hj
    have ha := hs a (by simp)
    rw [List.flatten_cons]
    cases i with
    | zero =>
      simp only [List.getElem?_cons_zero, Option.some.injEq] at hi
      subst hi
      have hlt := (List.getElem?_eq_some_iff.1 hj).1
      rw [Nat.zero_mul, Nat.zero_add, List.getElem?_append_left hlt]
      exact hj
    | succ i =>
      have h := ih (fun r hr => hs r (by simp [hr])) i r (by simpa using hi) j x hj
      have e : (i + 1) * sz + j = a.length + (i * sz + j) := by rw [ha, Nat.add_mul]; omega
      rw [e, List.getElem?_append_right (by omega)]
      simpa using h
theorem flat_len (sz : Nat) (rows : List (List Value)) (hs : ∀ r ∈ rows, r.length = sz) : rows.flatten.length = rows.length * sz := by
  induction rows with
  | nil => simp
  | cons a rest ih =>
    rw [List.flatten_cons, List.length_append, ih (fun r hr => hs r (by simp [hr])), hs a (by simp), List.length_cons, Nat.add_mul]
    omega

/-- A block of the call's own as a slice of rows. -/
theorem rows_of_own {w : World} {n : Nat} {A : Array Value} {t : TypeId} (h : Own w n A t) (sz : Nat) (rows : List (List Value)) (hs : ∀ r ∈ rows, r.length = sz) (hA : A.toList = rows.flatten) (c : Nat) (hc : rows.length ≤ c) (hm : c ≤ maxLen) :
    RowsAt w.cell? sz (.slice (some ⟨n, 0, none⟩) rows.length c) rows := by
  refine ⟨_, c, rfl, hc, hm, Or.inr ⟨n, 0, rfl, fun i r hi j x hx => ?_⟩⟩
  rw [Nat.zero_add, h.cell]
  have := flat_get sz rows hs i r hi j x hx
  rw [← hA] at this
  simpa using this

/-- A row that appends have made, as a slice of rows. -/
theorem rows_of_owns {w : World} {base : Nat} {e : TypeId} {sz : Nat} {v : Value} {n : Nat} {xs : List Value} (h : w.ownsRow base e sz v n xs) (rows : List (List Value)) (hn : n = rows.length) (hs : ∀ r ∈ rows, r.length = sz) (hx : xs = rows.flatten) :
    RowsAt w.cell? sz v rows := by
  subst hx hn
  rcases h.2 with ⟨rfl, h0⟩ | ⟨g, cap, cur, rfl, hb, hg, hnc, hcm, hcs, htake⟩
  · have hr : rows = [] := List.eq_nil_of_length_eq_zero h0
    subst hr
    exact ⟨none, 0, rfl, by simp, by simp, Or.inl rfl⟩
  · refine ⟨_, cap, rfl, hnc, hcm, Or.inr ⟨g, 0, rfl, fun i r hi j x hx => ?_⟩⟩
    have h1 := flat_get sz rows hs i r hi j x hx
    rw [Nat.zero_add]
    have h2 : w.cell? ⟨g, i * sz + j, none⟩ = cur[i * sz + j]? := by simp [World.cell?, hg]
    rw [h2]
    rw [← htake, List.getElem?_take] at h1
    split at h1
    · simpa using h1
    · cases h1
theorem rows_nil (m : Mem) (sz : Nat) : RowsAt m sz (.slice none 0 0) [] := ⟨none, 0, rfl, by simp, by simp, Or.inl rfl⟩

theorem owns_kept {w u : World} {base : Nat} {e : TypeId} {size : Nat} {v : Value} {n : Nat} {xs : List Value} {b : Nat} (h : w.ownsRow base e size v n xs) (hg : w.grownBy u (some b)) (hb : b < base) : u.ownsRow base e size v n xs :=
  h.kept hg (Or.inr (fun e => by have := (h.lt b e).1; omega))
theorem owns_drew {w : World} {base : Nat} {e : TypeId} {size : Nat} {v : Value} {n : Nat} {xs : List Value} (h : w.ownsRow base e size v n xs) : w.drew.ownsRow base e size v n xs := h

/-- What lies below an owned row's base stays where that row is appended to. -/
theorem row_far {w : World} {base : Nat} {e : TypeId} {size : Nat} {v : Value} {n : Nat} {xs : List Value} (h : w.ownsRow base e size v n xs) {k : Nat} (hk : k < base) : v.ownBlock ≠ some k :=
  fun e => by have := (h.lt k e).1; omega
theorem own_past {w u : World} {base : Nat} {e t : TypeId} {size : Nat} {v : Value} {n k : Nat} {xs : List Value} {A : Array Value} (h : w.ownsRow base e size v n xs) (hO : Own w k A t) (hg : w.grownBy u v.ownBlock) (hk : k < base) : Own u k A t :=
  hO.kept hg (row_far h hk)

/-- A slice of integers that came in: nil, or it leads to a row of cells: its elements, then its spare room. -/
def IsRow (k : IntKind) (w : World) (a : Option Addr) (len cap : Nat) (zs : List Int) : Prop :=
  (a = none ∧ len = 0 ∧ cap = 0 ∧ zs = []) ∨
  ∃ x, a = some x ∧ len ≤ cap ∧ cap ≤ maxLen ∧ zs.length = cap ∧ (∀ i, i < zs.length → w.cell? (x.add i) = some (.int k (zs.getD i 0))) ∧ ∀ n ∈ zs, (Lit.int k n).wf = true

end Go.Proofs.YtfffpflflggonaaGreatDoor

namespace Go.Proofs.YtfffpflflggonaaGreatDoor.text
open Go.RowKit

theorem ret_int {k : IntKind} {a b : Int} (h : a = b) : Ending.returned (.int k a) = .returned (.int k b) := by rw [h]
theorem ret_bool {a b : Bool} (h : a = b) : Ending.returned (.bool a) = .returned (.bool b) := by rw [h]

theorem drop_byte (s : ByteArray) (k : Nat) (h : k < s.size) : s.data.toList.drop k = s[k] :: s.data.toList.drop (k + 1) := by
  rw [List.drop_eq_getElem_cons (by simpa using h)]; rfl

end Go.Proofs.YtfffpflflggonaaGreatDoor.text

namespace Go.Proofs.YtfffpflflggonaaGreatDoor.text
open Go.RowKit

end Go.Proofs.YtfffpflflggonaaGreatDoor.text
