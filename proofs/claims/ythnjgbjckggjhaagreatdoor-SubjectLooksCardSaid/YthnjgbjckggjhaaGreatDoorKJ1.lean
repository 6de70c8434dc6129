/- Plain words on memory that all walks of this seat share: what stays when a block of the draws is written, what a slice of rows holds. Walks of the schema's functions and of the reference's. Walks of the schema's own check of a test and of conditions. Conditions as they lie in memory; the schema's check of a condition and the reference's: both give one and the same number. -/
import Derived.WalkKit
import Derived.WalkSpells
import Derived.BigQuiet
import Derived.Test.YthnjgbjckggjhaaGreatDoorChecked
import Derived.WalkLawsBesides
import Derived.Deep.QuietTactic
import Derived.Lib.Hide
import Derived.LoopTactic
import Derived.Outline
import Derived.Deep.DeepMust
namespace Go.Proofs.YthnjgbjckggjhaaGreatDoor
open Go.RowKit

/-- An int from lo on and below hi. -/
def IntIn (lo hi : Int) (e : Ending) : Prop := ∃ m : Int, e = .returned (.int .i64 m) ∧ lo ≤ m ∧ m < hi

/-- Memory as it is read. -/
abbrev Mem := Addr → Option Value
def Sub (m m' : Mem) : Prop := ∀ p v, m p = some v → m' p = some v
theorem Sub.refl (m : Mem) : Sub m m := fun _ _ h => h
theorem Sub.trans {a b c : Mem} (h : Sub a b) (k : Sub b c) : Sub a c := fun p v hp => k p v (h p v hp)

/-- Memory without block b. -/
def but (b : Nat) (w : World) : Mem := fun p => if p.block = b then none else w.cell? p
theorem but_sub (b : Nat) (w : World) : Sub (but b w) w.cell? := by
  intro p v h
  unfold but at h
  split at h
  · cases h
  · exact h

theorem grown_trans {a b c : World} {r : Option Nat} (h : a.grownBy b r) (k : b.grownBy c r) : a.grownBy c r :=
  ⟨k.os.trans h.os, k.tape.trans h.tape, k.output.trans h.output, Nat.le_trans h.size k.size,
    fun i hi hne => (k.block i (Nat.lt_of_lt_of_le hi h.size) hne).trans (h.block i hi hne)⟩
theorem grown_refl (w : World) (r : Option Nat) : w.grownBy w r := ⟨rfl, rfl, rfl, Nat.le_refl _, fun _ _ _ => rfl⟩
theorem grown_none {a b : World} (h : a.grownBy b none) (r : Option Nat) : a.grownBy b r :=
  ⟨h.os, h.tape, h.output, h.size, fun i hi _ => h.block i hi (by simp)⟩
theorem grown_of_below {a b : World} (h : Below a.heap.size a b) (r : Option Nat) : a.grownBy b r :=
  ⟨h.os, h.tape, h.output, h.size, fun i hi _ => h.block i hi⟩
theorem below_of_grown {a b : World} {r : Nat} {B : Nat} (h : a.grownBy b (some r)) (hB : B ≤ a.heap.size) (hr : B ≤ r) : Below B a b :=
  ⟨h.os, h.tape, h.output, h.size, fun i hi => h.block i (by omega) (by intro e; cases e; omega)⟩
theorem grown_drew (w : World) (r : Option Nat) : w.grownBy w.drew r := ⟨rfl, rfl, rfl, Nat.le_refl _, fun _ _ _ => rfl⟩
theorem grown_drewN (w : World) (n : Nat) (r : Option Nat) : w.grownBy (w.drewN n) r := ⟨rfl, rfl, rfl, Nat.le_refl _, fun _ _ _ => rfl⟩

theorem sub_of_grown {a c : World} {b : Nat} (h : a.grownBy c (some b)) : Sub (but b a) (but b c) := by
  intro p v hp
  unfold but at hp ⊢
  split at hp
  · cases hp
  · rename_i hne
    rw [if_neg hne]
    exact h.cell hp (by intro e; cases e; exact hne rfl)
theorem sub_of_below {a c : World} (h : Below a.heap.size a c) : Sub a.cell? c.cell? := by
  intro p v hp
  exact (h.cell (World.block_lt_of_cell? a p hp)).trans hp

/-- A slice whose elements take sz cells each: its elements' cells. -/
def RowsAt (m : Mem) (sz : Nat) (v : Value) (rows : List (List Value)) : Prop :=
  ∃ a c, v = .slice a rows.length c ∧ rows.length ≤ c ∧ c ≤ maxLen ∧ (rows = [] ∨ ∃ blk off, a = some ⟨blk, off, none⟩ ∧ ∀ i r, rows[i]? = some r → ∀ j x, r[j]? = some x → m ⟨blk, off + i * sz + j, none⟩ = some x)
theorem RowsAt.mono {m m' : Mem} (hs : Sub m m') {sz : Nat} {v : Value} {rows : List (List Value)} (h : RowsAt m sz v rows) : RowsAt m' sz v rows := by
  obtain ⟨a, c, h1, h2, h3, h4⟩ := h
  refine ⟨a, c, h1, h2, h3, ?_⟩
  rcases h4 with h4 | ⟨blk, off, h5, h6⟩
  · exact Or.inl h4
  · exact Or.inr ⟨blk, off, h5, fun i r hi j x hx => hs _ _ (h6 i r hi j x hx)⟩

theorem RowsAt.cells_mono {m m' : Mem} (hs : Sub m m') {rows : List (List Value)} {blk off sz : Nat} (h : ∀ i r, rows[i]? = some r → ∀ j x, r[j]? = some x → m ⟨blk, off + i * sz + j, none⟩ = some x) :
    ∀ i r, rows[i]? = some r → ∀ j x, r[j]? = some x → m' ⟨blk, off + i * sz + j, none⟩ = some x := fun i r hi j x hx => hs _ _ (h i r hi j x hx)

/- What a function that draws does to memory: all that was there stays, but for block b. The steps of a walk, one lemma each. -/
theorem g_alloc {w u : World} {r : Option Nat} (h : w.grownBy u r) (o : Obj) : w.grownBy (u.alloc o) r :=
  grown_trans h (World.grownBy_alloc u o r)
theorem g_drew {w u : World} {r : Option Nat} (h : w.grownBy u r) : w.grownBy u.drew r := grown_trans h (grown_drew u r)
theorem g_drewN {w u : World} {r : Option Nat} (h : w.grownBy u r) (n : Nat) : w.grownBy (u.drewN n) r := grown_trans h (grown_drewN u n r)
theorem g_setCell {w u : World} {r : Option Nat} (h : w.grownBy u r) {p : Addr} (hp : w.heap.size ≤ p.block) (v : Value) : w.grownBy (u.setCell p v) r :=
  ⟨h.os, h.tape, h.output, by have := h.size; simp [World.setCell]; omega, fun k hk hne => (Below.heap_setCell u p v k (by omega)).trans (h.block k hk hne)⟩
theorem g_call {w u v : World} {r : Option Nat} (h : w.grownBy u r) (k : u.grownBy v r) : w.grownBy v r := grown_trans h k
theorem g_below {w u v : World} {r : Option Nat} (h : w.grownBy u r) (k : Below u.heap.size u v) : w.grownBy v r := grown_trans h (grown_of_below k r)
/-- An append to a row of the call's own, or to nothing. -/
theorem g_own {w u v : World} {r row : Option Nat} (h : w.grownBy u r) (k : u.grownBy v row) (hr : ∀ i, row = some i → w.heap.size ≤ i) : w.grownBy v r :=
  ⟨k.os.trans h.os, k.tape.trans h.tape, k.output.trans h.output, Nat.le_trans h.size k.size,
    fun i hi hne => (k.block i (Nat.lt_of_lt_of_le hi h.size) (by intro e; have := hr i e.symm; omega)).trans (h.block i hi hne)⟩

/-- A block of the call's own, known whole. -/
def Own (w : World) (n : Nat) (A : Array Value) (t : TypeId) : Prop := w.heap[n]? = some (.cells A t (0, 0))
theorem Own.new (w : World) (A : Array Value) (t : TypeId) : Own (w.alloc (.cells A t)) w.heap.size A t := heap_alloc_new w _
theorem Own.new' {w : World} {A : Array Value} {t : TypeId} {n : Nat} (h : n = w.heap.size) : Own (w.alloc (.cells A t)) n A t := by rw [h]; exact Own.new w A t
theorem Own.lt {w : World} {n : Nat} {A : Array Value} {t : TypeId} (h : Own w n A t) : n < w.heap.size := by
  rcases Nat.lt_or_ge n w.heap.size with hl | hl
  · exact hl
  · unfold Own at h; rw [Array.getElem?_eq_none (by omega)] at h; cases h
theorem Own.kept {w u : World} {n : Nat} {A : Array Value} {t : TypeId} {r : Option Nat} (h : Own w n A t) (g : w.grownBy u r) (hr : r ≠ some n) : Own u n A t :=
  (g.block n h.lt (fun e => hr e.symm)).trans h
theorem Own.below {w u : World} {n B : Nat} {A : Array Value} {t : TypeId} (h : Own w n A t) (g : Below B w u) (hr : n < B) : Own u n A t :=
  (g.block n hr).trans h
theorem Own.alloc {w : World} {n : Nat} {A : Array Value} {t : TypeId} (h : Own w n A t) (o : Obj) : Own (w.alloc o) n A t := h.kept (World.grownBy_alloc w o none) (by simp)
theorem Own.drewN {w : World} {n : Nat} {A : Array Value} {t : TypeId} (h : Own w n A t) (q : Nat) : Own (w.drewN q) n A t := h
theorem Own.drew {w : World} {n : Nat} {A : Array Value} {t : TypeId} (h : Own w n A t) : Own w.drew n A t := h
theorem Own.cell {w : World} {n : Nat} {A : Array Value} {t : TypeId} (h : Own w n A t) (i : Nat) : w.cell? ⟨n, i, none⟩ = A[i]? := by
  unfold Own at h; simp [World.cell?, h]
theorem Own.free {w : World} {n : Nat} {A : Array Value} {t : TypeId} (h : Own w n A t) (i : Nat) : w.frozen? ⟨n, i, none⟩ = false := by
  unfold Own at h; simp [World.frozen?, h]
theorem Own.set {w : World} {n : Nat} {A : Array Value} {t : TypeId} (h : Own w n A t) (i : Nat) (v : Value) : Own (w.setCell ⟨n, i, none⟩ v) n (A.setIfInBounds i v) t := by
  unfold Own at *; simp [World.setCell, Array.getElem?_modify, h]
theorem Own.setOther {w : World} {n : Nat} {A : Array Value} {t : TypeId} (h : Own w n A t) {p : Addr} (hp : n ≠ p.block) (v : Value) : Own (w.setCell p v) n A t :=
  (Below.heap_setCell w p v n hp).trans h

theorem owns_slice {w : World} {base : Nat} {e : TypeId} {size : Nat} {v : Value} {n : Nat} {xs : List Value} (h : w.ownsRow base e size v n xs) : ∃ a c, v = .slice a n c := by
  rcases h.2 with ⟨rfl, rfl⟩ | ⟨g, cap, cur, rfl, _⟩
  · exact ⟨_, _, rfl⟩
  · exact ⟨_, _, rfl⟩

theorem flat_get (sz : Nat) (rows : List (List Value)) (hs : ∀ r ∈ rows, r.length = sz) : ∀ (i : Nat) (r : List Value), rows[i]? = some r → ∀ (j : Nat) (x : Value), r[j]? = some x → rows.flatten[i * sz + j]? = some x := by
  induction rows with
  | nil => intro i r hi; simp at hi
  | cons a rest ih =>
    intro i r hi j x hj
    have ha := hs a (by simp)
    rw [List.flatten_cons]
    cases i with
    | zero =>
      simp only [List.getElem?_cons_zero, Option.some.injEq] at hi
      subst hi
      have hlt := (List.getElem?_eq_some_iff.1 hj).1
      rw [Nat.zero_mul, Nat.zero_add, List.getElem?_append_left hlt]
      exact hj
    | succ i =>
      have h := ih (fun r hr => hs r (by simp [hr])) i r (by simpa using hi) j x hj
      have e : (i + 1) * sz + j = a.length + (i * sz + j) := by rw [ha, Nat.add_mul]; omega
      rw [e, List.getElem?_append_right (by omega)]
      simpa using h
theorem flat_len (sz : Nat) (rows : List (List Value)) (hs : ∀ r ∈ rows, r.length = sz) : rows.flatten.length = rows.length * sz := by
  induction rows with
  | nil => simp
  | cons a rest ih =>
    rw [List.flatten_cons, List.length_append, ih (fun r hr => hs r (by simp [hr])), hs a (by simp), List.length_cons, Nat.add_mul]
    omega

/-- A block of the call's own as a slice of rows. -/
theorem rows_of_own {w : World} {n : Nat} {A : Array Value} {t : TypeId} (h : Own w n A t) (sz : Nat) (rows : List (List Value)) (hs : ∀ r ∈ rows, r.length = sz) (hA : A.toList = rows.flatten) (c : Nat) (hc : rows.length ≤ c) (hm : c ≤ maxLen) :
    RowsAt w.cell? sz (.slice (some ⟨n, 0, none⟩) rows.length c) rows := by
  refine ⟨_, c, rfl, hc, hm, Or.inr ⟨n, 0, rfl, fun i r hi j x hx => ?_⟩⟩
  rw [Nat.zero_add, h.cell]
  have := flat_get sz rows hs i r hi j x hx
  rw [← hA] at this
  simpa using this

/-- A row that appends have made, as a slice of rows. -/
theorem rows_of_owns {w : World} {base : Nat} {e : TypeId} {sz : Nat} {v : Value} {n : Nat} {xs : List Value} (h : w.ownsRow base e sz v n xs) (rows : List (List Value)) (hn : n = rows.length) (hs : ∀ r ∈ rows, r.length = sz) (hx : xs = rows.flatten) :
    RowsAt w.cell? sz v rows := by
  subst hx hn
  rcases h.2 with ⟨rfl, h0⟩ | ⟨g, cap, cur, rfl, hb, hg, hnc, hcm, hcs, htake⟩
  · have hr : rows = [] := List.eq_nil_of_length_eq_zero h0
    subst hr
    exact ⟨none, 0, rfl, by simp, by simp, Or.inl rfl⟩
  · refine ⟨_, cap, rfl, hnc, hcm, Or.inr ⟨g, 0, rfl, fun i r hi j x hx => ?_⟩⟩
    have h1 := flat_get sz rows hs i r hi j x hx
    rw [Nat.zero_add]
    have h2 : w.cell? ⟨g, i * sz + j, none⟩ = cur[i * sz + j]? := by simp [World.cell?, hg]
    rw [h2]
    rw [← htake, List.getElem?_take] at h1
    split at h1
    · simpa using h1
    · cases h1
theorem rows_nil (m : Mem) (sz : Nat) : RowsAt m sz (.slice none 0 0) [] := ⟨none, 0, rfl, by simp, by simp, Or.inl rfl⟩

theorem owns_kept {w u : World} {base : Nat} {e : TypeId} {size : Nat} {v : Value} {n : Nat} {xs : List Value} {b : Nat} (h : w.ownsRow base e size v n xs) (hg : w.grownBy u (some b)) (hb : b < base) : u.ownsRow base e size v n xs :=
  h.kept hg (Or.inr (fun e => by have := (h.lt b e).1; omega))
theorem owns_drew {w : World} {base : Nat} {e : TypeId} {size : Nat} {v : Value} {n : Nat} {xs : List Value} (h : w.ownsRow base e size v n xs) : w.drew.ownsRow base e size v n xs := h

/-- What lies below an owned row's base stays where that row is appended to. -/
theorem row_far {w : World} {base : Nat} {e : TypeId} {size : Nat} {v : Value} {n : Nat} {xs : List Value} (h : w.ownsRow base e size v n xs) {k : Nat} (hk : k < base) : v.ownBlock ≠ some k :=
  fun e => by have := (h.lt k e).1; omega
theorem own_past {w u : World} {base : Nat} {e t : TypeId} {size : Nat} {v : Value} {n k : Nat} {xs : List Value} {A : Array Value} (h : w.ownsRow base e size v n xs) (hO : Own w k A t) (hg : w.grownBy u v.ownBlock) (hk : k < base) : Own u k A t :=
  hO.kept hg (row_far h hk)

/-- A slice of integers that came in: nil, or it leads to a row of cells: its elements, then its spare room. -/
def IsRow (k : IntKind) (w : World) (a : Option Addr) (len cap : Nat) (zs : List Int) : Prop :=
  (a = none ∧ len = 0 ∧ cap = 0 ∧ zs = []) ∨
  ∃ x, a = some x ∧ len ≤ cap ∧ cap ≤ maxLen ∧ zs.length = cap ∧ (∀ i, i < zs.length → w.cell? (x.add i) = some (.int k (zs.getD i 0))) ∧ ∀ n ∈ zs, (Lit.int k n).wf = true

/-- The same, read past the codes' own block. -/
theorem rows_of_own_but {w : World} {n b : Nat} {A : Array Value} {t : TypeId} (h : Own w n A t) (hb : n ≠ b) (sz : Nat) (rows : List (List Value)) (hs : ∀ r ∈ rows, r.length = sz) (hA : A.toList = rows.flatten) (c : Nat) (hc : rows.length ≤ c) (hm : c ≤ maxLen) :
    RowsAt (but b w) sz (.slice (some ⟨n, 0, none⟩) rows.length c) rows := by
  obtain ⟨a, c', h1, h2, h3, h4⟩ := rows_of_own h sz rows hs hA c hc hm
  injection h1 with ha _ hcc
  subst ha
  subst hcc
  refine ⟨_, _, rfl, h2, h3, ?_⟩
  rcases h4 with h4 | ⟨blk, off, h5, h6⟩
  · exact Or.inl h4
  · injection h5 with h5
    injection h5 with h7 h8
    subst h7
    subst h8
    refine Or.inr ⟨n, 0, rfl, fun i r hi j x hx => ?_⟩
    unfold but
    rw [if_neg hb]
    exact h6 i r hi j x hx
theorem rows_of_owns_but {w : World} {base b : Nat} {e : TypeId} {sz : Nat} {v : Value} {n : Nat} {xs : List Value} (h : w.ownsRow base e sz v n xs) (hb : b < base) (rows : List (List Value)) (hn : n = rows.length) (hs : ∀ r ∈ rows, r.length = sz) (hx : xs = rows.flatten) :
    RowsAt (but b w) sz v rows := by
  obtain ⟨a, c, h1, h2, h3, h4⟩ := rows_of_owns h rows hn hs hx
  refine ⟨a, c, h1, h2, h3, ?_⟩
  rcases h4 with h4 | ⟨blk, off, h5, h6⟩
  · exact Or.inl h4
  · refine Or.inr ⟨blk, off, h5, fun i r hi j x hx => ?_⟩
    have hne : blk ≠ b := by
      have := (h.lt blk (by rw [h1, h5]; rfl)).1
      omega
    unfold but
    rw [if_neg hne]
    exact h6 i r hi j x hx

end Go.Proofs.YthnjgbjckggjhaaGreatDoor

namespace Go.Proofs.YthnjgbjckggjhaaGreatDoor.schema
open Go.RowKit

structure DD where
  kind : ByteArray
  name : ByteArray
  type : Int
def DD.row (d : DD) : List Value := [.string d.kind, .string d.name, .int .i64 d.type]

def typeOf (kind name : List UInt8) : List DD → Int
  | [] => if name == [107, 101, 121] then 3 else 0
  | d :: r => if d.kind.toList == kind && d.name.toList == name then d.type else typeOf kind name r

theorem typeOf_hit {kind name : List UInt8} {l : List DD} {k : Nat} (h : k < l.length) (h1 : l[k].kind.toList = kind) (h2 : (l[k].name.toList == name) = true) (T : typeOf kind name (l.drop k) = typeOf kind name l) : l[k].type = typeOf kind name l := by
  rw [← T, List.drop_eq_getElem_cons h, typeOf, h1, h2]
  simp
theorem typeOf_miss1 {kind name : List UInt8} {l : List DD} {k : Nat} (h : k < l.length) (h1 : ¬ l[k].kind.toList = kind) (T : typeOf kind name (l.drop k) = typeOf kind name l) : typeOf kind name (l.drop (k + 1)) = typeOf kind name l := by
  rw [← T, List.drop_eq_getElem_cons h, typeOf]
  simp [h1]
theorem typeOf_miss2 {kind name : List UInt8} {l : List DD} {k : Nat} (h : k < l.length) (h2 : (l[k].name.toList == name) = false) (T : typeOf kind name (l.drop k) = typeOf kind name l) : typeOf kind name (l.drop (k + 1)) = typeOf kind name l := by
  rw [← T, List.drop_eq_getElem_cons h, typeOf, h2]
  simp
theorem typeOf_end {kind name : List UInt8} {l : List DD} {k : Nat} (h : ¬ k < l.length) (T : typeOf kind name (l.drop k) = typeOf kind name l) : typeOf kind name l = if name == [107, 101, 121] then 3 else 0 := by
  rw [← T, List.drop_eq_nil_of_le (by omega), typeOf]

theorem dd_cells {m : Mem} {l : List DD} {blk off : Nat} (hr : ∀ i r, (l.map DD.row)[i]? = some r → ∀ j x, r[j]? = some x → m ⟨blk, off + i * 3 + j, none⟩ = some x) {k : Nat} (hk : k < l.length) :
    m ⟨blk, off + k * 3, none⟩ = some (.string l[k].kind) ∧ m ⟨blk, off + k * 3 + 1, none⟩ = some (.string l[k].name) ∧ m ⟨blk, off + k * 3 + 2, none⟩ = some (.int .i64 l[k].type) := by
  have h := hr k l[k].row (by simp [hk])
  exact ⟨h 0 _ rfl, h 1 _ rfl, h 2 _ rfl⟩

theorem ret_int {k : IntKind} {a b : Int} (h : a = b) : Ending.returned (.int k a) = .returned (.int k b) := by rw [h]

/-- Strings of a list. -/
def strRow (s : ByteArray) : List Value := [.string s]
def hasS (s : List UInt8) : List ByteArray → Bool
  | [] => false
  | x :: r => x.toList == s || hasS s r
theorem hasS_hit {s : List UInt8} {l : List ByteArray} {k : Nat} (h : k < l.length) (h1 : (l[k].toList == s) = true) (T : hasS s (l.drop k) = hasS s l) : hasS s l = true := by
  rw [← T, List.drop_eq_getElem_cons h, hasS, h1]; rfl
theorem hasS_miss {s : List UInt8} {l : List ByteArray} {k : Nat} (h : k < l.length) (h1 : (l[k].toList == s) = false) (T : hasS s (l.drop k) = hasS s l) : hasS s (l.drop (k + 1)) = hasS s l := by
  rw [← T, List.drop_eq_getElem_cons h, hasS, h1]; rfl
theorem hasS_end {s : List UInt8} {l : List ByteArray} {k : Nat} (h : ¬ k < l.length) (T : hasS s (l.drop k) = hasS s l) : hasS s l = false := by
  rw [← T, List.drop_eq_nil_of_le (by omega), hasS]
theorem str_cell {m : Mem} {l : List ByteArray} {blk off : Nat} (hr : ∀ i r, (l.map strRow)[i]? = some r → ∀ j x, r[j]? = some x → m ⟨blk, off + i * 1 + j, none⟩ = some x) {k : Nat} (hk : k < l.length) :
    m ⟨blk, off + k, none⟩ = some (.string l[k]) := by
  have h := hr k (strRow l[k]) (by simp [hk]) 0 _ rfl
  simpa using h

theorem ret_bool {a b : Bool} (h : a = b) : Ending.returned (.bool a) = .returned (.bool b) := by rw [h]

/-- What Index gives: -1 or a place. -/
def IndexIs (b : Bool) (e : Ending) : Prop := ∃ m : Int, e = .returned (.int .i64 m) ∧ (0 ≤ m ↔ b = true) ∧ -1 ≤ m

/-- A value as its four cells. -/
structure VD where
  kind : Int
  num : Int
  text : ByteArray
  ptr : Option Addr
  len : Nat
  cap : Nat
  ls : List ByteArray
def VD.row (d : VD) : List Value := [.int .i64 d.kind, .int .i64 d.num, .string d.text, .slice d.ptr d.len d.cap]
/-- The texts of a value's list lie where the value says; the value is not too large. -/
structure LAt (m : Mem) (d : VD) : Prop where
  rows : RowsAt m 1 (.slice d.ptr d.len d.cap) (d.ls.map strRow)
  text : d.text.size < 4294967281
  few : d.ls.length ≤ 8796093022208
theorem LAt.mono {m m' : Mem} (hs : Sub m m') {d : VD} (h : LAt m d) : LAt m' d := ⟨RowsAt.mono hs h.rows, h.text, h.few⟩
theorem LAt.flat (m : Mem) (k n : Int) (t : ByteArray) (ht : t.size < 4294967281) : LAt m ⟨k, n, t, none, 0, 0, []⟩ := ⟨⟨none, 0, rfl, by simp, by simp, Or.inl rfl⟩, ht, by simp⟩
theorem strRow_flat : ∀ l : List ByteArray, (l.map strRow).flatten = l.map Value.string
  | [] => rfl
  | x :: r => by rw [List.map_cons, List.flatten_cons, strRow_flat r]; rfl
theorem vd_cells {m : Mem} {l : List VD} {blk off : Nat} (hr : ∀ i r, (l.map VD.row)[i]? = some r → ∀ j x, r[j]? = some x → m ⟨blk, off + i * 4 + j, none⟩ = some x) {k : Nat} (hk : k < l.length) :
    m ⟨blk, off + k * 4, none⟩ = some (.int .i64 l[k].kind) ∧ m ⟨blk, off + k * 4 + 1, none⟩ = some (.int .i64 l[k].num) ∧ m ⟨blk, off + k * 4 + 2, none⟩ = some (.string l[k].text) ∧ m ⟨blk, off + k * 4 + 3, none⟩ = some (.slice l[k].ptr l[k].len l[k].cap) := by
  have h := hr k l[k].row (by simp [hk])
  exact ⟨h 0 _ rfl, h 1 _ rfl, h 2 _ rfl, h 3 _ rfl⟩

def allKind (t : Int) : List VD → Bool
  | [] => true
  | v :: r => v.kind == t && allKind t r
theorem allKind_hit {t : Int} {l : List VD} {k : Nat} (h : k < l.length) (h1 : (l[k].kind != t) = true) (T : allKind t (l.drop k) = allKind t l) : allKind t l = false := by
  rw [← T, List.drop_eq_getElem_cons h, allKind]
  have : (l[k].kind == t) = false := by simpa using h1
  rw [this]; rfl
theorem allKind_miss {t : Int} {l : List VD} {k : Nat} (h : k < l.length) (h1 : (l[k].kind != t) = false) (T : allKind t (l.drop k) = allKind t l) : allKind t (l.drop (k + 1)) = allKind t l := by
  rw [← T, List.drop_eq_getElem_cons h, allKind]
  have : (l[k].kind == t) = true := by simpa using h1
  rw [this]; rfl
theorem allKind_end {t : Int} {l : List VD} {k : Nat} (h : ¬ k < l.length) (T : allKind t (l.drop k) = allKind t l) : allKind t l = true := by
  rw [← T, List.drop_eq_nil_of_le (by omega), allKind]

/-- Whether a test's values fit its operation, for an attribute of type t. -/
def fitsK (op t k : Int) : Bool :=
  if op = 7 then k == t else if op = 9 ∨ op = 10 then t == 3 && k == 3 else if op = 11 then (t == 3 || t == 5) && k == 3 else (t == 2 || t == 3 || t == 4) && k == t
def fitsS (op t : Int) (vals : List VD) : Bool :=
  if op = 6 then true else if op = 8 then t != 5 && allKind t vals else match vals with | [] => false | v :: _ => fitsK op t v.kind

end Go.Proofs.YthnjgbjckggjhaaGreatDoor.schema

namespace Go.Proofs.YthnjgbjckggjhaaGreatDoor.schema
open Go.RowKit

end Go.Proofs.YthnjgbjckggjhaaGreatDoor.schema

namespace Go.Proofs.YthnjgbjckggjhaaGreatDoor.schema
open Go.RowKit

/-- A condition as data. -/
inductive ED where
  | mk (op : Int) (kind name : ByteArray) (vals : List VD) (kids : List ED)

/-- A condition's five cells, and what they lead to in a memory. -/
inductive EAt (m : Mem) : ED → List Value → Prop
  | mk {op : Int} {kind name : ByteArray} {vals : List VD} {kids : List ED} {vs ks : Value} (rows : List (List Value))
      (hv : RowsAt m 4 vs (vals.map VD.row)) (hk : RowsAt m 5 ks rows) (hl : rows.length = kids.length) (hL : ∀ v ∈ vals, LAt m v)
      (h : ∀ (i : Nat) (r : List Value) (k : ED), rows[i]? = some r → kids[i]? = some k → EAt m k r) :
      EAt m (.mk op kind name vals kids) [.int .i64 op, .string kind, .string name, vs, ks]

theorem EAt.mono {m m' : Mem} (hs : Sub m m') {d : ED} {r : List Value} (h : EAt m d r) : EAt m' d r := by
  induction h with
  | mk rows hv hk hl hL _ ih => exact .mk rows (hv.mono hs) (hk.mono hs) hl (fun v hm => (hL v hm).mono hs) ih

/-- The error of a condition's own part. -/
def hereS (decl : List DD) (segs : List ByteArray) (op : Int) (kind name : ByteArray) (vals : List VD) : Int :=
  if op = 5 then (if hasS name.toList segs then 0 else 11)
  else if 6 ≤ op ∧ op ≤ 15 then
    (if typeOf kind.toList name.toList decl = 0 then 11 else if fitsS op (typeOf kind.toList name.toList decl) vals then 0 else 8)
  else 0
mutual
def exprS (decl : List DD) (segs : List ByteArray) : ED → Int
  | .mk op kind name vals kids => if hereS decl segs op kind name vals = 0 then exprL decl segs kids else hereS decl segs op kind name vals
def exprL (decl : List DD) (segs : List ByteArray) : List ED → Int
  | [] => 0
  | k :: r => if exprS decl segs k = 0 then exprL decl segs r else exprS decl segs k
end

theorem exprL_hit {decl : List DD} {segs : List ByteArray} {l : List ED} {k : Nat} (h : k < l.length) (h1 : (exprS decl segs l[k] != 0) = true) (T : exprL decl segs (l.drop k) = exprL decl segs l) : exprS decl segs l[k] = exprL decl segs l := by
  rw [← T, List.drop_eq_getElem_cons h, exprL, if_neg (by simpa using h1)]
theorem exprL_miss {decl : List DD} {segs : List ByteArray} {l : List ED} {k : Nat} (h : k < l.length) (h1 : (exprS decl segs l[k] != 0) = false) (T : exprL decl segs (l.drop k) = exprL decl segs l) : exprL decl segs (l.drop (k + 1)) = exprL decl segs l := by
  rw [← T, List.drop_eq_getElem_cons h, exprL, if_pos (by simpa using h1)]
theorem exprL_end {decl : List DD} {segs : List ByteArray} {l : List ED} {k : Nat} (h : ¬ k < l.length) (T : exprL decl segs (l.drop k) = exprL decl segs l) : exprL decl segs l = 0 := by
  rw [← T, List.drop_eq_nil_of_le (by omega), exprL]

/-- What both checks do. -/
def Checks (n : Int) (w : World) (e : Ending) (w' : World) : Prop := e = .returned (.int .i64 n) ∧ Below w.heap.size w w'

/-- The contract for one condition, whatever the world in which the memory is still there. -/
def ExprOk (f : FuncId) (decl : List DD) (segs : List ByteArray) (dv sv : Value) (m : Mem) (d : ED) (r : List Value) : Prop :=
  ∀ w : World, Sub m w.cell? → Calls Tryz.prog f #[dv, sv, .agg r.toArray] w (Checks (exprS decl segs d) w)

theorem kid_cells {m : Mem} {decl : List DD} {segs : List ByteArray} {dv sv : Value} {f : FuncId} {rows : List (List Value)} {kids : List ED} {blk off : Nat} (hr : ∀ i r, rows[i]? = some r → ∀ j x, r[j]? = some x → m ⟨blk, off + i * 5 + j, none⟩ = some x)
    (hl : rows.length = kids.length) (hE : ∀ (i : Nat) (r : List Value) (k : ED), rows[i]? = some r → kids[i]? = some k → EAt m k r)
    (ih : ∀ (i : Nat) (r : List Value) (k : ED), rows[i]? = some r → kids[i]? = some k → ExprOk f decl segs dv sv m k r) {k : Nat} (hk : k < kids.length) :
    ∃ op kind name va vn vc ka kn kc, m ⟨blk, off + k * 5, none⟩ = some (.int .i64 op) ∧ m ⟨blk, off + k * 5 + 1, none⟩ = some (.string kind) ∧ m ⟨blk, off + k * 5 + 2, none⟩ = some (.string name) ∧
      m ⟨blk, off + k * 5 + 3, none⟩ = some (.slice va vn vc) ∧ m ⟨blk, off + k * 5 + 4, none⟩ = some (.slice ka kn kc) ∧ ExprOk f decl segs dv sv m kids[k] [.int .i64 op, .string kind, .string name, .slice va vn vc, .slice ka kn kc] := by
  have hk' : k < rows.length := by omega
  have h1 : rows[k]? = some rows[k] := by simp [hk']
  have h2 : kids[k]? = some kids[k] := by simp [hk]
  have h := hr k rows[k] h1
  have hi := ih k _ _ h1 h2
  generalize rows[k] = r at h hi h1
  generalize kids[k] = d at hi h2
  have he := hE k _ _ h1 h2
  cases he with
  | mk rows' hv' hk' hl' hL' h' =>
    obtain ⟨va, vc, rfl, -, -, -⟩ := hv'
    obtain ⟨ka, kc, rfl, -, -, -⟩ := hk'
    exact ⟨_, _, _, _, _, _, _, _, _, h 0 _ rfl, h 1 _ rfl, h 2 _ rfl, h 3 _ rfl, h 4 _ rfl, hi⟩

theorem exprS_stop {decl : List DD} {segs : List ByteArray} {op : Int} {kind name : ByteArray} {vals : List VD} {kids : List ED} {n : Int} (h : hereS decl segs op kind name vals = n) (hn : n ≠ 0) : exprS decl segs (.mk op kind name vals kids) = n := by
  rw [exprS, h, if_neg hn]
theorem exprS_go {decl : List DD} {segs : List ByteArray} {op : Int} {kind name : ByteArray} {vals : List VD} {kids : List ED} (h : hereS decl segs op kind name vals = 0) : exprS decl segs (.mk op kind name vals kids) = exprL decl segs kids := by
  rw [exprS, h, if_pos rfl]

/-- The ways through a condition's own part. -/
theorem ways (decl : List DD) (segs : List ByteArray) (op : Int) (kind name : ByteArray) (vals : List VD) :
    (op = 5 ∧ hasS name.toList segs = false ∧ hereS decl segs op kind name vals = 11) ∨
    (op = 5 ∧ hasS name.toList segs = true ∧ hereS decl segs op kind name vals = 0) ∨
    ((op == 5) = false ∧ decide (6 ≤ op ∧ op ≤ 15) = false ∧ hereS decl segs op kind name vals = 0) ∨
    ∃ ty, typeOf kind.toList name.toList decl = ty ∧ (op == 5) = false ∧ decide (6 ≤ op ∧ op ≤ 15) = true ∧
      ((ty = 0 ∧ hereS decl segs op kind name vals = 11) ∨ ((ty == 0) = false ∧ fitsS op ty vals = false ∧ hereS decl segs op kind name vals = 8) ∨ ((ty == 0) = false ∧ fitsS op ty vals = true ∧ hereS decl segs op kind name vals = 0)) := by
  unfold hereS
  by_cases h5 : op = 5
  · cases hh : hasS name.toList segs <;> simp [h5]
  · by_cases h6 : 6 ≤ op ∧ op ≤ 15
    · right; right; right
      refine ⟨_, rfl, by simp [h5], by simp [h6], ?_⟩
      by_cases ht : typeOf kind.toList name.toList decl = 0
      · simp [h5, h6, ht]
      · cases hf : fitsS op (typeOf kind.toList name.toList decl) vals <;> simp [h5, h6, ht]
    · right; right; left
      simp [h5, h6]

end Go.Proofs.YthnjgbjckggjhaaGreatDoor.schema
