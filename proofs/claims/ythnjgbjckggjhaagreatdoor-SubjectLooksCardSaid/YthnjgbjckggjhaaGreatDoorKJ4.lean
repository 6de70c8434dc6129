/- Whether two rows of texts are equal: slices.Equal at any two rows. Whether two values are equal: the program's Equal at any two values. Chapter 11, plain: subjects and tests as data; which attribute is found, whether a test and a condition hold. Words on memory that was made from some block on. -/
import Derived.Test.YthnjgbjckggjhaaGreatDoorKValH
import Derived.Test.YthnjgbjckggjhaaGreatDoorKJ1
namespace Go.Proofs.YthnjgbjckggjhaaGreatDoor.value
open Go.RowKit Go.Proofs.YthnjgbjckggjhaaGreatDoor.text

theorem ls_len {xs ys : List ByteArray} (h : ¬ xs.length = ys.length) : (lsL xs == lsL ys) = false := by
  rw [beq_eq_false_iff_ne]
  intro e
  have := congrArg List.length e
  simp [lsL] at this
  exact h this
theorem ls_bad {xs ys : List ByteArray} {k : Nat} (hx : k < xs.length) (hy : k < ys.length) (h : xs[k].toList ≠ ys[k].toList) : (lsL xs == lsL ys) = false := by
  rw [beq_eq_false_iff_ne]
  intro e
  apply h
  rw [ByteArray.toList_eq, ByteArray.toList_eq]
  have h1 : (lsL xs)[k]? = (lsL ys)[k]? := by rw [e]
  simpa [lsL, hx, hy] using h1
theorem ls_good {xs ys : List ByteArray} (hl : xs.length = ys.length) (h : ∀ k (hx : k < xs.length) (hy : k < ys.length), xs[k].toList = ys[k].toList) : (lsL xs == lsL ys) = true := by
  rw [beq_iff_eq]
  apply List.ext_getElem (by simpa [lsL] using hl)
  intro k h1 h2
  have hx : k < xs.length := by simpa [lsL] using h1
  have hy : k < ys.length := by simpa [lsL] using h2
  have := h k hx hy
  rw [ByteArray.toList_eq, ByteArray.toList_eq] at this
  simpa [lsL] using this
theorem ret_bool {a b : Bool} (h : a = b) : Ending.returned (.bool b) = .returned (.bool a) := by rw [h]

end Go.Proofs.YthnjgbjckggjhaaGreatDoor.value

namespace Go.Proofs.YthnjgbjckggjhaaGreatDoor.value
open Go.RowKit Go.Proofs.YthnjgbjckggjhaaGreatDoor.text

/-- Equal of chapter 3 as the program works it out. -/
def eqVV (k l n m : Int) (s t : ByteArray) (e : Bool) : Bool := (k == l) && ((n == m) && ((s.toList == t.toList) && e))

end Go.Proofs.YthnjgbjckggjhaaGreatDoor.value

namespace Go.Proofs.YthnjgbjckggjhaaGreatDoor.clause
open Go.RowKit Go.Proofs.YthnjgbjckggjhaaGreatDoor Go.Proofs.YthnjgbjckggjhaaGreatDoor.schema Go.Proofs.YthnjgbjckggjhaaGreatDoor.value Go.Proofs.YthnjgbjckggjhaaGreatDoor.text

/-- An attribute: its name and its value. -/
structure AD where
  name : ByteArray
  val : VD
def AD.row (a : AD) : List Value := .string a.name :: a.val.row
/-- A context as its three cells, and its attributes. -/
structure CT where
  kind : ByteArray
  key : ByteArray
  ptr : Option Addr
  len : Nat
  cap : Nat
  attrs : List AD
def CT.row (c : CT) : List Value := [.string c.kind, .string c.key, .slice c.ptr c.len c.cap]
/-- The attributes of a context lie where it says. -/
structure CAt (m : Mem) (c : CT) : Prop where
  rows : RowsAt m 5 (.slice c.ptr c.len c.cap) (c.attrs.map AD.row)
  each : ∀ a ∈ c.attrs, LAt m a.val
  key : c.key.size < 4294967281
theorem CAt.mono {m m' : Mem} (hs : Sub m m') {c : CT} (h : CAt m c) : CAt m' c := ⟨h.rows.mono hs, fun a ha => (h.each a ha).mono hs, h.key⟩
/-- A subject. -/
structure SAt (m : Mem) (v : Value) (l : List CT) : Prop where
  rows : RowsAt m 3 v (l.map CT.row)
  each : ∀ c ∈ l, CAt m c
theorem SAt.mono {m m' : Mem} (hs : Sub m m') {v : Value} {l : List CT} (h : SAt m v l) : SAt m' v l := ⟨h.rows.mono hs, fun c hc => (h.each c hc).mono hs⟩

/-- The first context of a kind. -/
def findS (kind : List UInt8) : List CT → Option CT
  | [] => none
  | c :: r => if (c.kind.toList == kind) = true then some c else findS kind r
/-- The first attribute of a name. -/
def findA (name : List UInt8) : List AD → Option VD
  | [] => none
  | a :: r => if (a.name.toList == name) = true then some a.val else findA name r
def keyB : ByteArray := ⟨#[107, 101, 121]⟩
def keyV (s : ByteArray) : VD := ⟨3, 0, s, none, 0, 0, []⟩
def lookS (l : List CT) (kind name : List UInt8) : Option VD :=
  match findS kind l with
  | none => none
  | some c => if (name == [107, 101, 121]) = true then some (keyV c.key) else findA name c.attrs

/-- A value's content. -/
def vv (d : VD) : VV := ⟨d.kind, d.num, d.text.data.toList, lsL d.ls⟩
def eqV (a b : VD) : Bool := eqVV a.kind b.kind a.num b.num a.text b.text (lsL a.ls == lsL b.ls)
/-- Two values of one content. -/
def SameV (a b : VD) : Prop := a.kind = b.kind ∧ a.num = b.num ∧ a.text = b.text ∧ a.ls = b.ls
theorem SameV.vv {a b : VD} (h : SameV a b) : vv a = vv b := by obtain ⟨h1, h2, h3, h4⟩ := h; unfold clause.vv; rw [h1, h2, h3, h4]

/-- How a comparison answers an operation. -/
def cmpB (op : Int) (c : Int × Int) : Bool :=
  if c.2 ≠ 0 then false else if op = 12 then decide (c.1 < 0) else if op = 13 then decide (c.1 ≤ 0) else if op = 14 then decide (0 < c.1) else decide (0 ≤ c.1)
/-- Whether an operation holds between a value and the first value of a test. -/
def oneS (op : Int) (v w : VD) : Bool :=
  if op = 7 then eqV v w
  else if op = 9 then (v.kind == 3 && w.kind == 3) && w.text.data.toList.isPrefixOf v.text.data.toList
  else if op = 10 then (v.kind == 3 && w.kind == 3) && w.text.data.toList.isSuffixOf v.text.data.toList
  else if op = 11 then (v.kind == 3 && w.kind == 3 && Lib.contains v.text.data.toList w.text.data.toList) || (w.kind == 3 && v.kind == 5 && hasS w.text.toList v.ls)
  else cmpB op (compareS (clause.vv v) (clause.vv w))
def holdsS (op : Int) (v : VD) (vals : List VD) : Bool :=
  if op = 6 then true else if op = 8 then vals.any (eqV v) else match vals with
  | [] => false
  | w :: _ => oneS op v w
def testS (l : List CT) (op : Int) (kind name : ByteArray) (vals : List VD) : Bool :=
  match lookS l kind.toList name.toList with
  | none => false
  | some v => if 6 ≤ op ∧ op ≤ 15 then holdsS op v vals else false
mutual
def evalS (l : List CT) (inn : List ByteArray) : ED → Bool
  | .mk op kind name vals kids =>
    if op = 1 then true
    else if op = 2 then allS l inn kids
    else if op = 3 then anyS l inn kids
    else if op = 4 then headS l inn kids
    else if op = 5 then hasS name.toList inn
    else testS l op kind name vals
def allS (l : List CT) (inn : List ByteArray) : List ED → Bool
  | [] => true
  | k :: r => evalS l inn k && allS l inn r
def anyS (l : List CT) (inn : List ByteArray) : List ED → Bool
  | [] => false
  | k :: r => evalS l inn k || anyS l inn r
def headS (l : List CT) (inn : List ByteArray) : List ED → Bool
  | [] => false
  | k :: _ => !evalS l inn k
end

end Go.Proofs.YthnjgbjckggjhaaGreatDoor.clause

namespace Go.Proofs.YthnjgbjckggjhaaGreatDoor.draw
open Go.RowKit Go.Proofs.YthnjgbjckggjhaaGreatDoor.schema

/-- Memory that was made from block B on, without block b. -/
def newM (B b : Nat) (w : World) : Mem := fun p => if p.block < B ∨ p.block = b then none else w.cell? p
theorem newM_but (B b : Nat) (w : World) : Sub (newM B b w) (but b w) := by
  intro p v h
  unfold newM at h
  unfold but
  split at h
  · cases h
  · rename_i hne
    rw [if_neg (fun e => hne (Or.inr e))]
    exact h
theorem newM_mono {B B' : Nat} (hB : B ≤ B') (b : Nat) (w : World) : Sub (newM B' b w) (newM B b w) := by
  intro p v h
  unfold newM at *
  split at h
  · cases h
  · rename_i hne
    rw [if_neg (fun e => hne (e.imp (fun e => by omega) id))]
    exact h
theorem newM_grown {B b : Nat} {w u : World} (g : w.grownBy u (some b)) : Sub (newM B b w) (newM B b u) := by
  intro p v h
  unfold newM at *
  split at h
  · cases h
  · rename_i hne
    rw [if_neg hne]
    exact g.cell h (by intro e; injection e with e; exact hne (Or.inr e))
theorem newM_set {B b : Nat} {w : World} {q : Addr} (hq : q.block < B) (x : Value) : Sub (newM B b w) (newM B b (w.setCell q x)) := by
  intro p v h
  unfold newM at *
  split at h
  · cases h
  · rename_i hne
    rw [if_neg hne]
    rw [World.cell?_of_block (Below.heap_setCell w q x p.block (fun e => hne (Or.inl (by omega))))]
    exact h
theorem rows_new {B b : Nat} {w : World} {sz : Nat} {v : Value} {rows : List (List Value)} (h : RowsAt w.cell? sz v rows) (hv : ∀ n, v.ownBlock = some n → B ≤ n ∧ n ≠ b) : RowsAt (newM B b w) sz v rows := by
  obtain ⟨a, c, h1, h2, h3, h4⟩ := h
  refine ⟨a, c, h1, h2, h3, ?_⟩
  rcases h4 with h4 | ⟨blk, off, h5, h6⟩
  · exact Or.inl h4
  · refine Or.inr ⟨blk, off, h5, fun i r hi j x hx => ?_⟩
    obtain ⟨g1, g2⟩ := hv blk (by rw [h1, h5]; rfl)
    unfold newM
    rw [if_neg (by intro e; rcases e with e | e <;> simp at e <;> omega)]
    exact h6 i r hi j x hx
theorem rows_of_own_new {w : World} {n B b : Nat} {A : Array Value} {t : TypeId} (h : Own w n A t) (hB : B ≤ n) (hb : n ≠ b) (sz : Nat) (rows : List (List Value)) (hs : ∀ r ∈ rows, r.length = sz) (hA : A.toList = rows.flatten) (c : Nat) (hc : rows.length ≤ c) (hm : c ≤ maxLen) :
    RowsAt (newM B b w) sz (.slice (some ⟨n, 0, none⟩) rows.length c) rows :=
  rows_new (rows_of_own h sz rows hs hA c hc hm) (fun k hk => by
    have e : n = k := by simpa [Value.ownBlock] using hk
    subst e
    exact ⟨hB, hb⟩)
theorem rows_of_owns_new {w : World} {base B b : Nat} {e : TypeId} {sz : Nat} {v : Value} {n : Nat} {xs : List Value} (h : w.ownsRow base e sz v n xs) (hB : B ≤ base) (hb : b < base) (rows : List (List Value)) (hn : n = rows.length) (hs : ∀ r ∈ rows, r.length = sz) (hx : xs = rows.flatten) :
    RowsAt (newM B b w) sz v rows :=
  rows_new (rows_of_owns h rows hn hs hx) (fun k hk => by have := (h.lt k hk).1; exact ⟨by omega, by omega⟩)

/-- Memory that was made from block B on, without block b and without the block g that is appended to. -/
def newG (B b : Nat) (g : Option Nat) (w : World) : Mem := fun p => if p.block < B ∨ p.block = b ∨ some p.block = g then none else w.cell? p
theorem newG_none (B b : Nat) (g : Option Nat) (w : World) : Sub (newG B b g w) (newM B b w) := by
  intro p v h
  unfold newG at h
  unfold newM
  split at h
  · cases h
  · rename_i hne
    rw [if_neg (fun e => hne (e.imp id Or.inl))]
    exact h
theorem newM_newG {B B' b : Nat} {g : Option Nat} (hB : B ≤ B') (hg : ∀ k, g = some k → k < B') (w : World) : Sub (newM B' b w) (newG B b g w) := by
  intro p v h
  unfold newM at h
  unfold newG
  split at h
  · cases h
  · rename_i hne
    rw [if_neg]
    · exact h
    · rintro (e | e | e)
      · exact hne (Or.inl (by omega))
      · exact hne (Or.inr e)
      · exact hne (Or.inl (hg _ e.symm))
theorem newG_grown {B b : Nat} {g : Option Nat} {w u : World} (gr : w.grownBy u (some b)) : Sub (newG B b g w) (newG B b g u) := by
  intro p v h
  unfold newG at *
  split at h
  · cases h
  · rename_i hne
    rw [if_neg hne]
    exact gr.cell h (by intro e; injection e with e; exact hne (Or.inr (Or.inl e)))
theorem newG_set {B b : Nat} {g : Option Nat} {w : World} {q : Addr} (hq : q.block < B) (x : Value) : Sub (newG B b g w) (newG B b g (w.setCell q x)) := by
  intro p v h
  unfold newG at *
  split at h
  · cases h
  · rename_i hne
    rw [if_neg hne]
    rw [World.cell?_of_block (Below.heap_setCell w q x p.block (fun e => hne (Or.inl (by omega))))]
    exact h
theorem newG_app {B b gg : Nat} {g : Option Nat} {w u : World} (gr : w.grownBy u g) (hat : g = some gg ∨ gg = w.heap.size) : Sub (newG B b g w) (newG B b (some gg) u) := by
  intro p v h
  unfold newG at *
  split at h
  · cases h
  · rename_i hne
    have hlt := World.block_lt_of_cell? w p h
    rw [if_neg]
    · exact gr.cell h (fun e => hne (Or.inr (Or.inr e)))
    · rintro (e | e | e)
      · exact hne (Or.inl e)
      · exact hne (Or.inr (Or.inl e))
      · injection e with e
        rcases hat with hat | hat
        · exact hne (Or.inr (Or.inr (by rw [hat, e])))
        · omega

theorem LAtSet {B b : Nat} {w : World} {q : Addr} {d : VD} (h : LAt (newM B b w) d) (hq : q.block < B) (x : Value) : LAt (newM B b (w.setCell q x)) d := h.mono (newM_set hq x)
theorem LAtAlloc {B b : Nat} {w : World} {d : VD} (h : LAt (newM B b w) d) (o : Obj) : LAt (newM B b (w.alloc o)) d := h.mono (newM_grown (World.grownBy_alloc w o _))
theorem LAtLow {B B' b : Nat} {w : World} {d : VD} (h : LAt (newM B' b w) d) (hB : B ≤ B') : LAt (newM B b w) d := h.mono (newM_mono hB b w)
theorem LAtDrew {B b : Nat} {w : World} {d : VD} (h : LAt (newM B b w) d) : LAt (newM B b w.drew) d := h

end Go.Proofs.YthnjgbjckggjhaaGreatDoor.draw
