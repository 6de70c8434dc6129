/- Reading values: what is known while a value is read. Reading subjects: what is known while contexts and attributes are read. The program's getValue. -/
import Derived.Test.YtamkmdlfhlbbeaaGreatDoorKJ12
import Derived.Test.YtamkmdlfhlbbeaaGreatDoorKSuK
import Derived.Test.YtamkmdlfhlbbeaaGreatDoorKJ10
import Derived.Test.YtamkmdlfhlbbeaaGreatDoorKSuP
import Derived.Deep.AppendLies
import Derived.Deep.RegionLawGrows
namespace Go.Proofs.YtamkmdlfhlbbeaaGreatDoor.wire
open Go.RowKit Go.Proofs.YtamkmdlfhlbbeaaGreatDoor Go.Proofs.YtamkmdlfhlbbeaaGreatDoor.schema Go.Proofs.YtamkmdlfhlbbeaaGreatDoor.value Go.Proofs.YtamkmdlfhlbbeaaGreatDoor.text Go.Proofs.YtamkmdlfhlbbeaaGreatDoor.clause Go.Proofs.YtamkmdlfhlbbeaaGreatDoor.subj Go.Proofs.YtamkmdlfhlbbeaaGreatDoor.draw

/-- What a reader's state lives by. -/
structure IsRd (g : Nat) (R : World → St → Prop) : Prop where
  lt : ∀ {w : World} {s : St}, R w s → g < w.heap.size
  kept : ∀ {w u : World} {s : St} {r : Option Nat}, R w s → w.grownBy u r → r ≠ some g → R u s
  set : ∀ {w : World} {s : St} {p : Addr}, R w s → g ≠ p.block → ∀ x, R (w.setCell p x) s
  drew : ∀ {w : World} {s : St}, R w s → R w.drew s
theorem isRdP (M : Mem) (g : Nat) : IsRd g (RdP M g) :=
  ⟨fun h => h.lt, fun h hg hr => h.kept hg hr, fun {w s p} h hp x => by
    cases s with
    | none => obtain ⟨a, n, c, e, h1, h2⟩ := h; exact ⟨a, n, c, e, h1.setOther hp x, h2⟩
    | some l => obtain ⟨a, n, c, h1, h2⟩ := h; exact ⟨a, n, c, h1.setOther hp x, h2⟩, fun {w s} h => by cases s <;> exact h⟩
theorem isRdR (M : Mem) (g : Nat) : IsRd g (RdR M g) :=
  ⟨fun h => h.lt, fun h hg hr => h.kept hg hr, fun {w s p} h hp x => by
    cases s with
    | none => obtain ⟨a, n, c, t, e, h1, h2⟩ := h; exact ⟨a, n, c, t, e, h1.setOther hp x, h2⟩
    | some l => obtain ⟨a, n, c, t, B, h1, h2⟩ := h; exact ⟨a, n, c, t, B, h1.setOther hp x, h2⟩, fun {w s} h => by cases s <;> exact h⟩
theorem IsRd.alloc {g : Nat} {R : World → St → Prop} (I : IsRd g R) {w : World} {s : St} (h : R w s) (o : Obj) : R (w.alloc o) s := I.kept h (World.grownBy_alloc w o none) (by simp)

def zeroVal : Array Value := #[.int .i64 0, .int .i64 0, .string ⟨#[]⟩, .slice none 0 0]
/-- While a value is read: the reader's block g, the result's gr, the value's gv. -/
structure GV (R : World → St → Prop) (g gr gv : Nat) (s : St) (A : Array Value) (w u : World) : Prop where
  rd : R u s
  grown : w.grownBy u (some g)
  res : Own u gr zeroVal 51
  val : Own u gv A 51
  gw : g < w.heap.size
  wr : w.heap.size ≤ gr
  rv : gr < gv
theorem GV.call {R : World → St → Prop} {g gr gv : Nat} {s s' : St} {A : Array Value} {w u x : World} (h : GV R g gr gv s A w u) (hG : u.grownBy x (some g)) (hR : R x s') : GV R g gr gv s' A w x := by
  obtain ⟨h1, h2, h3, h4, h5, h6, h7⟩ := h
  exact ⟨hR, g_call h2 hG, h3.kept hG (by simp; omega), h4.kept hG (by simp; omega), h5, h6, h7⟩
theorem GV.drew {R : World → St → Prop} {g gr gv : Nat} {s : St} {A : Array Value} {w u : World} (I : IsRd g R) (h : GV R g gr gv s A w u) : GV R g gr gv s A w u.drew := by
  obtain ⟨h1, h2, h3, h4, h5, h6, h7⟩ := h
  exact ⟨I.drew h1, g_drew h2, h3, h4, h5, h6, h7⟩
theorem GV.alloc {R : World → St → Prop} {g gr gv : Nat} {s : St} {A : Array Value} {w u : World} (I : IsRd g R) (h : GV R g gr gv s A w u) (o : Obj) : GV R g gr gv s A w (u.alloc o) :=
  h.call (World.grownBy_alloc u o _) (I.alloc h.rd o)
theorem GV.set {R : World → St → Prop} {g gr gv : Nat} {s : St} {A : Array Value} {w u : World} (I : IsRd g R) (h : GV R g gr gv s A w u) (i : Nat) (x : Value) : GV R g gr gv s (A.setIfInBounds i x) w (u.setCell ⟨gv, i, none⟩ x) := by
  obtain ⟨h1, h2, h3, h4, h5, h6, h7⟩ := h
  exact ⟨I.set h1 (by simp; omega) x, g_setCell h2 (by simp; omega) _, h3.setOther (by simp; omega) _, h4.set i x, h5, h6, h7⟩
theorem GV.app {R : World → St → Prop} {g gr gv : Nat} {s : St} {A : Array Value} {w u x : World} {ty : TypeId} {sz m : Nat} {v2 : Value} {xs : List Value} (I : IsRd g R) (h : GV R g gr gv s A w u)
    (ho : u.ownsRow (gv + 1) ty sz v2 m xs) (hg : u.grownBy x v2.ownBlock) : GV R g gr gv s A w x := by
  obtain ⟨h1, h2, h3, h4, h5, h6, h7⟩ := h
  exact ⟨I.kept h1 hg (row_far ho (by omega)), g_own h2 hg (fun i e => by have := (ho.lt i e).1; omega), own_past ho h3 hg (by omega), own_past ho h4 hg (by omega), h5, h6, h7⟩
theorem GV.fin {R : World → St → Prop} {g gr gv : Nat} {s : St} {A : Array Value} {w u : World} (I : IsRd g R) (h : GV R g gr gv s A w u) (x0 x1 x2 x3 : Value) :
    R ((((u.setCell ⟨gr, 0, none⟩ x0).setCell ⟨gr, 1, none⟩ x1).setCell ⟨gr, 2, none⟩ x2).setCell ⟨gr, 3, none⟩ x3) s ∧ w.grownBy ((((u.setCell ⟨gr, 0, none⟩ x0).setCell ⟨gr, 1, none⟩ x1).setCell ⟨gr, 2, none⟩ x2).setCell ⟨gr, 3, none⟩ x3) (some g) := by
  obtain ⟨h1, h2, h3, h4, h5, h6, h7⟩ := h
  have hg : ∀ i, g ≠ (⟨gr, i, none⟩ : Addr).block := fun i => by simp; omega
  exact ⟨I.set (I.set (I.set (I.set h1 (hg 0) _) (hg 1) _) (hg 2) _) (hg 3) _, g_setCell (g_setCell (g_setCell (g_setCell h2 (by simp; omega) _) (by simp; omega) _) (by simp; omega) _) (by simp; omega) _⟩
theorem GV.cells {R : World → St → Prop} {g gr gv : Nat} {s : St} {x0 x1 x2 x3 : Value} {w u : World} (h : GV R g gr gv s #[x0, x1, x2, x3] w u) :
    ((u.cell? ⟨gv, 0, none⟩ = some x0 ∧ u.cell? ⟨gv, 1, none⟩ = some x1 ∧ u.cell? ⟨gv, 2, none⟩ = some x2 ∧ u.cell? ⟨gv, 3, none⟩ = some x3) ∧
     (u.frozen? ⟨gv, 0, none⟩ = false ∧ u.frozen? ⟨gv, 1, none⟩ = false ∧ u.frozen? ⟨gv, 2, none⟩ = false ∧ u.frozen? ⟨gv, 3, none⟩ = false)) ∧
    ((u.cell? ⟨gr, 0, none⟩ = some (.int .i64 0) ∧ u.cell? ⟨gr, 1, none⟩ = some (.int .i64 0) ∧ u.cell? ⟨gr, 2, none⟩ = some (.string ⟨#[]⟩) ∧ u.cell? ⟨gr, 3, none⟩ = some (.slice none 0 0)) ∧
     (u.frozen? ⟨gr, 0, none⟩ = false ∧ u.frozen? ⟨gr, 1, none⟩ = false ∧ u.frozen? ⟨gr, 2, none⟩ = false ∧ u.frozen? ⟨gr, 3, none⟩ = false)) ∧ gv < u.heap.size ∧ gr < u.heap.size ∧ ¬ gr = gv ∧ ¬ gv = gr := by
  have h7 := h.rv
  exact ⟨⟨⟨h.val.cell 0, h.val.cell 1, h.val.cell 2, h.val.cell 3⟩, h.val.free 0, h.val.free 1, h.val.free 2, h.val.free 3⟩, ⟨⟨h.res.cell 0, h.res.cell 1, h.res.cell 2, h.res.cell 3⟩, h.res.free 0, h.res.free 1, h.res.free 2, h.res.free 3⟩, h.val.lt, h.res.lt, by omega, by omega⟩

/-- What a value read is. -/
def ValIs (B g : Nat) (x : VD) (e : Ending) (w : World) : Prop :=
  ∃ d : VD, e = .returned (.agg #[.int .i64 d.kind, .int .i64 d.num, .string d.text, .slice d.ptr d.len d.cap]) ∧ SameV d x ∧ LAt (newM B g w) d
theorem rdLen_few {m : Int} (hm : 0 ≤ m) (s : St) : ((rdLen m s).1 : Int) ≤ m := by
  unfold rdLen
  split
  · exact hm
  · split
    · exact hm
    · simp only; omega
theorem rdT_few {m : Int} (hm : 0 ≤ m) (s : St) : ((rdT m s).1.length : Int) ≤ m := by
  have h := rdLen_few hm s
  rw [rdT_tk]
  generalize (rdLen m s).1 = n at h
  cases (rdLen m s).2 with
  | none => exact hm
  | some r =>
    show (((if r.length < n then ([], none) else (r.take n, some (r.drop n))) : List UInt8 × St).1.length : Int) ≤ m
    split
    · exact hm
    · simp only [List.length_take]; omega
theorem rdV_12 {b : Bool} {s : St} (h : (rdN s).1 = 1 ∨ (rdN s).1 = 2) : rdV b s = (⟨(rdN s).1, (rdN (rdN s).2).1, ⟨#[]⟩, none, 0, 0, []⟩, (rdN (rdN s).2).2) := by
  unfold rdV; rw [if_pos h]
theorem rdV_5 {b : Bool} {s : St} (h : (rdN s).1 = 5) : rdV b s = (⟨5, 0, ⟨#[]⟩, none, 0, 0, (rep (rdT 200) (rdLen 20 (rdN s).2).1 (rdLen 20 (rdN s).2).2).1.map fun t => ⟨t.toArray⟩⟩, (rep (rdT 200) (rdLen 20 (rdN s).2).1 (rdLen 20 (rdN s).2).2).2) := by
  unfold rdV; rw [if_neg (by omega), if_pos h]
theorem rdV_34 {b : Bool} {s : St} (h : ¬ ((rdN s).1 = 1 ∨ (rdN s).1 = 2)) (h5 : ¬ (rdN s).1 = 5) (h3 : (rdN s).1 = 3 ∨ (rdN s).1 = 4 ∨ b = false) : rdV b s = (⟨(rdN s).1, 0, ⟨(rdT 200 (rdN s).2).1.toArray⟩, none, 0, 0, []⟩, (rdT 200 (rdN s).2).2) := by
  unfold rdV; rw [if_neg h, if_neg h5, if_pos h3]
theorem rdV_bad {s : St} (h : ¬ ((rdN s).1 = 1 ∨ (rdN s).1 = 2)) (h5 : ¬ (rdN s).1 = 5) (h3 : ¬ ((rdN s).1 = 3 ∨ (rdN s).1 = 4)) : rdV true s = (⟨(rdN s).1, 0, ⟨#[]⟩, none, 0, 0, []⟩, none) := by
  unfold rdV; rw [if_neg h, if_neg h5, if_neg (by simp; omega)]

def sv (t : List UInt8) : Value := .string ⟨t.toArray⟩
/-- The loop that reads the texts of a list. -/
def RelT (R : World → St → Prop) (g gr gv n : Nat) (s0 : St) (j : Nat) (w u : World) : Prop :=
  ∃ (va : Option Addr) (vc : Nat) (acc : List (List UInt8)) (s : St), RepAt (rdT 200) n s0 j acc s ∧ (∀ t ∈ acc, t.length ≤ 200) ∧ GV R g gr gv s #[.int .i64 5, .int .i64 0, .string ⟨#[]⟩, .slice va j vc] w u ∧ u.ownsRow (gv + 1) 9 1 (.slice va j vc) j (acc.map sv)
theorem relT_next {R : World → St → Prop} {g gr gv n : Nat} {s0 s : St} {j : Nat} {w u x : World} {va : Option Addr} {vc gg cap : Nat} {acc : List (List UInt8)} {o : Obj} (I : IsRd g R) (hj : j < n) (h1 : RepAt (rdT 200) n s0 j acc s) (h2 : ∀ t ∈ acc, t.length ≤ 200)
    (h3 : GV R g gr gv (rdT 200 s).2 #[.int .i64 5, .int .i64 0, .string ⟨#[]⟩, .slice va j vc] w u) (h4 : u.ownsRow (gv + 1) 9 1 (.slice va j vc) j (acc.map sv)) (hg : (u.alloc o).grownBy x (Value.slice va j vc).ownBlock)
    (h5 : x.ownsRow (gv + 1) 9 1 (.slice (some ⟨gg, 0, none⟩) (j + 1) cap) (j + 1) (acc.map sv ++ [sv (rdT 200 s).1])) :
    RelT R g gr gv n s0 (j + 1) w (x.setCell ⟨gv, 3, none⟩ (.slice (some ⟨gg, 0, none⟩) (j + 1) cap)) := by
  refine ⟨_, _, acc ++ [(rdT 200 s).1], _, h1.next hj, fun t ht => ?_, ((h3.alloc I o).app I (h4.alloc o) hg).set I 3 _, ?_⟩
  · rcases List.mem_append.1 ht with ht | ht
    · exact h2 t ht
    · obtain rfl := List.mem_singleton.1 ht
      have := rdT_few (m := 200) (by decide) s
      omega
  · rw [List.map_append]
    exact ownsRow_setCell_below h5 (by simp) _
/-- The texts read, as a value. -/
theorem list_fin {u : World} {gr gv B g : Nat} {va : Option Addr} {n vc : Nat} {acc : List (List UInt8)} (h : u.ownsRow (gv + 1) 9 1 (.slice va n vc) n (acc.map sv)) (hn : acc.length = n) (_hf : ∀ t ∈ acc, t.length ≤ 200) (h20 : n ≤ 20) (hgr : gr < gv) (hgB : B ≤ gr) (hg : g < B) (x0 x1 x2 x3 : Value) :
    LAt (newM B g ((((u.setCell ⟨gr, 0, none⟩ x0).setCell ⟨gr, 1, none⟩ x1).setCell ⟨gr, 2, none⟩ x2).setCell ⟨gr, 3, none⟩ x3)) ⟨5, 0, ⟨#[]⟩, va, n, vc, acc.map fun t => ⟨t.toArray⟩⟩ := by
  have h1 := rows_of_owns_new (B := gv + 1) (b := g) h (Nat.le_refl _) (by omega) ((acc.map fun t => (⟨t.toArray⟩ : ByteArray)).map strRow) (by simp [hn]) (by intro r hr; obtain ⟨d, -, rfl⟩ := List.mem_map.1 hr; rfl) (by rw [strRow_flat, List.map_map]; rfl)
  refine ⟨?_, (show (0 : Nat) < 4294967281 by decide), by simp only [List.length_map]; omega⟩
  refine RowsAt.mono ?_ h1
  exact Sub.trans (Sub.trans (Sub.trans (Sub.trans (newM_set (B := gv + 1) (by simp; omega) _) (newM_set (by simp; omega) _)) (newM_set (by simp; omega) _)) (newM_set (by simp; omega) _)) (newM_mono (by omega) g _)

end Go.Proofs.YtamkmdlfhlbbeaaGreatDoor.wire

namespace Go.Proofs.YtamkmdlfhlbbeaaGreatDoor.wire
open Go.RowKit Go.Proofs.YtamkmdlfhlbbeaaGreatDoor Go.Proofs.YtamkmdlfhlbbeaaGreatDoor.schema Go.Proofs.YtamkmdlfhlbbeaaGreatDoor.value Go.Proofs.YtamkmdlfhlbbeaaGreatDoor.text Go.Proofs.YtamkmdlfhlbbeaaGreatDoor.clause Go.Proofs.YtamkmdlfhlbbeaaGreatDoor.subj Go.Proofs.YtamkmdlfhlbbeaaGreatDoor.draw

theorem own3cc {w : World} {n : Nat} {x0 x1 x2 : Value} {t : TypeId} (h : Own w n #[x0, x1, x2] t) : w.cell? ⟨n, 0, none⟩ = some x0 ∧ w.cell? ⟨n, 1, none⟩ = some x1 ∧ w.cell? ⟨n, 2, none⟩ = some x2 := ⟨h.cell 0, h.cell 1, h.cell 2⟩
theorem alike_snoc {α : Type} {R : α → α → Prop} {l' l : List α} {d p : α} (h : subj.Alike R l' l) (hd : R d p) : subj.Alike R (l' ++ [d]) (l ++ [p]) := by
  refine ⟨by simp [h.1], fun i h1 h2 => ?_⟩
  rw [List.length_append, List.length_singleton] at h1 h2
  have hl := h.1
  rcases Nat.lt_or_ge i l.length with hi | hi
  · rw [List.getElem_append_left (by omega), List.getElem_append_left hi]
    exact h.2 i (by omega) hi
  · obtain rfl : i = l.length := by omega
    rw [List.getElem_append_right (by omega), List.getElem_append_right (by omega)]
    simpa [hl] using hd
theorem alike_nil {α : Type} (R : α → α → Prop) : subj.Alike R [] [] := ⟨rfl, fun i h => absurd h (by simp)⟩
theorem aat_low {B B' g : Nat} {w : World} {d : VD} (h : LAt (newM B' g w) d) (hB : B ≤ B') {ob : Option Nat} (hob : ∀ k, ob = some k → k < B') : LAt (newG B g ob w) d := h.mono (newM_newG hB hob w)

/-- While attributes are read: the reader's block g, the context's gc; wb is the world ahead of the context. -/
structure DI (R : World → St → Prop) (g gc : Nat) (s : St) (kind key : ByteArray) (v : Value) (wb u : World) : Prop where
  rd : R u s
  grown : wb.grownBy u (some g)
  own : Own u gc #[.string kind, .string key, v] 37
  gw : g < wb.heap.size
  wc : wb.heap.size ≤ gc
section
variable {R : World → St → Prop} {g gc gr gs : Nat} {s s' : St} {kind key : ByteArray} {v : Value} {wb w u x : World}
theorem DI.call (h : DI R g gc s kind key v wb u) (hG : u.grownBy x (some g)) (hR : R x s') : DI R g gc s' kind key v wb x := by
  obtain ⟨h1, h2, h3, h4, h5⟩ := h
  exact ⟨hR, g_call h2 hG, h3.kept hG (by simp; omega), h4, h5⟩
theorem DI.drew (I : IsRd g R) (h : DI R g gc s kind key v wb u) : DI R g gc s kind key v wb u.drew := by
  obtain ⟨h1, h2, h3, h4, h5⟩ := h
  exact ⟨I.drew h1, g_drew h2, h3, h4, h5⟩
theorem DI.alloc (I : IsRd g R) (h : DI R g gc s kind key v wb u) (o : Obj) : DI R g gc s kind key v wb (u.alloc o) := h.call (World.grownBy_alloc u o _) (I.alloc h.rd o)
theorem DI.setV (I : IsRd g R) (h : DI R g gc s kind key v wb u) (v' : Value) : DI R g gc s kind key v' wb (u.setCell ⟨gc, 2, none⟩ v') := by
  obtain ⟨h1, h2, h3, h4, h5⟩ := h
  exact ⟨I.set h1 (by simp; omega) _, g_setCell h2 (by simp; omega) _, h3.set 2 _, h4, h5⟩
theorem DI.app (I : IsRd g R) {ty : TypeId} {sz m : Nat} {v2 : Value} {xs : List Value} (h : DI R g gc s kind key v wb u) (ho : u.ownsRow (gc + 1) ty sz v2 m xs) (hg : u.grownBy x v2.ownBlock) : DI R g gc s kind key v wb x := by
  obtain ⟨h1, h2, h3, h4, h5⟩ := h
  exact ⟨I.kept h1 hg (row_far ho (by omega)), g_own h2 hg (fun i e => by have := (ho.lt i e).1; omega), own_past ho h3 hg (by omega), h4, h5⟩

/-- The loop that reads attributes. -/
def RelI (R : World → St → Prop) (bb : Bool) (g gc n : Nat) (s0 : St) (kind key : ByteArray) (wb : World) (j : Nat) (u : World) : Prop :=
  ∃ (va : Option Addr) (vc : Nat) (acc plain : List AD) (s : St), RepAt (rdA bb) n s0 j plain s ∧ subj.Alike SameA acc plain ∧ (∀ a ∈ acc, a.name.size ≤ 32) ∧ (∀ a ∈ acc, AAt (newG (gc + 1) g (Value.slice va j vc).ownBlock u) a) ∧
    DI R g gc s kind key (.slice va j vc) wb u ∧ u.ownsRow (gc + 1) 79 5 (.slice va j vc) j (acc.map AD.row).flatten
theorem relI_next {bb : Bool} {n : Nat} {s0 : St} {j : Nat} {va : Option Addr} {vc gg cap B : Nat} {acc plain : List AD} {o : Obj} {dv : VD} (I : IsRd g R) (hj : j < n) (hA : RepAt (rdA bb) n s0 j plain s) (hAl : subj.Alike SameA acc plain) (hNm : ∀ a ∈ acc, a.name.size ≤ 32)
    (hLs : ∀ a ∈ acc, AAt (newG (gc + 1) g (Value.slice va j vc).ownBlock u) a) (hI : DI R g gc (rdV bb (rdT 32 s).2).2 kind key (.slice va j vc) wb u) (hown : u.ownsRow (gc + 1) 79 5 (.slice va j vc) j (acc.map AD.row).flatten)
    (hsv : SameV dv (rdV bb (rdT 32 s).2).1) (hLd : LAt (newM B g u) dv) (hB : gc + 1 ≤ B) (hob : ∀ k, (Value.slice va j vc).ownBlock = some k → k < B) (hg : (u.alloc o).grownBy x (Value.slice va j vc).ownBlock) (hat : (Value.slice va j vc).ownBlock = some gg ∨ gg = u.heap.size + 1)
    (h6 : x.ownsRow (gc + 1) 79 5 (.slice (some ⟨gg, 0, none⟩) (j + 1) cap) (j + 1) ((acc.map AD.row).flatten ++ .string ⟨(rdT 32 s).1.toArray⟩ :: dv.row)) :
    RelI R bb g gc n s0 kind key wb (j + 1) (x.setCell ⟨gc, 2, none⟩ (.slice (some ⟨gg, 0, none⟩) (j + 1) cap)) := by
  have mX : Sub (newG (gc + 1) g (Value.slice va j vc).ownBlock u) (newG (gc + 1) g (some gg) (x.setCell ⟨gc, 2, none⟩ (.slice (some ⟨gg, 0, none⟩) (j + 1) cap))) :=
    ((newG_grown (World.grownBy_alloc u o _)).trans (newG_app hg (hat.imp id (fun e => by rw [e]; simp)))).trans (newG_set (by simp) _)
  refine ⟨some ⟨gg, 0, none⟩, cap, acc ++ [⟨⟨(rdT 32 s).1.toArray⟩, dv⟩], _, _, hA.next hj, alike_snoc hAl ⟨rfl, hsv⟩, fun a ha => ?_, fun a ha => ?_, ((hI.alloc I o).app I (hown.alloc o) hg).setV I _, ?_⟩
  · rcases List.mem_append.1 ha with ha | ha
    · exact hNm a ha
    · obtain rfl := List.mem_singleton.1 ha
      have := rdT_few (m := 32) (by decide) s
      show (rdT 32 s).1.toArray.size ≤ 32
      simp
      omega
  · rcases List.mem_append.1 ha with ha | ha
    · exact (hLs a ha).mono mX
    · obtain rfl := List.mem_singleton.1 ha
      exact LAt.mono mX (aat_low hLd hB hob)
  · have e1 : ((acc ++ [(⟨⟨(rdT 32 s).1.toArray⟩, dv⟩ : AD)]).map AD.row).flatten = (acc.map AD.row).flatten ++ .string ⟨(rdT 32 s).1.toArray⟩ :: dv.row := by simp [AD.row]
    rw [e1]
    exact ownsRow_setCell_below h6 (by simp) _
/-- The attributes read, as a context's. -/
theorem relI_done {bb : Bool} {n : Nat} {t : St} (hn : (rdLen 20 t).1 = n) (h : RelI R bb g gc n (rdLen 20 t).2 kind key wb n u) (hk : key.size ≤ 200) :
    ∃ (va : Option Addr) (vc : Nat) (acc : List AD), subj.Alike SameA acc (rdAs bb t).1 ∧ (∀ a ∈ acc, a.name.size ≤ 32) ∧ CAt (newM (gc + 1) g u) ⟨kind, key, va, n, vc, acc⟩ ∧ DI R g gc (rdAs bb t).2 kind key (.slice va n vc) wb u := by
  obtain ⟨va, vc, acc, plain, s, h1, h2, h3, h4, h5, h6⟩ := h
  have e := h1.done
  have e2 : rdAs bb t = (plain, s) := by unfold rdAs; rw [hn]; exact e
  have hl : acc.length = n := h2.1.trans h1.len
  have hgw := h5.gw
  have hwc := h5.wc
  refine ⟨va, vc, acc, by rw [e2]; exact h2, h3, ⟨?_, fun a ha => (h4 a ha).mono (newG_none _ _ _ _), by simp only; omega⟩, by rw [e2]; exact h5⟩
  exact rows_of_owns_new (B := gc + 1) (b := g) h6 (Nat.le_refl _) (by omega) (acc.map AD.row) (by simp [hl]) (rows5a acc) rfl

/-- While contexts are read: the reader's block g, the result's gr, the subject's gs; w is the world with the reader new. -/
structure DO (R : World → St → Prop) (g gr gs : Nat) (s : St) (v : Value) (w u : World) : Prop where
  rd : R u s
  grown : w.grownBy u (some g)
  res : Own u gr #[.slice none 0 0] 24
  sub : Own u gs #[v] 24
  rg : gr < g
  gw : g < w.heap.size
  ws : w.heap.size ≤ gs
theorem DO.call (h : DO R g gr gs s v w u) (hG : u.grownBy x (some g)) (hR : R x s') : DO R g gr gs s' v w x := by
  obtain ⟨h1, h2, h3, h4, h5, h6, h7⟩ := h
  exact ⟨hR, g_call h2 hG, h3.kept hG (by simp; omega), h4.kept hG (by simp; omega), h5, h6, h7⟩
theorem DO.alloc (I : IsRd g R) (h : DO R g gr gs s v w u) (o : Obj) : DO R g gr gs s v w (u.alloc o) := h.call (World.grownBy_alloc u o _) (I.alloc h.rd o)
theorem DO.drew (I : IsRd g R) (h : DO R g gr gs s v w u) : DO R g gr gs s v w u.drew := h.call (grown_drew u _) (I.drew h.rd)
theorem DO.setV (I : IsRd g R) (h : DO R g gr gs s v w u) (v' : Value) : DO R g gr gs s v' w (u.setCell ⟨gs, 0, none⟩ v') := by
  obtain ⟨h1, h2, h3, h4, h5, h6, h7⟩ := h
  exact ⟨I.set h1 (by simp; omega) _, g_setCell h2 (by simp; omega) _, h3.setOther (by simp; omega) _, h4.set 0 _, h5, h6, h7⟩
theorem DO.app (I : IsRd g R) {ty : TypeId} {sz m : Nat} {v2 : Value} {xs : List Value} (h : DO R g gr gs s v w u) (ho : u.ownsRow (gs + 1) ty sz v2 m xs) (hg : u.grownBy x v2.ownBlock) : DO R g gr gs s v w x := by
  obtain ⟨h1, h2, h3, h4, h5, h6, h7⟩ := h
  exact ⟨I.kept h1 hg (row_far ho (by omega)), g_own h2 hg (fun i e => by have := (ho.lt i e).1; omega), own_past ho h3 hg (by omega), own_past ho h4 hg (by omega), h5, h6, h7⟩

def Nm32 (l : List CT) : Prop := ∀ c ∈ l, c.kind.size ≤ 32 ∧ ∀ a ∈ c.attrs, a.name.size ≤ 32
theorem Nm32.nm {l : List CT} (h : Nm32 l) : Nm l := fun c hc => ⟨by have := (h c hc).1; omega, fun a ha => by have := (h c hc).2 a ha; omega⟩
/-- The loop that reads contexts. -/
def RelO (R : World → St → Prop) (bb : Bool) (g gr gs n : Nat) (s0 : St) (w : World) (i : Nat) (u : World) : Prop :=
  ∃ (va : Option Addr) (vc : Nat) (acc plain : List CT) (s : St), RepAt (rdC bb) n s0 i plain s ∧ subj.Alike SameC acc plain ∧ Nm32 acc ∧ (∀ c ∈ acc, CAt (newG (gs + 1) g (Value.slice va i vc).ownBlock u) c) ∧
    DO R g gr gs s (.slice va i vc) w u ∧ u.ownsRow (gs + 1) 37 3 (.slice va i vc) i (acc.map CT.row).flatten
theorem relO_next {bb : Bool} {n : Nat} {s0 : St} {i : Nat} {va va2 : Option Addr} {vc gg cap m vc2 : Nat} {acc plain : List CT} {acc2 : List AD} {o : Obj} (I : IsRd g R) (hi : i < n) (hA : RepAt (rdC bb) n s0 i plain s) (hAl : subj.Alike SameC acc plain) (hNm : Nm32 acc)
    (hLs : ∀ c ∈ acc, CAt (newG (gs + 1) g (Value.slice va i vc).ownBlock u) c) (hO : DO R g gr gs (rdC bb s).2 (.slice va i vc) w u) (hown : u.ownsRow (gs + 1) 37 3 (.slice va i vc) i (acc.map CT.row).flatten)
    (hkind : kind = ⟨(rdT 32 s).1.toArray⟩) (hkey : key = ⟨(rdT 200 (rdT 32 s).2).1.toArray⟩) (h2 : subj.Alike SameA acc2 (rdAs bb (rdT 200 (rdT 32 s).2).2).1) (h3 : ∀ a ∈ acc2, a.name.size ≤ 32)
    (hC : CAt (newM (gc + 1) g u) ⟨kind, key, va2, m, vc2, acc2⟩) (hB : gs ≤ gc) (hob : ∀ k, (Value.slice va i vc).ownBlock = some k → k < gc + 1) (hg : (u.alloc o).grownBy x (Value.slice va i vc).ownBlock) (hat : (Value.slice va i vc).ownBlock = some gg ∨ gg = u.heap.size + 1)
    (h6 : x.ownsRow (gs + 1) 37 3 (.slice (some ⟨gg, 0, none⟩) (i + 1) cap) (i + 1) ((acc.map CT.row).flatten ++ [.string kind, .string key, .slice va2 m vc2])) :
    RelO R bb g gr gs n s0 w (i + 1) (x.setCell ⟨gs, 0, none⟩ (.slice (some ⟨gg, 0, none⟩) (i + 1) cap)) := by
  have mX : Sub (newG (gs + 1) g (Value.slice va i vc).ownBlock u) (newG (gs + 1) g (some gg) (x.setCell ⟨gs, 0, none⟩ (.slice (some ⟨gg, 0, none⟩) (i + 1) cap))) :=
    ((newG_grown (World.grownBy_alloc u o _)).trans (newG_app hg (hat.imp id (fun e => by rw [e]; simp)))).trans (newG_set (by simp) _)
  refine ⟨some ⟨gg, 0, none⟩, cap, acc ++ [⟨kind, key, va2, m, vc2, acc2⟩], _, _, hA.next hi, alike_snoc hAl ⟨hkind, hkey, h2⟩, fun c hc => ?_, fun c hc => ?_, ((hO.alloc I o).app I (hown.alloc o) hg).setV I _, ?_⟩
  · rcases List.mem_append.1 hc with hc | hc
    · exact hNm c hc
    · obtain rfl := List.mem_singleton.1 hc
      have := rdT_few (m := 32) (by decide) s
      refine ⟨?_, h3⟩
      simp only
      rw [hkind]
      show (rdT 32 s).1.toArray.size ≤ 32
      simp
      omega
  · rcases List.mem_append.1 hc with hc | hc
    · exact (hLs c hc).mono mX
    · obtain rfl := List.mem_singleton.1 hc
      exact (hC.mono (newM_newG (by omega) hob u)).mono mX
  · have e1 : ((acc ++ [(⟨kind, key, va2, m, vc2, acc2⟩ : CT)]).map CT.row).flatten = (acc.map CT.row).flatten ++ [.string kind, .string key, .slice va2 m vc2] := by simp [CT.row]
    rw [e1]
    exact ownsRow_setCell_below h6 (by simp) _
/-- The contexts read, as a subject's. -/
theorem relO_done {bb : Bool} {n : Nat} {l : List UInt8} (hn : (rdLen 4 (some l)).1 = n) (h : RelO R bb g gr gs n (rdLen 4 (some l)).2 w n u) :
    ∃ (va : Option Addr) (vc : Nat) (acc : List CT), subj.Alike SameC acc (rdS bb l).1 ∧ Nm32 acc ∧ DO R g gr gs (rdS bb l).2 (.slice va n vc) w u ∧ SAt (newM (gs + 1) g u) (.slice va n vc) acc := by
  obtain ⟨va, vc, acc, plain, s, h1, h2, h3, h4, h5, h6⟩ := h
  have e := h1.done
  have e2 : rdS bb l = (plain, s) := by unfold rdS; rw [hn]; exact e
  have hl : acc.length = n := h2.1.trans h1.len
  have hgw := h5.gw
  have hws := h5.ws
  refine ⟨va, vc, acc, by rw [e2]; exact h2, h3, by rw [e2]; exact h5, ?_, fun c hc => (h4 c hc).mono (newG_none _ _ _ _)⟩
  exact rows_of_owns_new (B := gs + 1) (b := g) h6 (Nat.le_refl _) (by omega) (acc.map CT.row) (by simp [hl]) (rows3c acc) rfl
/-- What Decode gives. -/
def DecIs (l : List UInt8) (e : Ending) (w : World) : Prop :=
  ∃ (a : Option Addr) (n c : Nat) (l' : List CT), e = .returned (.tuple #[.agg #[.slice a n c], .int .i64 (decS true l).2]) ∧ subj.Alike SameC l' (decS true l).1 ∧ SAt w.cell? (.slice a n c) l'
theorem dec_good {bb : Bool} {l : List UInt8} (h : (rdS bb l).2 = some []) (h2 : subS (rdS bb l).1 = 0) : decS bb l = ((rdS bb l).1, 0) := if_pos ⟨h, h2⟩
theorem dec_bad {bb : Bool} {l : List UInt8} (h : ¬ ((rdS bb l).2 = some [] ∧ subS (rdS bb l).1 = 0)) : decS bb l = ([], 1) := if_neg h
theorem dec_any (bb : Bool) (l : List UInt8) : decS true l = decS bb l := by
  cases bb with
  | true => rfl
  | false => exact dec_same l
theorem decIs_good {bb : Bool} {l : List UInt8} {w : World} {a : Option Addr} {n c : Nat} {l' : List CT} (h : (rdS bb l).2 = some []) (h2 : subS (rdS bb l).1 = 0) (hA : subj.Alike SameC l' (rdS bb l).1) (hS : SAt w.cell? (.slice a n c) l') : DecIs l (.returned (.tuple #[.agg #[.slice a n c], .int .i64 0])) w := by
  refine ⟨a, n, c, l', ?_, ?_, hS⟩ <;> rw [dec_any bb, dec_good h h2]
  exact hA
theorem decIs_bad {bb : Bool} {l : List UInt8} {w : World} (h : ¬ ((rdS bb l).2 = some [] ∧ subS (rdS bb l).1 = 0)) : DecIs l (.returned (.tuple #[.agg #[.slice none 0 0], .int .i64 1])) w := by
  refine ⟨none, 0, 0, [], ?_, ?_, ⟨rows_nil _ _, fun c hc => by cases hc⟩⟩ <;> rw [dec_any bb, dec_bad h]
  exact alike_nil _
end

end Go.Proofs.YtamkmdlfhlbbeaaGreatDoor.wire

namespace Go.Proofs.YtamkmdlfhlbbeaaGreatDoor.wire
open Go.RowKit Go.Proofs.YtamkmdlfhlbbeaaGreatDoor Go.Proofs.YtamkmdlfhlbbeaaGreatDoor.schema Go.Proofs.YtamkmdlfhlbbeaaGreatDoor.value Go.Proofs.YtamkmdlfhlbbeaaGreatDoor.text Go.Proofs.YtamkmdlfhlbbeaaGreatDoor.clause Go.Proofs.YtamkmdlfhlbbeaaGreatDoor.subj Go.Proofs.YtamkmdlfhlbbeaaGreatDoor.draw

attribute [local go_sem ↓] Go.wp_at_zero Go.wp_at_succ

set_option maxRecDepth 100000 in
set_option maxHeartbeats 16000000 in
theorem getV_any (M : Mem) (g : Nat) (w : World) (s : St) (hM : Sub M (but g w)) (h : RdP M g w s) :
    Calls Tryz.prog 61 #[.pointer (some ⟨g, 0, none⟩)] w fun e w' => ValIs w.heap.size g (rdV true s).1 e w' ∧ RdP M g w' (rdV true s).2 ∧ w.grownBy w' (some g) := by
  have I := isRdP M g
  have hgl := h.lt
  have hR0 := I.alloc h (.cells zeroVal 51)
  have hG0 := g_alloc (grown_refl w (some g)) (.cells zeroVal 51)
  have hN := Lib.hid (number_any M g _ s (hM.trans (sub_of_grown hG0)) hR0)
  have hZ0 := Own.new w zeroVal 51
  replace hG0 := Lib.hid hG0
  replace hZ0 := Lib.hid hZ0
  clear h hR0
  unfold zeroVal at hN hG0 hZ0
  go_enter Tryz.func61, Tryz.ntmps61
  go_wp2_with fail
  refine hN.out.mono ?_
  clear hN
  rintro e w1 ⟨rfl, hR1, hG1⟩
  obtain ⟨k, hk⟩ : ∃ k, (rdN s).1 = k := ⟨_, rfl⟩
  obtain ⟨s1, hs1⟩ : ∃ t, (rdN s).2 = t := ⟨_, rfl⟩
  rw [hs1] at hR1
  have hV : GV (RdP M g) g w.heap.size w1.heap.size s1 #[.int .i64 k, .int .i64 0, .string ⟨#[]⟩, .slice none 0 0] w (w1.alloc (.cells #[.int .i64 k, .int .i64 0, .string ⟨#[]⟩, .slice none 0 0] 51)) :=
    ⟨I.alloc hR1 _, g_alloc (g_call hG0.out hG1) _, (hZ0.out.kept hG1 (by simp; omega)).alloc _, Own.new w1 _ _, hgl, Nat.le_refl _, by have := hG1.size; simp at this; omega⟩
  replace hV := Lib.hid hV
  replace I := Lib.hid I
  replace hM := Lib.hid hM
  have hlow : Hid (w.heap.size < w1.heap.size) := Lib.hid (by have := hG1.size; simp at this; omega)
  clear hR1 hG1 hG0 hZ0
  rw [hk]
  by_cases h12 : k = 1 ∨ k = 2
  · have hE := Lib.hid (rdV_12 (b := true) (s := s) (by rw [hk]; exact h12))
    rw [hk, hs1] at hE
    replace hk := Lib.hid hk
    rcases h12 with rfl | rfl
    · go_wp2_with fail
      obtain ⟨gv, hgv⟩ : ∃ v, v = w1.heap.size := ⟨_, rfl⟩
      rw [← hgv] at hV hlow ⊢
      generalize World.alloc w1 _ = w2 at hV ⊢
      clear hgv
      refine (number_any M g w2 s1 (hM.out.trans (sub_of_grown hV.out.grown)) hV.out.rd).mono ?_
      rintro e w3 ⟨rfl, hR3, hG3⟩
      have hV3 := Lib.hid (hV.out.call hG3 hR3)
      obtain ⟨x, hx⟩ : ∃ x, Hid ((rdN s1).1 = x) := ⟨_, Lib.hid rfl⟩
      rw [hx.out]
      rw [hx.out] at hE
      obtain ⟨⟨⟨y0, y1, y2, y3⟩, f0, f1, f2, f3⟩, ⟨⟨z0, z1, z2, z3⟩, g0, g1, g2, g3⟩, hvl, hrl, hrv, hvr⟩ := hV3.out.cells
      have hwr := hV3.out.wr
      have hS := Lib.hid ((hV3.out.set I.out 1 (.int .i64 x)).fin I.out)
      clear hR3 hG3 hV
      go_wp2
      refine bodyPost_ret (v := .agg #[.int .i64 1, .int .i64 x, .string ⟨#[]⟩, .slice none 0 0]) (by simp [results, Tryz.results61, go_sem, z0, z1, z2, z3]) rfl ?_
      refine ⟨⟨⟨_, x, ⟨#[]⟩, none, 0, 0, []⟩, rfl, by rw [hE.out]; exact ⟨rfl, rfl, rfl, rfl⟩, LAt.flat _ _ _ _ (by decide)⟩, ?_⟩
      rw [hE.out]
      exact hS.out _ _ _ _
    · go_wp2_with fail
      obtain ⟨gv, hgv⟩ : ∃ v, v = w1.heap.size := ⟨_, rfl⟩
      rw [← hgv] at hV hlow ⊢
      generalize World.alloc w1 _ = w2 at hV ⊢
      clear hgv
      refine (number_any M g w2 s1 (hM.out.trans (sub_of_grown hV.out.grown)) hV.out.rd).mono ?_
      rintro e w3 ⟨rfl, hR3, hG3⟩
      have hV3 := Lib.hid (hV.out.call hG3 hR3)
      obtain ⟨x, hx⟩ : ∃ x, Hid ((rdN s1).1 = x) := ⟨_, Lib.hid rfl⟩
      rw [hx.out]
      rw [hx.out] at hE
      obtain ⟨⟨⟨y0, y1, y2, y3⟩, f0, f1, f2, f3⟩, ⟨⟨z0, z1, z2, z3⟩, g0, g1, g2, g3⟩, hvl, hrl, hrv, hvr⟩ := hV3.out.cells
      have hwr := hV3.out.wr
      have hS := Lib.hid ((hV3.out.set I.out 1 (.int .i64 x)).fin I.out)
      clear hR3 hG3 hV
      go_wp2
      refine bodyPost_ret (v := .agg #[.int .i64 2, .int .i64 x, .string ⟨#[]⟩, .slice none 0 0]) (by simp [results, Tryz.results61, go_sem, z0, z1, z2, z3]) rfl ?_
      refine ⟨⟨⟨_, x, ⟨#[]⟩, none, 0, 0, []⟩, rfl, by rw [hE.out]; exact ⟨rfl, rfl, rfl, rfl⟩, LAt.flat _ _ _ _ (by decide)⟩, ?_⟩
      rw [hE.out]
      exact hS.out _ _ _ _
  by_cases h5 : k = 5
  · subst h5
    have hE := Lib.hid (rdV_5 (b := true) (s := s) hk)
    rw [hs1] at hE
    replace hk := Lib.hid hk
    obtain ⟨i0, hi, hz0, hz1, hz2⟩ := info_parts info9s
    go_wp2_with fail
    obtain ⟨gv, hgv⟩ : ∃ v, v = w1.heap.size := ⟨_, rfl⟩
    rw [← hgv] at hV hlow ⊢
    generalize World.alloc w1 _ = w2 at hV ⊢
    clear hgv
    refine (count_any M g w2 s1 (hM.out.trans (sub_of_grown hV.out.grown)) 20 (by decide) hV.out.rd).mono ?_
    rintro e w3 ⟨rfl, hR3, hG3⟩
    have hV3 := Lib.hid (hV.out.call hG3 hR3)
    have hn20 := rdLen_few (m := 20) (by decide) s1
    obtain ⟨n, hn⟩ : ∃ n, (rdLen 20 s1).1 = n := ⟨_, rfl⟩
    obtain ⟨s2, hs2⟩ : ∃ t, (rdLen 20 s1).2 = t := ⟨_, rfl⟩
    rw [hn] at hn20 ⊢
    rw [hs2] at hV3
    rw [hn, hs2] at hE
    have hst := Lib.hid (show RelT (RdP M g) g w.heap.size gv n s2 0 w w3 from ⟨none, 0, [], s2, RepAt.start _ _ _, (fun t ht => by cases ht), hV3.out, World.ownsRow_nil w3 (gv + 1) _ _⟩)
    clear hR3 hG3 hV hV3 hn hs2
    go_wp2_with fail
    go_loopw [4] (fun s4 wr => ∃ j : Nat, j ≤ n ∧ s4 = .int .i64 ((n : Int) - (j : Int)) ∧ Hid (RelT (RdP M g) g w.heap.size gv n s2 j w wr)) (fun s4 _ => (intOf s4).toNat)
    case atStart => exact ⟨0, by omega, by simp, hst⟩
    case round =>
      clear hst
      obtain ⟨j, hj, rfl, hR⟩ := hrel
      obtain ⟨va, vc, acc, sj, hA, hF, hV, hown⟩ := hR.out
      clear hR
      replace hV := Lib.hid hV
      by_cases hlt : j < n
      case neg =>
        obtain rfl : j = n := by omega
        have hrep := hA.done
        rw [hrep] at hE
        have hlen := hA.len
        obtain ⟨⟨⟨y0, y1, y2, y3⟩, f0, f1, f2, f3⟩, ⟨⟨z0, z1, z2, z3⟩, g0, g1, g2, g3⟩, hvl, hrl, hrv, hvr⟩ := hV.out.cells
        have hwr := hV.out.wr
        have hgw := hV.out.gw
        have hS := Lib.hid (hV.out.fin I.out)
        have hL := Lib.hid (list_fin (B := w.heap.size) (g := g) hown hlen hF (by omega) hV.out.rv (Nat.le_refl _) hgw)
        replace hA := Lib.hid hA
        replace hF := Lib.hid hF
        replace hown := Lib.hid hown
        replace hlen := Lib.hid hlen
        have c0 : ¬ (0 : Int) < (j : Int) - (j : Int) := by omega
        go_wp2
        refine bodyPost_ret (v := .agg #[.int .i64 5, .int .i64 0, .string ⟨#[]⟩, .slice va j vc]) (by simp [results, Tryz.results61, go_sem, z0, z1, z2, z3]) rfl ?_
        refine ⟨⟨⟨5, 0, ⟨#[]⟩, va, j, vc, acc.map fun t => ⟨t.toArray⟩⟩, rfl, by rw [hE.out]; exact ⟨rfl, rfl, rfl, rfl⟩, hL.out _ _ _ _⟩, ?_⟩
        rw [hE.out]
        exact hS.out _ _ _ _
      have hlow2 := hlow.out
      have hV4 := Lib.hid (hV.out.drew I.out)
      have hT := Lib.hid (rtext_any M g wr.drew sj (hM.out.trans (sub_of_grown hV4.out.grown)) 200 (by decide) hV4.out.rd)
      obtain ⟨⟨⟨y0, y1, y2, y3⟩, f0, f1, f2, f3⟩, -, hvl, -, -, -⟩ := hV.out.cells
      have c0 : (0 : Int) < (n : Int) - (j : Int) := by omega
      have hgw := hV.out.gw
      have hwr := hV.out.wr
      have hrv := hV.out.rv
      replace hA := Lib.hid hA
      replace hF := Lib.hid hF
      replace hown := Lib.hid hown
      go_wp2_with fail
      go_region_law
        ((first
          | (refine step_append_lies _ (by rfl) _ _ _ (by rfl) (gv + 1) 9 i0 (.string ⟨#[]⟩) 1 16 Tryz.underlying46 hi hz0 hz1 hz2 rfl (by omega) (.slice va j vc) j _ (by rfl) (hown5.out.alloc _) ⟨w5.heap.size, 0, none⟩ 1 1 [sv (rdT 200 sj).1] (by rfl) (by rfl) (World.news_of_block (cs := #[sv (rdT 200 sj).1]) (t := 9) (fr := (0, 0)) (heap_alloc_new w5 _)) (by simp [sv, Value.oneCell']) (by omega) (by unfold maxLen; omega) (by omega) (by simp; omega) (w5.heap.size + 1) (by simp) ?_; intro gg cap w6 hown6 hgrow6 hat hlt6; have hV6 := Lib.hid ((hV5.out.alloc I.out _).app I.out (hown5.out.alloc _) hgrow6); obtain ⟨⟨⟨u0, u1, u2, u3⟩, k0, k1, k2, k3⟩, -, hul, -, -, -⟩ := hV6.out.cells)
          | (go_simp; go_at_call 60; refine hT.out.mono ?_; rintro e w5 ⟨rfl, hR5, hG5⟩; have hV5 := Lib.hid (hV4.out.call hG5 hR5); have hown5 := Lib.hid (owns_kept (owns_drew hown.out) hG5 (by omega)); obtain ⟨⟨⟨x0, x1, x2, x3⟩, e0, e1, e2, e3⟩, -, hxl, -, -, -⟩ := hV5.out.cells; clear hR5 hG5)))
      all_goals
        have hN := Lib.hid (relT_next I.out hlt hA.out hF.out hV5.out hown5.out hgrow6 hown6)
        clear hgrow6 hown6 hat
        go_wp2
        go_roundw
        case rel => exact ⟨j + 1, by omega, by first | (go_num) | (congr 1; omega), hN⟩
        case measure => simp [intOf]; omega
  by_cases h34 : k = 3 ∨ k = 4
  · have hE := Lib.hid (rdV_34 (b := true) (s := s) (by rw [hk]; exact h12) (by rw [hk]; omega) (by rw [hk]; exact h34.imp id Or.inl))
    rw [hk, hs1] at hE
    replace hk := Lib.hid hk
    rcases h34 with rfl | rfl
    · go_wp2_with fail
      obtain ⟨gv, hgv⟩ : ∃ v, v = w1.heap.size := ⟨_, rfl⟩
      rw [← hgv] at hV hlow ⊢
      generalize World.alloc w1 _ = w2 at hV ⊢
      clear hgv
      refine (rtext_any M g w2 s1 (hM.out.trans (sub_of_grown hV.out.grown)) 200 (by decide) hV.out.rd).mono ?_
      rintro e w3 ⟨rfl, hR3, hG3⟩
      have hV3 := Lib.hid (hV.out.call hG3 hR3)
      obtain ⟨x, hx⟩ : ∃ x : ByteArray, Hid ((⟨(rdT 200 s1).1.toArray⟩ : ByteArray) = x) := ⟨_, Lib.hid rfl⟩
      have hxz : x.size ≤ 200 := by
        have := rdT_few (m := 200) (by decide) s1
        rw [← hx.out]
        show (rdT 200 s1).1.toArray.size ≤ 200
        simp
        omega
      rw [hx.out]
      rw [hx.out] at hE
      obtain ⟨⟨⟨y0, y1, y2, y3⟩, f0, f1, f2, f3⟩, ⟨⟨z0, z1, z2, z3⟩, g0, g1, g2, g3⟩, hvl, hrl, hrv, hvr⟩ := hV3.out.cells
      have hwr := hV3.out.wr
      have hS := Lib.hid ((hV3.out.set I.out 2 (.string x)).fin I.out)
      replace hxz := Lib.hid hxz
      clear hR3 hG3 hV
      go_wp2
      refine bodyPost_ret (v := .agg #[.int .i64 3, .int .i64 0, .string x, .slice none 0 0]) (by simp [results, Tryz.results61, go_sem, z0, z1, z2, z3]) rfl ?_
      refine ⟨⟨⟨_, 0, x, none, 0, 0, []⟩, rfl, by rw [hE.out]; exact ⟨rfl, rfl, rfl, rfl⟩, LAt.flat _ _ _ _ (by have := hxz.out; omega)⟩, ?_⟩
      rw [hE.out]
      exact hS.out _ _ _ _
    · go_wp2_with fail
      obtain ⟨gv, hgv⟩ : ∃ v, v = w1.heap.size := ⟨_, rfl⟩
      rw [← hgv] at hV hlow ⊢
      generalize World.alloc w1 _ = w2 at hV ⊢
      clear hgv
      refine (rtext_any M g w2 s1 (hM.out.trans (sub_of_grown hV.out.grown)) 200 (by decide) hV.out.rd).mono ?_
      rintro e w3 ⟨rfl, hR3, hG3⟩
      have hV3 := Lib.hid (hV.out.call hG3 hR3)
      obtain ⟨x, hx⟩ : ∃ x : ByteArray, Hid ((⟨(rdT 200 s1).1.toArray⟩ : ByteArray) = x) := ⟨_, Lib.hid rfl⟩
      have hxz : x.size ≤ 200 := by
        have := rdT_few (m := 200) (by decide) s1
        rw [← hx.out]
        show (rdT 200 s1).1.toArray.size ≤ 200
        simp
        omega
      rw [hx.out]
      rw [hx.out] at hE
      obtain ⟨⟨⟨y0, y1, y2, y3⟩, f0, f1, f2, f3⟩, ⟨⟨z0, z1, z2, z3⟩, g0, g1, g2, g3⟩, hvl, hrl, hrv, hvr⟩ := hV3.out.cells
      have hwr := hV3.out.wr
      have hS := Lib.hid ((hV3.out.set I.out 2 (.string x)).fin I.out)
      replace hxz := Lib.hid hxz
      clear hR3 hG3 hV
      go_wp2
      refine bodyPost_ret (v := .agg #[.int .i64 4, .int .i64 0, .string x, .slice none 0 0]) (by simp [results, Tryz.results61, go_sem, z0, z1, z2, z3]) rfl ?_
      refine ⟨⟨⟨_, 0, x, none, 0, 0, []⟩, rfl, by rw [hE.out]; exact ⟨rfl, rfl, rfl, rfl⟩, LAt.flat _ _ _ _ (by have := hxz.out; omega)⟩, ?_⟩
      rw [hE.out]
      exact hS.out _ _ _ _
  · have hE := Lib.hid (rdV_bad (s := s) (by rw [hk]; exact h12) (by rw [hk]; exact h5) (by rw [hk]; exact h34))
    rw [hk] at hE
    replace hk := Lib.hid hk
    have d1 : ¬ k = 1 := by omega
    have d2 : ¬ k = 2 := by omega
    have d3 : ¬ k = 3 := by omega
    have d4 : ¬ k = 4 := by omega
    go_wp2_with fail
    obtain ⟨gv, hgv⟩ : ∃ v, v = w1.heap.size := ⟨_, rfl⟩
    rw [← hgv] at hV hlow ⊢
    generalize World.alloc w1 _ = w2 at hV ⊢
    clear hgv
    refine (fail_any M g w2 s1 1 (by decide) hV.out.rd).mono ?_
    rintro e w3 ⟨rfl, hR3, hG3⟩
    have hV3 := Lib.hid (hV.out.call hG3 hR3)
    obtain ⟨⟨⟨y0, y1, y2, y3⟩, f0, f1, f2, f3⟩, ⟨⟨z0, z1, z2, z3⟩, g0, g1, g2, g3⟩, hvl, hrl, hrv, hvr⟩ := hV3.out.cells
    have hwr := hV3.out.wr
    have hS := Lib.hid (hV3.out.fin I.out)
    clear hR3 hG3 hV
    go_wp2
    refine bodyPost_ret (v := .agg #[.int .i64 k, .int .i64 0, .string ⟨#[]⟩, .slice none 0 0]) (by simp [results, Tryz.results61, go_sem, z0, z1, z2, z3]) rfl ?_
    refine ⟨⟨⟨k, 0, ⟨#[]⟩, none, 0, 0, []⟩, rfl, by rw [hE.out]; exact ⟨rfl, rfl, rfl, rfl⟩, LAt.flat _ _ _ _ (by decide)⟩, ?_⟩
    rw [hE.out]
    exact hS.out _ _ _ _

end Go.Proofs.YtamkmdlfhlbbeaaGreatDoor.wire
