/- Made events: what the making holds. -/
import Derived.Test.YtnghpjijfdpmkaaDoorMetX
import Derived.Test.YtnghpjijfdpmkaaDoorMetO
import Derived.Deep.RegionHeld
import Derived.IntWalk
namespace Go

theorem wpAnyH_narrow {P : Program} {md : Region.Mode} {ops : Array Oper} {Q : Exit → Act → World → Prop} {S S' : World → Prop} (hs : ∀ w, S' w → S w) :
    ∀ (fuel : Nat) (listed : Array Bool) (a : Act) (w : World), wpAnyH P md ops Q S' fuel listed a w → wpAnyH P md ops Q S fuel listed a w
  | 0, _, _, _, h => h
  | fuel + 1, _, _, _, h => ⟨h.1, fun i hi => wpOp_mono (fun a' w' h' => ⟨hs _ h'.1, wpAnyH_narrow hs fuel _ a' w' h'.2⟩) (h.2 i hi)⟩

end Go
namespace Go.Proofs.YtnghpjijfdpmkaaDoor.metric
open Go.RowKit Go.Proofs.YtnghpjijfdpmkaaDoor Go.Proofs.YtnghpjijfdpmkaaDoor.text

theorem more_any (b : Nat) (w : World) (a : Option Addr) (n c : Nat) (hC : Src b a n c w) :
    Calls Tryd.prog 44 #[.pointer (some ⟨b, 0, none⟩)] w (DrawnS b a n c w (fun e => ∃ y : Bool, e = .returned (.bool y))) := by
  obtain ⟨⟨k, h⟩, hn, hr⟩ := hC
  have hh := Lib.hid h
  have c0 := h.own.cell 0
  have c1 := h.own.cell 1
  simp at c0 c1
  clear h hr
  go_enter Tryd.func44, Tryd.ntmps44
  go_wp2
  go_quiet (fail)
  go_wp2
  go_ret
  exact ⟨⟨_, rfl⟩, ⟨k, hh.out⟩, grown_drewN _ _ _⟩

abbrev X6 : Array Value := #[.string ⟨#[97, 110, 110]⟩, .string ⟨#[98, 111, 98]⟩, .string ⟨#[99, 97, 116]⟩, .string ⟨#[100, 97, 110]⟩, .string ⟨#[101, 118, 101]⟩, .string ⟨#[102, 97, 121]⟩]
abbrev X4 : Array Value := #[.string ⟨#[98, 108, 117, 101]⟩, .string ⟨#[103, 114, 101, 101, 110]⟩, .string ⟨#[102, 97, 115, 116]⟩, .string ⟨#[115, 108, 111, 119]⟩]
abbrev C3 : Array Value := #[.string ⟨#[97, 112, 112]⟩, .string ⟨#[116, 97, 98]⟩, .string ⟨#[119, 101, 98]⟩]
theorem ids_any (u : World) : Calls Tryd.prog 68 #[] u fun e u' => e = .returned (.slice (some ⟨u.heap.size, 0, none⟩) 6 6) ∧ u' = u.alloc (.cells X6 9) := by
  go_enter Tryd.func68, Tryd.ntmps68
  go_wp2
  go_ret
  exact ⟨rfl, rfl⟩
theorem exps_any (u : World) : Calls Tryd.prog 46 #[] u fun e u' => e = .returned (.slice (some ⟨u.heap.size, 0, none⟩) 4 4) ∧ u' = u.alloc (.cells X4 9) := by
  go_enter Tryd.func46, Tryd.ntmps46
  go_wp2
  go_ret
  exact ⟨rfl, rfl⟩
theorem names_any (u : World) : Calls Tryd.prog 17 #[] u fun e u' => e = .returned (.slice (some ⟨u.heap.size, 0, none⟩) 2 2) ∧ u' = u.alloc (.cells N2 9) := by
  go_enter Tryd.func17, Tryd.ntmps17
  go_wp2
  go_ret
  exact ⟨rfl, rfl⟩
theorem text_in {u : World} {g k m : Nat} {A : Array Value} (h : Own u g A 9) (hA : A.size = m) (hs : ∀ v ∈ A, ∃ x : ByteArray, v = .string x) (hk : k < m) : ∃ x : ByteArray, u.cell? ⟨g, k, none⟩ = some (.string x) := by
  subst hA
  obtain ⟨x, hx⟩ := hs A[k] (Array.getElem_mem hk)
  exact ⟨x, by rw [h.cell k, Array.getElem?_eq_getElem hk, hx]⟩
theorem texts6 : ∀ v ∈ X6, ∃ x : ByteArray, v = .string x := by
  intro v hv
  simp only [List.mem_toArray, List.mem_cons, List.not_mem_nil, or_false] at hv
  rcases hv with rfl | rfl | rfl | rfl | rfl | rfl <;> exact ⟨_, rfl⟩
theorem texts4 : ∀ v ∈ X4, ∃ x : ByteArray, v = .string x := by
  intro v hv
  simp only [List.mem_toArray, List.mem_cons, List.not_mem_nil, or_false] at hv
  rcases hv with rfl | rfl | rfl | rfl <;> exact ⟨_, rfl⟩
theorem texts3 : ∀ v ∈ C3, ∃ x : ByteArray, v = .string x := by
  intro v hv
  simp only [List.mem_toArray, List.mem_cons, List.not_mem_nil, or_false] at hv
  rcases hv with rfl | rfl | rfl <;> exact ⟨_, rfl⟩
theorem texts2 : ∀ v ∈ N2, ∃ x : ByteArray, v = .string x := by
  intro v hv
  simp only [List.mem_toArray, List.mem_cons, List.not_mem_nil, or_false] at hv
  rcases hv with rfl | rfl <;> exact ⟨_, rfl⟩
theorem id_any (k : Nat) (u : World) : Calls Tryd.prog 45 #[.int .i64 k] u fun e u' => (∃ x : ByteArray, e = .returned (.string x)) ∧ Below u.heap.size u u' := by
  obtain ⟨q, hq⟩ : ∃ q : Nat, Hid (q = k % 6) := ⟨_, Lib.hid rfl⟩
  have hq6 : q < 6 := by have := hq.out; omega
  have hqm : (k : Int).tmod 6 = (q : Int) := by rw [Int.tmod_eq_emod_of_nonneg (Int.natCast_nonneg k), hq.out]; rfl
  have hqm2 : (k : Int) % 6 = (q : Int) := by rw [hq.out]; rfl
  have hq0 : (0 : Int) ≤ (q : Int) := Int.natCast_nonneg _
  have hq5 : (q : Int) < 6 := by omega
  clear hq
  have hB := Lib.hid (((Below.refl u.heap.size u).alloc (Nat.le_refl _) (.cells X6 9)).alloc (by simp) (.cells X6 9))
  obtain ⟨x, hx⟩ := text_in ((Own.new u X6 9).alloc (.cells X6 9)) rfl texts6 hq6
  go_enter Tryd.func45, Tryd.ntmps45
  go_wp2_with fail
  refine (ids_any _).mono ?_
  rintro e u1 ⟨rfl, rfl⟩
  go_wp2_with fail
  refine (ids_any _).mono ?_
  rintro e u2 ⟨rfl, rfl⟩
  go_wp2
  go_ret
  exact ⟨⟨x, rfl⟩, hB.out⟩

abbrev sq3 (x y z : Int) : Array Value := #[.int .i64 x, .int .i64 y, .int .i64 z]
/-- The source, the numbers and the events so far. -/
structure EvS (w : World) (a : Option Addr) (n c : Nat) (E : List EV) (v : Value) (wr : World) : Prop where
  src : Src w.heap.size a n c wr
  seq : ∃ x y z : Int, Own wr (w.heap.size + 1) (sq3 x y z) 3
  row : wr.ownsRow (w.heap.size + 2) 40 10 v E.length (flatE E)
  small : ∀ e ∈ E, -4 ≤ e.value ∧ e.value ≤ 35
  below : Below w.heap.size w wr
theorem EvS.size {w wr : World} {a : Option Addr} {n c : Nat} {E : List EV} {v : Value} (h : EvS w a n c E v wr) : w.heap.size + 2 ≤ wr.heap.size := by
  obtain ⟨x, y, z, h1⟩ := h.seq
  exact h1.lt
theorem EvS.drew {w wr : World} {a : Option Addr} {n c : Nat} {E : List EV} {v : Value} (h : EvS w a n c E v wr) : EvS w a n c E v wr.drew :=
  ⟨h.src, h.seq, h.row, h.small, h.below.trans ⟨rfl, rfl, rfl, Nat.le_refl _, fun _ _ => rfl⟩⟩
theorem Src.below {b : Nat} {a : Option Addr} {n c : Nat} {w u : World} (h : Src b a n c w) (hb : Below w.heap.size w u) : Src b a n c u := by
  refine h.still (grown_of_below hb _) ?_
  obtain ⟨k, hk⟩ := h.1
  exact ⟨k, hk.own.below hb hk.own.lt, hk.2⟩
theorem EvS.world {w wr wv : World} {a : Option Addr} {n c : Nat} {E : List EV} {v : Value} (h : EvS w a n c E v wr) (hb : Below wr.heap.size wr wv) : EvS w a n c E v wv := by
  obtain ⟨x, y, z, h1⟩ := h.seq
  refine ⟨h.src.below hb, ⟨x, y, z, h1.below hb h1.lt⟩, h.row.kept (grown_of_below hb none) (by cases v.ownBlock <;> simp), h.small, h.below.trans (hb.mono (by have := h.size; omega))⟩
theorem EvS.next {w u u' : World} {a : Option Addr} {n c : Nat} {E : List EV} {v : Value} (h : EvS w a n c E v u) (hH : SrcH w.heap.size a n c u') (hG : u.grownBy u' (some w.heap.size)) : EvS w a n c E v u' := by
  obtain ⟨x, y, z, h1⟩ := h.seq
  exact ⟨h.src.still hG hH, ⟨x, y, z, h1.kept hG (by simp)⟩, owns_kept h.row hG (by omega), h.small, h.below.trans (below_of_grown hG (by have := h.size; omega) (Nat.le_refl _))⟩
/-- The numbers of the clients: one is read, one is stored. -/
theorem EvS.seqAt {w u : World} {a : Option Addr} {n c : Nat} {E : List EV} {v : Value} (h : EvS w a n c E v u) {k : Nat} (hk : k < 3) : ∃ x : Int, u.cell? ⟨w.heap.size + 1, k, none⟩ = some (.int .i64 x) ∧ u.frozen? ⟨w.heap.size + 1, k, none⟩ = false := by
  obtain ⟨x, y, z, h1⟩ := h.seq
  have h2 := h1.cell k
  rcases (show k = 0 ∨ k = 1 ∨ k = 2 by omega) with rfl | rfl | rfl
  · exact ⟨x, h2, h1.free _⟩
  · exact ⟨y, h2, h1.free _⟩
  · exact ⟨z, h2, h1.free _⟩
theorem EvS.seqPut {w u : World} {a : Option Addr} {n c : Nat} {E : List EV} {v : Value} (h : EvS w a n c E v u) {k : Nat} (hk : k < 3) (q : Int) : EvS w a n c E v (u.setCell ⟨w.heap.size + 1, k, none⟩ (.int .i64 q)) := by
  obtain ⟨x, y, z, h1⟩ := h.seq
  have h2 := h1.set k (.int .i64 q)
  have hg := grown_setS u (w.heap.size + 1) k (.int .i64 q)
  refine ⟨h.src.other hg (by omega), ?_, owns_kept h.row hg (by omega), h.small, h.below.setCell (by simp) _⟩
  rcases (show k = 0 ∨ k = 1 ∨ k = 2 by omega) with rfl | rfl | rfl
  · exact ⟨q, y, z, h2⟩
  · exact ⟨x, q, z, h2⟩
  · exact ⟨x, y, q, h2⟩
/-- A draw. -/
theorem EvS.draw {w u : World} {a : Option Addr} {n c : Nat} {E : List EV} {v : Value} (h : EvS w a n c E v u) (m : Int) (h0 : 1 ≤ m) (h1 : m ≤ 256) :
    Calls Tryd.prog 32 #[.pointer (some ⟨w.heap.size, 0, none⟩), .int .i64 m] u fun e u' => (∃ k : Nat, e = .returned (.int .i64 k) ∧ (k : Int) < m) ∧ EvS w a n c E v u' ∧ u.grownBy u' (some w.heap.size) :=
  (src_next _ u m h0 h1 a n c h.src).mono fun e u' ⟨⟨k, he, k0, k1⟩, hH, hG⟩ => ⟨⟨k.toNat, by rw [he, Int.toNat_of_nonneg k0], by omega⟩, h.next hH hG, hG⟩
theorem EvS.more {w u : World} {a : Option Addr} {n c : Nat} {E : List EV} {v : Value} (h : EvS w a n c E v u) :
    Calls Tryd.prog 44 #[.pointer (some ⟨w.heap.size, 0, none⟩)] u fun e u' => (∃ y : Bool, e = .returned (.bool y)) ∧ EvS w a n c E v u' :=
  (more_any _ u a n c h.src).mono fun _ _ ⟨he, hH, hG⟩ => ⟨he, h.next hH hG⟩
abbrev Z10 : Array Value := #[.string ⟨#[]⟩, .int .i64 0, .int .i64 0, .int .i64 0, .string ⟨#[]⟩, .string ⟨#[]⟩, .string ⟨#[]⟩, .int .i64 0, .int .i64 0, .int .i64 0]
/-- The event that is being made lies in a block of its own. -/
structure EvB (w : World) (a : Option Addr) (n c : Nat) (E : List EV) (v : Value) (eb : Nat) (A : Array Value) (wr : World) : Prop where
  s : EvS w a n c E v wr
  box : Own wr eb A 40
  lo : w.heap.size + 2 ≤ eb
  far : v.ownBlock ≠ some eb
theorem EvB.drew {w wr : World} {a : Option Addr} {n c eb : Nat} {E : List EV} {v : Value} {A : Array Value} (h : EvB w a n c E v eb A wr) : EvB w a n c E v eb A wr.drew := ⟨h.s.drew, h.box, h.lo, h.far⟩
theorem EvB.world {w wr wv : World} {a : Option Addr} {n c eb : Nat} {E : List EV} {v : Value} {A : Array Value} (h : EvB w a n c E v eb A wr) (hb : Below wr.heap.size wr wv) : EvB w a n c E v eb A wv := ⟨h.s.world hb, h.box.below hb h.box.lt, h.lo, h.far⟩
theorem EvB.new {w wr : World} {a : Option Addr} {n c : Nat} {E : List EV} {v : Value} (h : EvS w a n c E v wr) (A : Array Value) : EvB w a n c E v wr.heap.size A (wr.alloc (.cells A 40)) :=
  ⟨h.world ((Below.refl _ _).alloc (Nat.le_refl _) _), Own.new wr A _, h.size, fun e => by have := (h.row.lt _ e).2; omega⟩
theorem EvB.draw {w u : World} {a : Option Addr} {n c eb : Nat} {E : List EV} {v : Value} {A : Array Value} (h : EvB w a n c E v eb A u) (m : Int) (h0 : 1 ≤ m) (h1 : m ≤ 256) :
    Calls Tryd.prog 32 #[.pointer (some ⟨w.heap.size, 0, none⟩), .int .i64 m] u fun e u' => (∃ k : Nat, e = .returned (.int .i64 k) ∧ (k : Int) < m) ∧ EvB w a n c E v eb A u' ∧ u.grownBy u' (some w.heap.size) :=
  (h.s.draw m h0 h1).mono fun _ _ ⟨h2, h3, h4⟩ => ⟨h2, ⟨h3, h.box.kept h4 (by have := h.lo; simp; omega), h.lo, h.far⟩, h4⟩
theorem EvB.set {w u : World} {a : Option Addr} {n c eb : Nat} {E : List EV} {v : Value} {A : Array Value} (h : EvB w a n c E v eb A u) (i : Nat) (x : Value) : EvB w a n c E v eb (A.setIfInBounds i x) (u.setCell ⟨eb, i, none⟩ x) := by
  have hg := grown_setS u eb i x
  have hl := h.lo
  obtain ⟨q1, q2, q3, h1⟩ := h.s.seq
  exact ⟨⟨h.s.src.other hg (by omega), ⟨q1, q2, q3, h1.kept hg (by simp; omega)⟩, h.s.row.kept hg (Or.inr h.far), h.s.small, h.s.below.setCell (by show w.heap.size ≤ eb; omega) _⟩, h.box.set i x, hl, h.far⟩
theorem cells10 {u : World} {eb : Nat} {e : EV} {t : TypeId} (h : Own u eb (evA e) t) :
    (u.cell? ⟨eb, 0, none⟩ = some (.string e.client) ∧ u.cell? ⟨eb, 1, none⟩ = some (.int .i64 e.seq) ∧ u.cell? ⟨eb, 2, none⟩ = some (.int .i64 e.kind) ∧ u.cell? ⟨eb, 3, none⟩ = some (.int .i64 e.time) ∧ u.cell? ⟨eb, 4, none⟩ = some (.string e.id) ∧
    u.cell? ⟨eb, 5, none⟩ = some (.string e.name) ∧ u.cell? ⟨eb, 6, none⟩ = some (.string e.other) ∧ u.cell? ⟨eb, 7, none⟩ = some (.int .i64 e.version) ∧ u.cell? ⟨eb, 8, none⟩ = some (.int .i64 e.arm) ∧ u.cell? ⟨eb, 9, none⟩ = some (.int .i64 e.value)) ∧
    u.frozen? ⟨eb, 0, none⟩ = false ∧ u.frozen? ⟨eb, 1, none⟩ = false ∧ u.frozen? ⟨eb, 2, none⟩ = false ∧ u.frozen? ⟨eb, 3, none⟩ = false ∧ u.frozen? ⟨eb, 4, none⟩ = false ∧ u.frozen? ⟨eb, 5, none⟩ = false ∧ u.frozen? ⟨eb, 6, none⟩ = false ∧ u.frozen? ⟨eb, 7, none⟩ = false ∧ u.frozen? ⟨eb, 8, none⟩ = false ∧ u.frozen? ⟨eb, 9, none⟩ = false :=
  ⟨⟨h.cell 0, h.cell 1, h.cell 2, h.cell 3, h.cell 4, h.cell 5, h.cell 6, h.cell 7, h.cell 8, h.cell 9⟩, h.free 0, h.free 1, h.free 2, h.free 3, h.free 4, h.free 5, h.free 6, h.free 7, h.free 8, h.free 9⟩
/-- What a region holds on its way: and cells that are known. -/
structure EvC (w : World) (a : Option Addr) (n c : Nat) (E : List EV) (v : Value) (C : List (Addr × Value)) (u : World) : Prop where
  s : EvS w a n c E v u
  cell : ∀ p ∈ C, u.cell? p.1 = some p.2 ∧ p.1.block ≠ w.heap.size
theorem EvC.zero {w u : World} {a : Option Addr} {n c : Nat} {E : List EV} {v : Value} (h : EvS w a n c E v u) : EvC w a n c E v [] u := ⟨h, fun p hp => by cases hp⟩
theorem EvC.cons {w u : World} {a : Option Addr} {n c : Nat} {E : List EV} {v : Value} {C : List (Addr × Value)} (h : EvC w a n c E v C u) {p : Addr} {x : Value} (hp : u.cell? p = some x) (hb : p.block ≠ w.heap.size) : EvC w a n c E v ((p, x) :: C) u :=
  ⟨h.s, fun q hq => by
    rcases List.mem_cons.1 hq with rfl | hq
    · exact ⟨hp, hb⟩
    · exact h.cell q hq⟩
theorem EvC.tail {w u : World} {a : Option Addr} {n c : Nat} {E : List EV} {v : Value} {C : List (Addr × Value)} {p : Addr × Value} (h : EvC w a n c E v (p :: C) u) : EvC w a n c E v C u := ⟨h.s, fun q hq => h.cell q (List.mem_cons_of_mem _ hq)⟩
theorem EvC.drew {w u : World} {a : Option Addr} {n c : Nat} {E : List EV} {v : Value} {C : List (Addr × Value)} (h : EvC w a n c E v C u) : EvC w a n c E v C u.drew := ⟨h.s.drew, h.cell⟩
theorem EvC.world {w u u' : World} {a : Option Addr} {n c : Nat} {E : List EV} {v : Value} {C : List (Addr × Value)} (h : EvC w a n c E v C u) (hb : Below u.heap.size u u') : EvC w a n c E v C u' :=
  ⟨h.s.world hb, fun p hp => ⟨sub_of_below hb _ _ (h.cell p hp).1, (h.cell p hp).2⟩⟩
theorem EvC.next {w u u' : World} {a : Option Addr} {n c : Nat} {E : List EV} {v : Value} {C : List (Addr × Value)} (h : EvC w a n c E v C u) (hs : EvS w a n c E v u') (hG : u.grownBy u' (some w.heap.size)) : EvC w a n c E v C u' :=
  ⟨hs, fun p hp => ⟨hG.cell (h.cell p hp).1 (by intro e; injection e with e; exact (h.cell p hp).2 e), (h.cell p hp).2⟩⟩
theorem EvC.set {w u : World} {a : Option Addr} {n c eb : Nat} {E : List EV} {v : Value} {A : Array Value} {C : List (Addr × Value)} (h : EvC w a n c E v C u) (hX : EvB w a n c E v eb A u) (hne : ∀ p ∈ C, p.1.block ≠ eb) (i : Nat) (x : Value) : EvC w a n c E v C (u.setCell ⟨eb, i, none⟩ x) :=
  ⟨(hX.set i x).s, fun p hp => ⟨(World.cell?_setCell_far _ _ _ _ (fun e => hne p hp e.symm)).trans (h.cell p hp).1, (h.cell p hp).2⟩⟩
theorem cell_lt {u : World} {p : Addr} {x : Value} (h : u.cell? p = some x) : p.block < u.heap.size := World.block_lt_of_cell? u p h

/-- The event that is being made, some event, and cells that are known. -/
structure EvX (w : World) (a : Option Addr) (n c : Nat) (E : List EV) (v : Value) (eb : Nat) (C : List (Addr × Value)) (u : World) : Prop where
  ev : ∃ e : EV, -4 ≤ e.value ∧ e.value ≤ 35 ∧ EvB w a n c E v eb (evA e) u
  cell : ∀ p ∈ C, u.cell? p.1 = some p.2 ∧ p.1.block ≠ w.heap.size ∧ p.1.block ≠ eb
theorem EvX.start {w u : World} {a : Option Addr} {n c eb : Nat} {E : List EV} {v : Value} {e : EV} (h : EvB w a n c E v eb (evA e) u) (h1 : e.value = 0) : EvX w a n c E v eb [] u := ⟨⟨e, by omega, by omega, h⟩, fun p hp => by cases hp⟩
theorem EvX.lt {w u : World} {a : Option Addr} {n c eb : Nat} {E : List EV} {v : Value} {C : List (Addr × Value)} (h : EvX w a n c E v eb C u) : w.heap.size + 2 ≤ eb ∧ eb < u.heap.size := by
  obtain ⟨e, -, -, hX⟩ := h.ev
  exact ⟨hX.lo, hX.box.lt⟩
theorem EvX.cons {w u : World} {a : Option Addr} {n c eb : Nat} {E : List EV} {v : Value} {C : List (Addr × Value)} (h : EvX w a n c E v eb C u) {p : Addr} {x : Value} (hp : u.cell? p = some x) (hb : p.block ≠ w.heap.size) (hb2 : p.block ≠ eb) : EvX w a n c E v eb ((p, x) :: C) u :=
  ⟨h.ev, fun q hq => by
    rcases List.mem_cons.1 hq with rfl | hq
    · exact ⟨hp, hb, hb2⟩
    · exact h.cell q hq⟩
theorem EvX.tail {w u : World} {a : Option Addr} {n c eb : Nat} {E : List EV} {v : Value} {C : List (Addr × Value)} {p : Addr × Value} (h : EvX w a n c E v eb (p :: C) u) : EvX w a n c E v eb C u := ⟨h.ev, fun q hq => h.cell q (List.mem_cons_of_mem _ hq)⟩
theorem EvX.drew {w u : World} {a : Option Addr} {n c eb : Nat} {E : List EV} {v : Value} {C : List (Addr × Value)} (h : EvX w a n c E v eb C u) : EvX w a n c E v eb C u.drew := by
  obtain ⟨e, h1, h2, hX⟩ := h.ev
  exact ⟨⟨e, h1, h2, hX.drew⟩, h.cell⟩
theorem EvX.world {w u u' : World} {a : Option Addr} {n c eb : Nat} {E : List EV} {v : Value} {C : List (Addr × Value)} (h : EvX w a n c E v eb C u) (hb : Below u.heap.size u u') : EvX w a n c E v eb C u' := by
  obtain ⟨e, h1, h2, hX⟩ := h.ev
  exact ⟨⟨e, h1, h2, hX.world hb⟩, fun p hp => ⟨sub_of_below hb _ _ (h.cell p hp).1, (h.cell p hp).2⟩⟩
theorem EvX.draw {w u : World} {a : Option Addr} {n c eb : Nat} {E : List EV} {v : Value} {C : List (Addr × Value)} (h : EvX w a n c E v eb C u) (m : Int) (h0 : 1 ≤ m) (h1 : m ≤ 256) :
    Calls Tryd.prog 32 #[.pointer (some ⟨w.heap.size, 0, none⟩), .int .i64 m] u fun e u' => (∃ k : Nat, e = .returned (.int .i64 k) ∧ (k : Int) < m) ∧ EvX w a n c E v eb C u' ∧ u.grownBy u' (some w.heap.size) := by
  obtain ⟨e, h3, h4, hX⟩ := h.ev
  exact (hX.draw m h0 h1).mono fun _ _ ⟨h5, h6, hG⟩ => ⟨h5, ⟨⟨e, h3, h4, h6⟩, fun p hp => ⟨hG.cell (h.cell p hp).1 (by intro e; injection e with e; exact (h.cell p hp).2.1 e), (h.cell p hp).2⟩⟩, hG⟩
theorem EvX.keep {w u : World} {a : Option Addr} {n c eb : Nat} {E : List EV} {v : Value} {C : List (Addr × Value)} (h : EvX w a n c E v eb C u) {e : EV} {i : Nat} {x : Value} (h1 : -4 ≤ e.value) (h2 : e.value ≤ 35) (hX : EvB w a n c E v eb (evA e) (u.setCell ⟨eb, i, none⟩ x)) : EvX w a n c E v eb C (u.setCell ⟨eb, i, none⟩ x) :=
  ⟨⟨e, h1, h2, hX⟩, fun p hp => ⟨(World.cell?_setCell_far _ _ _ _ (fun e => (h.cell p hp).2.2 e.symm)).trans (h.cell p hp).1, (h.cell p hp).2⟩⟩
theorem EvX.put2 {w u : World} {a : Option Addr} {n c eb : Nat} {E : List EV} {v : Value} {C : List (Addr × Value)} (h : EvX w a n c E v eb C u) (x : Int) : EvX w a n c E v eb C (u.setCell ⟨eb, 2, none⟩ (.int .i64 x)) := by
  obtain ⟨e, h1, h2, hX⟩ := h.ev
  exact h.keep (e := { e with kind := x }) h1 h2 (hX.set 2 (.int .i64 x))
theorem EvX.put5 {w u : World} {a : Option Addr} {n c eb : Nat} {E : List EV} {v : Value} {C : List (Addr × Value)} (h : EvX w a n c E v eb C u) (x : ByteArray) : EvX w a n c E v eb C (u.setCell ⟨eb, 5, none⟩ (.string x)) := by
  obtain ⟨e, h1, h2, hX⟩ := h.ev
  exact h.keep (e := { e with name := x }) h1 h2 (hX.set 5 (.string x))
theorem EvX.put6 {w u : World} {a : Option Addr} {n c eb : Nat} {E : List EV} {v : Value} {C : List (Addr × Value)} (h : EvX w a n c E v eb C u) (x : ByteArray) : EvX w a n c E v eb C (u.setCell ⟨eb, 6, none⟩ (.string x)) := by
  obtain ⟨e, h1, h2, hX⟩ := h.ev
  exact h.keep (e := { e with other := x }) h1 h2 (hX.set 6 (.string x))
theorem EvX.put7 {w u : World} {a : Option Addr} {n c eb : Nat} {E : List EV} {v : Value} {C : List (Addr × Value)} (h : EvX w a n c E v eb C u) (x : Int) : EvX w a n c E v eb C (u.setCell ⟨eb, 7, none⟩ (.int .i64 x)) := by
  obtain ⟨e, h1, h2, hX⟩ := h.ev
  exact h.keep (e := { e with version := x }) h1 h2 (hX.set 7 (.int .i64 x))
theorem EvX.put8 {w u : World} {a : Option Addr} {n c eb : Nat} {E : List EV} {v : Value} {C : List (Addr × Value)} (h : EvX w a n c E v eb C u) (x : Int) : EvX w a n c E v eb C (u.setCell ⟨eb, 8, none⟩ (.int .i64 x)) := by
  obtain ⟨e, h1, h2, hX⟩ := h.ev
  exact h.keep (e := { e with arm := x }) h1 h2 (hX.set 8 (.int .i64 x))
theorem EvX.put9 {w u : World} {a : Option Addr} {n c eb : Nat} {E : List EV} {v : Value} {C : List (Addr × Value)} (h : EvX w a n c E v eb C u) (x : Int) (h1 : -4 ≤ x) (h2 : x ≤ 35) : EvX w a n c E v eb C (u.setCell ⟨eb, 9, none⟩ (.int .i64 x)) := by
  obtain ⟨e, -, -, hX⟩ := h.ev
  exact h.keep (e := { e with value := x }) h1 h2 (hX.set 9 (.int .i64 x))
/-- A field of the event may be stored to. -/
theorem EvX.open {w u : World} {a : Option Addr} {n c eb : Nat} {E : List EV} {v : Value} {C : List (Addr × Value)} (h : EvX w a n c E v eb C u) (i : Nat) (hi : i < 10) : (∃ x, u.cell? ⟨eb, i, none⟩ = some x) ∧ u.frozen? ⟨eb, i, none⟩ = false := by
  obtain ⟨e, -, -, hX⟩ := h.ev
  refine ⟨?_, hX.box.free i⟩
  rw [hX.box.cell i]
  exact ⟨(evA e)[i]'(by rw [evA_size]; exact hi), Array.getElem?_eq_getElem _⟩

end Go.Proofs.YtnghpjijfdpmkaaDoor.metric

