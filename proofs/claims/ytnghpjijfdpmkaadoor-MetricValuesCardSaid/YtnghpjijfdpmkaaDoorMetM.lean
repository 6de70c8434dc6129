/- Made metrics: what the making holds. -/
import Derived.Test.YtnghpjijfdpmkaaDoorMetK

import Derived.Deep.RegionLaw
import Derived.Deep.RegionWith
import Derived.Deep.DeepCutAuto
import Derived.KernelRfl
namespace Go.Proofs.YtnghpjijfdpmkaaDoor.metric
open Go.RowKit Go.Proofs.YtnghpjijfdpmkaaDoor

abbrev Z7 : Array Value := #[.int .i64 0, .string ⟨#[]⟩, .string ⟨#[]⟩, .int .i64 0, .int .i64 0, .int .i64 0, .int .i64 0]
/-- A block beside the source that is known. -/
abbrev Blk := Nat × Array Value × TypeId
/-- The source and the blocks of the call's own (the result's cells among them) while a metric is made. -/
structure MkS (w : World) (a : Option Addr) (n c : Nat) (L : List Blk) (u : World) : Prop where
  src : Src (w.heap.size + 1) a n c u
  held : ∀ p ∈ L, Own u p.1 p.2.1 p.2.2 ∧ p.1 ≠ w.heap.size + 1
  below : Below w.heap.size w u
theorem MkS.size {w u : World} {a : Option Addr} {n c : Nat} {L : List Blk} (h : MkS w a n c L u) : w.heap.size + 2 ≤ u.heap.size := h.src.1.lt
theorem MkS.drew {w u : World} {a : Option Addr} {n c : Nat} {L : List Blk} (h : MkS w a n c L u) : MkS w a n c L u.drew :=
  ⟨h.src, h.held, h.below.trans ⟨rfl, rfl, rfl, Nat.le_refl _, fun _ _ => rfl⟩⟩
theorem MkS.next {w u u' : World} {a : Option Addr} {n c : Nat} {L : List Blk} (h : MkS w a n c L u) (hH : SrcH (w.heap.size + 1) a n c u') (hG : u.grownBy u' (some (w.heap.size + 1))) : MkS w a n c L u' :=
  ⟨h.src.still hG hH, fun p hp => ⟨(h.held p hp).1.kept hG (by intro e; injection e with e; exact (h.held p hp).2 e.symm), (h.held p hp).2⟩, h.below.trans (below_of_grown hG (by have := h.size; omega) (by omega))⟩
theorem MkS.alloc {w u : World} {a : Option Addr} {n c : Nat} {L : List Blk} (h : MkS w a n c L u) (cs : Array Value) (t : TypeId) : MkS w a n c ((u.heap.size, cs, t) :: L) (u.alloc (.cells cs t)) := by
  have hg : u.grownBy (u.alloc (.cells cs t)) none := World.grownBy_alloc u _ none
  have hs := h.size
  refine ⟨h.src.still (grown_none hg _) (h.src.1.kept hg (by simp)), fun p hp => ?_, h.below.alloc (by omega) _⟩
  rcases List.mem_cons.1 hp with rfl | hp
  · exact ⟨Own.new u cs t, by show u.heap.size ≠ w.heap.size + 1; omega⟩
  · exact ⟨(h.held p hp).1.alloc _, (h.held p hp).2⟩
/-- A store into the first block that is held. -/
theorem MkS.set {w u : World} {a : Option Addr} {n c b : Nat} {A : Array Value} {t : TypeId} {L : List Blk} (h : MkS w a n c ((b, A, t) :: L) u) (hb : w.heap.size + 2 ≤ b) (hL : ∀ p ∈ L, p.1 ≠ b) (i : Nat) (v : Value) :
    MkS w a n c ((b, A.setIfInBounds i v, t) :: L) (u.setCell ⟨b, i, none⟩ v) := by
  refine ⟨h.src.other (grown_setS u b i v) (by omega), fun p hp => ?_, h.below.setCell (by simp; omega) _⟩
  rcases List.mem_cons.1 hp with rfl | hp
  · exact ⟨(h.held _ (List.mem_cons_self)).1.set i v, by show b ≠ w.heap.size + 1; omega⟩
  · have h1 := h.held p (List.mem_cons_of_mem _ hp)
    exact ⟨h1.1.setOther (hL p hp) v, h1.2⟩
theorem MkS.sub {w u : World} {a : Option Addr} {n c : Nat} {L L' : List Blk} (h : MkS w a n c L u) (hs : ∀ p ∈ L', p ∈ L) : MkS w a n c L' u := ⟨h.src, fun p hp => h.held p (hs p hp), h.below⟩
/-- A draw while a metric is made. -/
theorem MkS.draw {w u : World} {a : Option Addr} {n c : Nat} {L : List Blk} (h : MkS w a n c L u) (m : Int) (h0 : 1 ≤ m) (h1 : m ≤ 256) :
    Calls Tryd.prog 32 #[.pointer (some ⟨w.heap.size + 1, 0, none⟩), .int .i64 m] u fun e u' => (∃ k : Nat, e = .returned (.int .i64 k) ∧ (k : Int) < m) ∧ MkS w a n c L u' :=
  (src_next _ u m h0 h1 a n c h.src).mono fun e u' ⟨⟨k, he, k0, k1⟩, hH, hG⟩ => ⟨⟨k.toNat, by rw [he, Int.toNat_of_nonneg k0], by omega⟩, h.next hH hG⟩
/-- A list of bytes as it came in. -/
def BytesIn (m : Mem) (a : Option Addr) (n : Nat) : Prop :=
  n ≤ 9223372036854775807 ∧ (n = 0 ∨ ∃ blk off, a = some ⟨blk, off, none⟩ ∧ ∀ i, i < n → ∃ u : Int, 0 ≤ u ∧ u ≤ 255 ∧ m ⟨blk, off + i, none⟩ = some (.int .u8 u))
theorem MkS.start {w : World} {a : Option Addr} {n c : Nat} (h : BytesIn w.cell? a n) :
    MkS w a n c [(w.heap.size, Z7, 29)] ((w.alloc (.cells Z7 29)).alloc (.cells #[.slice a n c, .int .i64 0] 64)) := by
  have e : (w.alloc (.cells Z7 29)).heap.size = w.heap.size + 1 := by simp
  have h1 := Own.new (w.alloc (.cells Z7 29)) #[.slice a n c, .int .i64 0] 64
  rw [e] at h1
  refine ⟨⟨⟨0, h1, Nat.zero_le _⟩, h.1, ?_⟩, fun p hp => ?_, ((Below.refl _ _).alloc (Nat.le_refl _) _).alloc (by simp) _⟩
  rotate_left
  · cases List.mem_singleton.1 hp
    exact ⟨(Own.new w Z7 _).alloc _, by show w.heap.size ≠ w.heap.size + 1; omega⟩
  rcases h.2 with h0 | ⟨blk, off, rfl, hr⟩
  · exact Or.inl h0
  · by_cases hn0 : n = 0
    · exact Or.inl hn0
    have hlt : blk < w.heap.size := by
      obtain ⟨u, u0, u1, hu⟩ := hr 0 (by omega)
      exact World.block_lt_of_cell? w _ hu
    refine Or.inr ⟨blk, off, rfl, by omega, fun i hi => ?_⟩
    obtain ⟨u, u0, u1, hu⟩ := hr i hi
    refine ⟨u, u0, u1, ?_⟩
    unfold but
    rw [if_neg (by show ¬ blk = w.heap.size + 1; omega)]
    have hb : Below w.heap.size w ((w.alloc (.cells Z7 29)).alloc (.cells #[.slice (some ⟨blk, off, none⟩) n c, .int .i64 0] 64)) := ((Below.refl _ _).alloc (Nat.le_refl _) _).alloc (by simp) _
    exact sub_of_below hb _ _ hu

end Go.Proofs.YtnghpjijfdpmkaaDoor.metric

