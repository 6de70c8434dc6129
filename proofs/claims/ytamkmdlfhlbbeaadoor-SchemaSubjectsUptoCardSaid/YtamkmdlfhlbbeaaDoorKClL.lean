/- Which attribute is found: the program's Lookup and the reference's. -/
import Derived.Test.YtamkmdlfhlbbeaaDoorKJ4
import Derived.Test.YtamkmdlfhlbbeaaDoorKJ4
import Derived.Test.YtamkmdlfhlbbeaaDoorShelf
import Derived.WalkKit
import Derived.WalkSpells
import Derived.WalkLawsBesides
import Derived.Deep.QuietTactic
import Derived.Lib.Hide
namespace Go.Proofs.YtamkmdlfhlbbeaaDoor.clause
open Go.RowKit Go.Proofs.YtamkmdlfhlbbeaaDoor Go.Proofs.YtamkmdlfhlbbeaaDoor.schema Go.Proofs.YtamkmdlfhlbbeaaDoor.value Go.Proofs.YtamkmdlfhlbbeaaDoor.text Go.Proofs.YtamkmdlfhlbbeaaDoor.draw

theorem ct_cells {m : Mem} {l : List CT} {blk off : Nat} (hr : ∀ i r, (l.map CT.row)[i]? = some r → ∀ j x, r[j]? = some x → m ⟨blk, off + i * 3 + j, none⟩ = some x) {k : Nat} (hk : k < l.length) :
    m ⟨blk, off + k * 3, none⟩ = some (.string l[k].kind) ∧ m ⟨blk, off + k * 3 + 1, none⟩ = some (.string l[k].key) ∧ m ⟨blk, off + k * 3 + 2, none⟩ = some (.slice l[k].ptr l[k].len l[k].cap) := by
  have h := hr k l[k].row (by simp [hk])
  exact ⟨h 0 _ rfl, h 1 _ rfl, h 2 _ rfl⟩
theorem ad_cells {m : Mem} {l : List AD} {blk off : Nat} (hr : ∀ i r, (l.map AD.row)[i]? = some r → ∀ j x, r[j]? = some x → m ⟨blk, off + i * 5 + j, none⟩ = some x) {k : Nat} (hk : k < l.length) :
    m ⟨blk, off + k * 5, none⟩ = some (.string l[k].name) ∧ m ⟨blk, off + k * 5 + 1, none⟩ = some (.int .i64 l[k].val.kind) ∧ m ⟨blk, off + k * 5 + 2, none⟩ = some (.int .i64 l[k].val.num) ∧
      m ⟨blk, off + k * 5 + 3, none⟩ = some (.string l[k].val.text) ∧ m ⟨blk, off + k * 5 + 4, none⟩ = some (.slice l[k].val.ptr l[k].val.len l[k].val.cap) := by
  have h := hr k l[k].row (by simp [hk])
  exact ⟨h 0 _ rfl, h 1 _ rfl, h 2 _ rfl, h 3 _ rfl, h 4 _ rfl⟩

def NoC (kind : List UInt8) (l : List CT) (k : Nat) : Prop := findS kind (l.drop k) = findS kind l
theorem findS_hit {kind : List UInt8} {l : List CT} {k : Nat} (h : k < l.length) (h1 : (l[k].kind.toList == kind) = true) (T : NoC kind l k) : findS kind l = some l[k] := by
  unfold NoC at T
  rw [← T, List.drop_eq_getElem_cons h, findS, if_pos h1]
theorem findS_miss {kind : List UInt8} {l : List CT} {k : Nat} (h : k < l.length) (h1 : (l[k].kind.toList == kind) = false) (T : NoC kind l k) : NoC kind l (k + 1) := by
  unfold NoC at *
  rw [← T, List.drop_eq_getElem_cons h, findS, if_neg (by rw [h1]; decide)]
theorem findS_end {kind : List UInt8} {l : List CT} {k : Nat} (h : ¬ k < l.length) (T : NoC kind l k) : findS kind l = none := by
  unfold NoC at T
  rw [← T, List.drop_eq_nil_of_le (by omega)]; rfl
def NoA (name : List UInt8) (l : List AD) (k : Nat) : Prop := findA name (l.drop k) = findA name l
theorem findA_hit {name : List UInt8} {l : List AD} {k : Nat} (h : k < l.length) (h1 : (l[k].name.toList == name) = true) (T : NoA name l k) : findA name l = some l[k].val := by
  unfold NoA at T
  rw [← T, List.drop_eq_getElem_cons h, findA, if_pos h1]
theorem findA_miss {name : List UInt8} {l : List AD} {k : Nat} (h : k < l.length) (h1 : (l[k].name.toList == name) = false) (T : NoA name l k) : NoA name l (k + 1) := by
  unfold NoA at *
  rw [← T, List.drop_eq_getElem_cons h, findA, if_neg (by rw [h1]; decide)]
theorem findA_end {name : List UInt8} {l : List AD} {k : Nat} (h : ¬ k < l.length) (T : NoA name l k) : findA name l = none := by
  unfold NoA at T
  rw [← T, List.drop_eq_nil_of_le (by omega)]; rfl

/-- The place of the first context of a kind, or -1. -/
def IdxQ (kind : List UInt8) (l : List CT) (q : Int) : Prop := (∃ k, ∃ h : k < l.length, q = (k : Int) ∧ findS kind l = some l[k]) ∨ (q = -1 ∧ findS kind l = none)
def IdxIs (kind : List UInt8) (l : List CT) (e : Ending) : Prop := ∃ q, e = .returned (.int .i64 q) ∧ IdxQ kind l q

/-- What a look-up gives. -/
def LookIs (o : Option VD) (e : Ending) (w' : World) : Prop :=
  match o with
  | none => e = .returned (.tuple #[.agg #[.int .i64 0, .int .i64 0, .string ⟨#[]⟩, .slice none 0 0], .bool false])
  | some v => ∃ d : VD, e = .returned (.tuple #[.agg d.row.toArray, .bool true]) ∧ SameV d v ∧ LAt w'.cell? d

theorem newM_in (B b : Nat) (w : World) : Sub (newM B b w) w.cell? := by
  intro p v h
  unfold newM at h
  split at h
  · cases h
  · exact h
def zeroW : Array Value := #[.int .i64 0, .int .i64 0, .string ⟨#[]⟩, .slice none 0 0]
theorem ct_at {m : Mem} {l : List CT} {a : Option Addr} {n c : Nat} (h : RowsAt m 3 (.slice a n c) (l.map CT.row)) {k : Nat} (hk : k < l.length) :
    ∃ blk off, a = some ⟨blk, off, none⟩ ∧ n = l.length ∧ n ≤ 9223372036854775807 ∧ m ⟨blk, off + k * 3, none⟩ = some (.string l[k].kind) ∧ m ⟨blk, off + k * 3 + 1, none⟩ = some (.string l[k].key) ∧ m ⟨blk, off + k * 3 + 2, none⟩ = some (.slice l[k].ptr l[k].len l[k].cap) := by
  obtain ⟨a0, c0, h1, h2, h3, h4⟩ := h
  injection h1 with e1 e2 e3
  subst e1; subst e3
  rw [List.length_map] at e2 h2
  rcases h4 with h4 | ⟨blk, off, rfl, hc⟩
  · simp only [List.map_eq_nil_iff] at h4
    rw [h4] at hk
    exact absurd hk (by simp)
  · unfold maxLen at h3
    exact ⟨blk, off, rfl, e2, by omega, ct_cells hc hk⟩
theorem ad_at {m : Mem} {l : List AD} {a : Option Addr} {n c : Nat} (h : RowsAt m 5 (.slice a n c) (l.map AD.row)) {k : Nat} (hk : k < l.length) :
    ∃ blk off, a = some ⟨blk, off, none⟩ ∧ m ⟨blk, off + k * 5, none⟩ = some (.string l[k].name) ∧ m ⟨blk, off + k * 5 + 1, none⟩ = some (.int .i64 l[k].val.kind) ∧ m ⟨blk, off + k * 5 + 2, none⟩ = some (.int .i64 l[k].val.num) ∧
      m ⟨blk, off + k * 5 + 3, none⟩ = some (.string l[k].val.text) ∧ m ⟨blk, off + k * 5 + 4, none⟩ = some (.slice l[k].val.ptr l[k].val.len l[k].val.cap) := by
  obtain ⟨a0, c0, h1, h2, h3, h4⟩ := h
  injection h1 with e1 e2 e3
  subst e1; subst e3
  rcases h4 with h4 | ⟨blk, off, rfl, hc⟩
  · simp only [List.map_eq_nil_iff] at h4
    rw [h4] at hk
    exact absurd hk (by simp)
  · exact ⟨blk, off, rfl, ad_cells hc hk⟩
theorem vd_at {m : Mem} {l : List VD} {a : Option Addr} {n c : Nat} (h : RowsAt m 4 (.slice a n c) (l.map VD.row)) {k : Nat} (hk : k < l.length) :
    ∃ blk off, a = some ⟨blk, off, none⟩ ∧ m ⟨blk, off + k * 4, none⟩ = some (.int .i64 l[k].kind) ∧ m ⟨blk, off + k * 4 + 1, none⟩ = some (.int .i64 l[k].num) ∧ m ⟨blk, off + k * 4 + 2, none⟩ = some (.string l[k].text) ∧ m ⟨blk, off + k * 4 + 3, none⟩ = some (.slice l[k].ptr l[k].len l[k].cap) := by
  obtain ⟨a0, c0, h1, h2, h3, h4⟩ := h
  injection h1 with e1 e2 e3
  subst e1; subst e3
  rcases h4 with h4 | ⟨blk, off, rfl, hc⟩
  · simp only [List.map_eq_nil_iff] at h4
    rw [h4] at hk
    exact absurd hk (by simp)
  · exact ⟨blk, off, rfl, vd_cells hc hk⟩
theorem len_of {m : Mem} {sz : Nat} {rows : List (List Value)} {a : Option Addr} {n c : Nat} (h : RowsAt m sz (.slice a n c) rows) : n = rows.length ∧ n ≤ 9223372036854775807 := by
  obtain ⟨a0, c0, h1, h2, h3, -⟩ := h
  injection h1 with e1 e2 e3
  unfold maxLen at h3
  exact ⟨e2, by omega⟩
theorem own5z {w : World} {n : Nat} {x0 x1 x2 x3 x4 : Value} {t : TypeId} (h : Own w n #[x0, x1, x2, x3, x4] t) :
    w.cell? ⟨n, 0, none⟩ = some x0 ∧ w.cell? ⟨n, 1, none⟩ = some x1 ∧ w.cell? ⟨n, 2, none⟩ = some x2 ∧ w.cell? ⟨n, 3, none⟩ = some x3 ∧ w.cell? ⟨n, 4, none⟩ = some x4 :=
  ⟨h.cell 0, h.cell 1, h.cell 2, h.cell 3, h.cell 4⟩
theorem own3c {w : World} {n : Nat} {x0 x1 x2 : Value} {t : TypeId} (h : Own w n #[x0, x1, x2] t) : w.cell? ⟨n, 0, none⟩ = some x0 ∧ w.cell? ⟨n, 1, none⟩ = some x1 ∧ w.cell? ⟨n, 2, none⟩ = some x2 := ⟨h.cell 0, h.cell 1, h.cell 2⟩
theorem own4z {w : World} {n : Nat} {x0 x1 x2 x3 : Value} {t : TypeId} (h : Own w n #[x0, x1, x2, x3] t) :
    w.cell? ⟨n, 0, none⟩ = some x0 ∧ w.cell? ⟨n, 1, none⟩ = some x1 ∧ w.cell? ⟨n, 2, none⟩ = some x2 ∧ w.cell? ⟨n, 3, none⟩ = some x3 ∧
    w.frozen? ⟨n, 0, none⟩ = false ∧ w.frozen? ⟨n, 1, none⟩ = false ∧ w.frozen? ⟨n, 2, none⟩ = false ∧ w.frozen? ⟨n, 3, none⟩ = false :=
  ⟨h.cell 0, h.cell 1, h.cell 2, h.cell 3, h.free 0, h.free 1, h.free 2, h.free 3⟩
theorem look_none {l : List CT} {kind name : List UInt8} (h : findS kind l = none) : lookS l kind name = none := by unfold lookS; rw [h]
theorem look_key {l : List CT} {c : CT} {kind name : List UInt8} (h : findS kind l = some c) (hn : (name == [107, 101, 121]) = true) : lookS l kind name = some (keyV c.key) := by unfold lookS; rw [h]; simp only; rw [if_pos hn]
theorem look_attr {l : List CT} {c : CT} {kind name : List UInt8} (h : findS kind l = some c) (hn : (name == [107, 101, 121]) = false) : lookS l kind name = findA name c.attrs := by unfold lookS; rw [h]; simp only; rw [if_neg (by rw [hn]; decide)]
theorem findS_mem {kind : List UInt8} {l : List CT} {c : CT} (h : findS kind l = some c) : c ∈ l := by
  induction l with
  | nil => cases h
  | cons x r ih =>
    rw [findS] at h
    split at h
    · injection h with h; rw [h]; exact List.mem_cons_self
    · exact List.mem_cons_of_mem _ (ih h)

end Go.Proofs.YtamkmdlfhlbbeaaDoor.clause

