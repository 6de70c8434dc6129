/- Events in memory; the copy of a row of events and the removal of those that are no measures. -/
import Derived.Test.YtnghpjijfdpmkaaDoorMetC
import Derived.Test.YtnghpjijfdpmkaaDoorMetM
import Derived.Deep.AppendLies
import Derived.Laws.OwnMore
import Derived.Laws.IdiomCopy
import Derived.Lib.SliceRun
namespace Go.Proofs.YtnghpjijfdpmkaaDoor.metric
open Go.RowKit Go.Proofs.YtnghpjijfdpmkaaDoor Go.Proofs.YtnghpjijfdpmkaaDoor.text

/-- An event: its fields. -/
structure EV where
  client : ByteArray
  seq : Int
  kind : Int
  time : Int
  id : ByteArray
  name : ByteArray
  other : ByteArray
  version : Int
  arm : Int
  value : Int
def evA (e : EV) : Array Value := #[.string e.client, .int .i64 e.seq, .int .i64 e.kind, .int .i64 e.time, .string e.id, .string e.name, .string e.other, .int .i64 e.version, .int .i64 e.arm, .int .i64 e.value]
theorem evA_size (e : EV) : (evA e).size = 10 := rfl
/-- A row of events of the call's own. -/
def OwnE (u : World) (g cap n : Nat) (R : Nat → EV) : Prop :=
  g < u.heap.size ∧ n ≤ cap ∧ cap ≤ 9223372036854775807 ∧ (∀ k, k < n → ∀ j, j < 10 → u.cell? ⟨g, k * 10 + j, none⟩ = (evA (R k))[j]?) ∧ ∀ i, u.frozen? ⟨g, i, none⟩ = false
theorem OwnE.lt {u : World} {g cap n : Nat} {R : Nat → EV} (h : OwnE u g cap n R) : g < u.heap.size := h.1
theorem OwnE.below {u v : World} {g cap n : Nat} {R : Nat → EV} (h : OwnE u g cap n R) (hb : Below u.heap.size u v) : OwnE v g cap n R :=
  ⟨Nat.lt_of_lt_of_le h.1 hb.size, h.2.1, h.2.2.1, fun k hk j hj => (hb.cell (p := ⟨g, k * 10 + j, none⟩) h.1).trans (h.2.2.2.1 k hk j hj), fun i => (hb.frozen (p := ⟨g, i, none⟩) h.1).trans (h.2.2.2.2 i)⟩
theorem OwnE.cell {u : World} {g cap n : Nat} {R : Nat → EV} (h : OwnE u g cap n R) {k : Nat} (hk : k < n) (j : Nat) (hj : j < 10) : u.cell? ⟨g, k * 10 + j, none⟩ = (evA (R k))[j]? := h.2.2.2.1 k hk j hj
theorem blw_setCells {B b : Nat} {a : World} (hb : B ≤ b) : ∀ (vs : List Value) (o : Nat) (w : World), Below B a w → Below B a (w.setCells b o vs)
  | [], _, _, h => h
  | v :: r, o, _, h => blw_setCells hb r (o + 1) _ (h.setCell hb v)
/-- A row is stored. -/
theorem OwnE.put {u : World} {g cap n : Nat} {R : Nat → EV} (h : OwnE u g cap n R) {k : Nat} (hk : k < n) (e : EV) : OwnE (u.setCells g (k * 10) (evA e).toList) g cap n (fun i => if i = k then e else R i) := by
  obtain ⟨h1, h2, h3, h4, h5⟩ := h
  have hl : (evA e).toList.length = 10 := rfl
  refine ⟨?_, h2, h3, fun q hq j hj => ?_, fun i => by rw [World.frozen?_setCells]; exact h5 i⟩
  · have := (blw_setCells (Nat.le_refl g) (evA e).toList (k * 10) u (Below.refl g u)).size; omega
  · by_cases he : q = k
    · subst he
      show _ = (evA (if q = q then e else R q))[j]?
      rw [if_pos rfl]
      have := World.cell?_setCells_in g (evA e).toList (q * 10) u (fun j hj => by rw [h4 q hk j (by omega)]; simp [evA] at hj ⊢; omega) j (by omega)
      rw [this]
      exact (List.getElem?_eq_getElem (by omega)).symm.trans (by simp)
    · show _ = (evA (if q = k then e else R q))[j]?
      rw [if_neg he, World.cell?_setCells_out g _ _ _ _ (fun _ _ => by simp only [hl]; omega)]
      exact h4 q hq j hj
theorem OwnE.cells {u : World} {g cap n : Nat} {R : Nat → EV} (h : OwnE u g cap n R) {k : Nat} (hk : k < n) :
    u.cell? ⟨g, k * 10, none⟩ = some (.string (R k).client) ∧ u.cell? ⟨g, k * 10 + 1, none⟩ = some (.int .i64 (R k).seq) ∧ u.cell? ⟨g, k * 10 + 2, none⟩ = some (.int .i64 (R k).kind) ∧ u.cell? ⟨g, k * 10 + 3, none⟩ = some (.int .i64 (R k).time) ∧ u.cell? ⟨g, k * 10 + 4, none⟩ = some (.string (R k).id) ∧
    u.cell? ⟨g, k * 10 + 5, none⟩ = some (.string (R k).name) ∧ u.cell? ⟨g, k * 10 + 6, none⟩ = some (.string (R k).other) ∧ u.cell? ⟨g, k * 10 + 7, none⟩ = some (.int .i64 (R k).version) ∧ u.cell? ⟨g, k * 10 + 8, none⟩ = some (.int .i64 (R k).arm) ∧ u.cell? ⟨g, k * 10 + 9, none⟩ = some (.int .i64 (R k).value) :=
  ⟨h.cell hk 0 (by omega), h.cell hk 1 (by omega), h.cell hk 2 (by omega), h.cell hk 3 (by omega), h.cell hk 4 (by omega), h.cell hk 5 (by omega), h.cell hk 6 (by omega), h.cell hk 7 (by omega), h.cell hk 8 (by omega), h.cell hk 9 (by omega)⟩
theorem OwnE.free {u : World} {g cap n : Nat} {R : Nat → EV} (h : OwnE u g cap n R) (k : Nat) :
    u.frozen? ⟨g, k * 10, none⟩ = false ∧ u.frozen? ⟨g, k * 10 + 1, none⟩ = false ∧ u.frozen? ⟨g, k * 10 + 2, none⟩ = false ∧ u.frozen? ⟨g, k * 10 + 3, none⟩ = false ∧ u.frozen? ⟨g, k * 10 + 4, none⟩ = false ∧
    u.frozen? ⟨g, k * 10 + 5, none⟩ = false ∧ u.frozen? ⟨g, k * 10 + 6, none⟩ = false ∧ u.frozen? ⟨g, k * 10 + 7, none⟩ = false ∧ u.frozen? ⟨g, k * 10 + 8, none⟩ = false ∧ u.frozen? ⟨g, k * 10 + 9, none⟩ = false :=
  ⟨h.2.2.2.2 _, h.2.2.2.2 _, h.2.2.2.2 _, h.2.2.2.2 _, h.2.2.2.2 _, h.2.2.2.2 _, h.2.2.2.2 _, h.2.2.2.2 _, h.2.2.2.2 _, h.2.2.2.2 _⟩
abbrev evV (e : EV) : Value := .agg #[.string e.client, .int .i64 e.seq, .int .i64 e.kind, .int .i64 e.time, .string e.id, .string e.name, .string e.other, .int .i64 e.version, .int .i64 e.arm, .int .i64 e.value]
/-- The closure that tells those that go. -/
theorem gone_any (e : EV) (u : World) : Calls Tryd.prog 49 #[evV e] u fun r u' => r = .returned (.bool (decide (e.kind ≠ 2))) ∧ Below u.heap.size u u' := by
  by_cases h : e.kind = 2
  · have h2 := Lib.hid (show decide (e.kind ≠ 2) = false by simp [h])
    have h1 : (e.kind == 2) = true := by simp [h]
    have h3 : (e.kind != 2) = false := by simp [h]
    clear h
    go_enter Tryd.func49, Tryd.ntmps49
    go_wp2
    go_ret
    exact ⟨by rw [h2.out]; rfl, (Below.refl _ _).alloc (Nat.le_refl _) _⟩
  · have h2 := Lib.hid (show decide (e.kind ≠ 2) = true by simp [h])
    have h1 : (e.kind == 2) = false := by simp [h]
    have h3 : (e.kind != 2) = true := by simp [h]
    clear h
    go_enter Tryd.func49, Tryd.ntmps49
    go_wp2
    go_ret
    exact ⟨by rw [h2.out]; rfl, (Below.refl _ _).alloc (Nat.le_refl _) _⟩

/-- The first that goes. -/
def FirstGone (R : Nat → EV) (n : Nat) (u : World) (r : Ending) (u' : World) : Prop :=
  Below u.heap.size u u' ∧ ((r = .returned (.int .i64 (-1)) ∧ ∀ k, k < n → (R k).kind = 2) ∨ ∃ i : Nat, i < n ∧ r = .returned (.int .i64 i) ∧ (∀ k, k < i → (R k).kind = 2) ∧ (R i).kind ≠ 2)
set_option maxRecDepth 100000 in
set_option maxHeartbeats 4000000 in
theorem index_any (g cap n : Nat) (R : Nat → EV) (u : World) (h : OwnE u g cap n R) : Calls Tryd.prog 69 #[.slice (some ⟨g, 0, none⟩) n cap, .func (.func 49) #[] #[]] u (FirstGone R n u) := by
  have hn : n ≤ 9223372036854775807 := by have h1 := h.2.1; have h2 := h.2.2.1; omega
  replace h := Lib.hid h
  go_enter Tryd.func69, Tryd.ntmps69
  go_wp2
  go_loopw [8] (fun s8 wr => ∃ k : Nat, k ≤ n ∧ s8 = .int .i64 k ∧ Hid (Below u.heap.size u wr) ∧ Hid (∀ j, j < k → (R j).kind = 2)) (fun s8 _ => n - (intOf s8).toNat)
  case atStart => exact ⟨0, Nat.zero_le _, rfl, Lib.hid (Below.refl _ _), Lib.hid (fun j hj => absurd hj (Nat.not_lt_zero j))⟩
  case round =>
    obtain ⟨k, hk, rfl, hB, hR⟩ := hrel
    by_cases hlt : k < n
    · have hO := Lib.hid (h.out.below hB.out)
      obtain ⟨c0, c1, c2, c3, c4, c5, c6, c7, c8, c9⟩ := hO.out.cells hlt
      have m0 : (0 : Int) ≤ (k : Int) := Int.natCast_nonneg _
      go_wp2_with fail
      refine (gone_any (R k) _).mono ?_
      rintro e w1 ⟨rfl, hb1⟩
      have hB1 := Lib.hid (hB.out.trans (hb1.mono hB.out.size))
      clear hb1 c0 c1 c2 c3 c4 c5 c6 c7 c8 c9
      by_cases hq : (R k).kind = 2
      · have hd : decide ((R k).kind ≠ 2) = false := by simp [hq]
        rw [hd]
        have hR2 := Lib.hid (show ∀ j, j < k + 1 → (R j).kind = 2 by
          intro j hj
          rcases Nat.lt_or_ge j k with h1 | h1
          · exact hR.out j h1
          · rw [show j = k by omega]; exact hq)
        clear hd hq
        go_wp2
        go_roundw
        case rel => exact ⟨k + 1, by omega, by go_num, hB1, hR2⟩
        case measure => (first | (simp [intOf]; omega) | simp [intOf])
      · have hd : decide ((R k).kind ≠ 2) = true := by simp [hq]
        rw [hd]
        replace hq := Lib.hid hq
        clear hd
        go_wp2
        go_ret
        exact ⟨hB1.out, Or.inr ⟨k, hlt, rfl, hR.out, hq.out⟩⟩
    · obtain rfl : k = n := by omega
      go_wp2
      go_ret
      exact ⟨hB.out, Or.inl ⟨rfl, hR.out⟩⟩

/-- Those of the first n that stay. -/
def keepL (R : Nat → EV) (n : Nat) : List EV := ((List.range n).map R).filter fun e => decide (e.kind = 2)
theorem keepL_succ (R : Nat → EV) (n : Nat) : keepL R (n + 1) = if (R n).kind = 2 then keepL R n ++ [R n] else keepL R n := by
  unfold keepL
  rw [List.range_succ, List.map_append, List.filter_append]
  by_cases h : (R n).kind = 2 <;> simp [h]
theorem keepL_le (R : Nat → EV) (n : Nat) : (keepL R n).length ≤ n := by
  unfold keepL
  have := List.length_filter_le (fun e : EV => decide (e.kind = 2)) ((List.range n).map R)
  simpa using this
theorem keepL_all (R : Nat → EV) : ∀ n, (∀ k, k < n → (R k).kind = 2) → keepL R n = (List.range n).map R := by
  intro n h
  unfold keepL
  rw [List.filter_eq_self]
  intro e he
  obtain ⟨k, hk, rfl⟩ := List.mem_map.1 he
  simp [h k (List.mem_range.1 hk)]
/-- Events as a slice holds them. -/
def EvsAt (m : Mem) (a : Option Addr) (E : List EV) : Prop := E = [] ∨ ∃ blk off, a = some ⟨blk, off, none⟩ ∧ ∀ i e, E[i]? = some e → ∀ j, j < 10 → m ⟨blk, off + i * 10 + j, none⟩ = (evA e)[j]?
/-- What the removal holds on its way. -/
structure DRel (u wr : World) (g cap n : Nat) (R : Nat → EV) (j : Nat) (R' : Nat → EV) : Prop where
  own : OwnE wr g cap n R'
  below : Below g u wr
  done : ∀ k e, (keepL R j)[k]? = some e → R' k = e
  rest : ∀ k, j ≤ k → k < n → R' k = R k
  few : (keepL R j).length < j
theorem DRel.skip {u wr : World} {g cap n : Nat} {R : Nat → EV} {j : Nat} {R' : Nat → EV} (h : DRel u wr g cap n R j R') (hk : (R j).kind ≠ 2) : DRel u wr g cap n R (j + 1) R' := by
  have e : keepL R (j + 1) = keepL R j := by rw [keepL_succ, if_neg hk]
  exact ⟨h.own, h.below, by rw [e]; exact h.done, fun k h1 h2 => h.rest k (by omega) h2, by rw [e]; have := h.few; omega⟩
theorem DRel.world {u wr wv : World} {g cap n : Nat} {R : Nat → EV} {j : Nat} {R' : Nat → EV} (h : DRel u wr g cap n R j R') (hb : Below wr.heap.size wr wv) : DRel u wv g cap n R j R' :=
  ⟨h.own.below hb, h.below.trans (hb.mono (Nat.le_of_lt h.own.lt)), h.done, h.rest, h.few⟩
theorem DRel.keep {u wr : World} {g cap n : Nat} {R : Nat → EV} {j : Nat} {R' : Nat → EV} (h : DRel u wr g cap n R j R') (hj : j < n) (hk : (R j).kind = 2) :
    DRel u (wr.setCells g ((keepL R j).length * 10) (evA (R j)).toList) g cap n R (j + 1) (fun i => if i = (keepL R j).length then R j else R' i) := by
  have e : keepL R (j + 1) = keepL R j ++ [R j] := by rw [keepL_succ, if_pos hk]
  have hf := h.few
  refine ⟨h.own.put (by omega) _, blw_setCells (Nat.le_refl g) _ _ _ h.below, fun k v hv => ?_, fun k h1 h2 => ?_, by rw [e]; simp; omega⟩
  · rw [e] at hv
    by_cases hkk : k = (keepL R j).length
    · subst hkk
      rw [List.getElem?_append_right (Nat.le_refl _)] at hv
      simp at hv
      simp only [if_true]
      exact hv
    · rw [if_neg hkk]
      rcases Nat.lt_or_ge k (keepL R j).length with h1 | h1
      · rw [List.getElem?_append_left h1] at hv
        exact h.done k v hv
      · rw [List.getElem?_append_right h1] at hv
        have : k - (keepL R j).length ≠ 0 := by omega
        rw [List.getElem?_singleton, if_neg this] at hv
        cases hv
  · rw [if_neg (by omega)]
    exact h.rest k (by omega) h2
abbrev zeroE : List Value := [.string ⟨#[]⟩, .int .i64 0, .int .i64 0, .int .i64 0, .string ⟨#[]⟩, .string ⟨#[]⟩, .string ⟨#[]⟩, .int .i64 0, .int .i64 0, .int .i64 0]
def zerosE (n : Nat) : List Value := (Builtin.zeroCells zeroE.toArray n).toList
theorem zerosE_len (n : Nat) : (zerosE n).length = n * 10 := by unfold zerosE Builtin.zeroCells; simp [zeroE]
theorem zerosE_one (n : Nat) : ∀ v ∈ zerosE n, v.oneCell' = true := by
  intro v hv
  unfold zerosE Builtin.zeroCells at hv
  simp only [Array.toList_map, List.mem_map, Array.mem_toList_iff] at hv
  obtain ⟨i, -, rfl⟩ := hv
  have hi : i % 10 < 10 := Nat.mod_lt _ (by omega)
  show (zeroE.toArray[i % 10]!).oneCell' = true
  generalize i % 10 = q at hi
  match q, hi with
  | 0, _ => rfl
  | 1, _ => rfl
  | 2, _ => rfl
  | 3, _ => rfl
  | 4, _ => rfl
  | 5, _ => rfl
  | 6, _ => rfl
  | 7, _ => rfl
  | 8, _ => rfl
  | 9, _ => rfl
theorem zero_event (w : World) : (zeroValue 40).run Tryd.prog w = .ok (.agg zeroE.toArray) w := by kernel_rfl
/-- clear of the rows from i on. -/
theorem run_clear_rows (w : World) (ty : TypeId) (g i n c : Nat) (hn : 0 < n) (hc : ∀ j, j < n * 10 → (w.cell? ⟨g, i + j, none⟩).isSome = true) (hf : ∀ j, j < n * 10 → w.frozen? ⟨g, i + j, none⟩ = false) :
    (Builtin.clear_ #[38] ty #[.slice (some ⟨g, i, none⟩) n c]).run Tryd.prog w = .ok (.tuple #[]) (w.setCells g i (zerosE n)) := by
  have hst := run_storeCells_cells (P := Tryd.prog) g i (zerosE n) 0 w (by rw [zerosE_len]; simpa using hc) (by rw [zerosE_len]; simpa using hf) (zerosE_one n)
  simp only [Nat.add_zero] at hst
  obtain ⟨m, rfl⟩ : ∃ m, n = m + 1 := ⟨n - 1, by omega⟩
  unfold zerosE zeroE at hst ⊢
  simp [Builtin.clear_, run_underlying Tryd.underlying38, zero_event, Value.cells, hst]
/-- What the removal gives. -/
def Measures (R : Nat → EV) (g cap n : Nat) (u : World) (r : Ending) (u' : World) : Prop :=
  r = .returned (.slice (some ⟨g, 0, none⟩) (keepL R n).length cap) ∧ EvsAt u'.cell? (some ⟨g, 0, none⟩) (keepL R n) ∧ Below g u u'

set_option maxRecDepth 100000 in
set_option maxHeartbeats 8000000 in
theorem delete_any (g cap n : Nat) (R : Nat → EV) (u : World) (h : OwnE u g cap n R) : Calls Tryd.prog 47 #[.slice (some ⟨g, 0, none⟩) n cap, .func (.func 49) #[] #[]] u (Measures R g cap n u) := by
  have hn : n ≤ 9223372036854775807 := by have h1 := h.2.1; have h2 := h.2.2.1; omega
  have hcap := h.2.1
  replace h := Lib.hid h
  go_enter Tryd.func47, Tryd.ntmps47
  go_wp2_with fail
  refine (index_any g cap n R u h.out).mono ?_
  rintro e u1 ⟨hb1, ⟨rfl, hall⟩ | ⟨i0, hi0, rfl, hbef, hgone⟩⟩
  · have hO := Lib.hid (h.out.below hb1)
    have hK := Lib.hid (keepL_all R n hall)
    replace hb1 := Lib.hid hb1
    clear hall
    go_wp2
    go_ret
    refine ⟨by rw [hK.out]; simp, ?_, hb1.out.mono (Nat.le_of_lt h.out.lt)⟩
    refine Or.inr ⟨g, 0, rfl, fun k e he j hj => ?_⟩
    rw [hK.out] at he
    have hk : k < n := by have := (List.getElem?_eq_some_iff.1 he).1; simpa using this
    rw [List.getElem?_map, List.getElem?_range hk] at he
    injection he with he
    rw [Nat.zero_add, hO.out.cell hk j hj, ← he]
  · have hK0 : keepL R i0 = (List.range i0).map R := keepL_all R i0 hbef
    have hK1 : keepL R (i0 + 1) = keepL R i0 := by rw [keepL_succ, if_neg hgone]
    have hlen : (keepL R (i0 + 1)).length = i0 := by rw [hK1, hK0]; simp
    have hdone : ∀ k e, (keepL R (i0 + 1))[k]? = some e → R k = e := by
      intro k e he
      rw [hK1, hK0, List.getElem?_map] at he
      obtain ⟨q, hq, rfl⟩ := Option.map_eq_some_iff.1 he
      have hk : k < i0 := by have := (List.getElem?_eq_some_iff.1 hq).1; simpa using this
      rw [List.getElem?_range hk] at hq
      injection hq with hq
      rw [hq]
    have hD := Lib.hid (show DRel u u1 g cap n R (i0 + 1) R from ⟨h.out.below hb1, hb1.mono (Nat.le_of_lt h.out.lt), hdone, fun k _ _ => rfl, by omega⟩)
    clear hdone
    clear hK0 hK1 hb1 hbef hgone
    have e0 : ((i0 : Int) == -1) = false := by simp
    go_wp2_with fail
    go_loopw [5, 6] (fun s5 s6 wr => ∃ (j : Nat) (R' : Nat → EV), j ≤ n ∧ 0 < n ∧ s6 = .int .i64 j ∧ s5 = .int .i64 (keepL R j).length ∧ Hid (DRel u wr g cap n R j R')) (fun _ s6 _ => n - (intOf s6).toNat)
    case atStart => exact ⟨i0 + 1, R, by omega, by omega, by go_num, congrArg (fun q : Nat => Value.int .i64 (q : Int)) hlen.symm, hD⟩
    case round =>
      obtain ⟨j, R', hj, hpos, rfl, rfl, hD'⟩ := hrel
      clear hD hlen
      by_cases hlt : j < n
      · have hO := hD'.out.own
        obtain ⟨c0, c1, c2, c3, c4, c5, c6, c7, c8, c9⟩ := hO.cells hlt
        rw [hD'.out.rest j (Nat.le_refl j) hlt] at c0 c1 c2 c3 c4 c5 c6 c7 c8 c9
        have m0 : (0 : Int) ≤ (j : Int) := Int.natCast_nonneg _
        have hD1 := Lib.hid (hD'.out.world (wv := wr.alloc (.cells (evA (R j)) 40)) ((Below.refl _ _).alloc (Nat.le_refl _) _))
        have hX := Lib.hid (Own.new wr (evA (R j)) 40)
        have hzr := Lib.hid (show g < wr.heap.size from hO.lt)
        replace hO := Lib.hid hO
        go_wp2_with fail
        refine (gone_any (R j) _).mono ?_
        rintro e w1 ⟨rfl, hb1⟩
        have hD2 := Lib.hid (hD1.out.world hb1)
        have hX2 := hX.out.below hb1 hX.out.lt
        have x0 := hX2.cell 0
        have x1 := hX2.cell 1
        have x2 := hX2.cell 2
        have x3 := hX2.cell 3
        have x4 := hX2.cell 4
        have x5 := hX2.cell 5
        have x6 := hX2.cell 6
        have x7 := hX2.cell 7
        have x8 := hX2.cell 8
        have x9 := hX2.cell 9
        simp only [evA, List.getElem?_toArray, List.getElem?_cons_zero, List.getElem?_cons_succ] at x0 x1 x2 x3 x4 x5 x6 x7 x8 x9
        clear hX hX2 hb1 hD1 hO c0 c1 c2 c3 c4 c5 c6 c7 c8 c9
        by_cases hq : (R j).kind = 2
        · have hd : decide ((R j).kind ≠ 2) = false := by simp [hq]
          rw [hd]
          have hlen2 := Lib.hid (show (keepL R (j + 1)).length = (keepL R j).length + 1 by rw [keepL_succ, if_pos hq]; simp)
          have hD3 := Lib.hid (hD2.out.keep hlt hq)
          replace hq := Lib.hid hq
          have hf := hD2.out.few
          obtain ⟨c0, c1, c2, c3, c4, c5, c6, c7, c8, c9⟩ := hD2.out.own.cells (k := (keepL R j).length) (by omega)
          obtain ⟨f0, f1, f2, f3, f4, f5, f6, f7, f8, f9⟩ := hD2.out.own.free (keepL R j).length
          generalize (keepL R j).length = p at *
          have m1 : (0 : Int) ≤ (p : Int) := Int.natCast_nonneg _
          have m2 : (p : Int) < (n : Int) := by omega
          clear hd
          go_wp2
          go_roundw
          case rel => exact ⟨j + 1, _, by omega, hpos, by go_num, by rw [hlen2.out]; go_num, hD3⟩
          case measure => (first | (simp [intOf]; omega) | simp [intOf])
        · have hd : decide ((R j).kind ≠ 2) = true := by simp [hq]
          rw [hd]
          have hlen2 := Lib.hid (show (keepL R (j + 1)).length = (keepL R j).length by rw [keepL_succ, if_neg hq])
          have hD3 := Lib.hid (hD2.out.skip hq)
          replace hq := Lib.hid hq
          clear hd
          go_wp2
          go_roundw
          case rel => exact ⟨j + 1, _, by omega, hpos, by go_num, by rw [hlen2.out], hD3⟩
          case measure => (first | (simp [intOf]; omega) | simp [intOf])
      · obtain rfl : j = n := by omega
        have hf := hD'.out.few
        have hK := Lib.hid (show ∀ k e, (keepL R j)[k]? = some e → k < (keepL R j).length ∧ R' k = e from fun k e he => ⟨(List.getElem?_eq_some_iff.1 he).1, hD'.out.done k e he⟩)
        have hO := hD'.out.own
        have hcl := fun ty => run_clear_rows wr ty g ((keepL R j).length * 10) (j - (keepL R j).length) (cap - (keepL R j).length) (by omega) (fun q hq => by
          have h1 := hO.cell (k := (keepL R j).length + q / 10) (by omega) (q % 10) (Nat.mod_lt _ (by omega))
          rw [show (keepL R j).length * 10 + q = ((keepL R j).length + q / 10) * 10 + q % 10 by omega, h1]
          have h2 : q % 10 < (evA (R' ((keepL R j).length + q / 10))).size := Nat.mod_lt _ (by omega)
          rw [Array.getElem?_eq_getElem h2]; rfl) (fun q hq => hO.2.2.2.2 _)
        have hfin := Lib.hid (show EvsAt (wr.setCells g ((keepL R j).length * 10) (zerosE (j - (keepL R j).length))).cell? (some ⟨g, 0, none⟩) (keepL R j) ∧ Below g u (wr.setCells g ((keepL R j).length * 10) (zerosE (j - (keepL R j).length))) from
          ⟨Or.inr ⟨g, 0, rfl, fun k e he q hq => by
            obtain ⟨h1, h2⟩ := hK.out k e he
            rw [Nat.zero_add, World.cell?_setCells_out g _ _ _ _ (fun _ _ => Or.inl (by show k * 10 + q < (keepL R j).length * 10; omega)), hO.cell (by omega) q hq, h2]⟩, blw_setCells (Nat.le_refl g) _ _ _ hD'.out.below⟩)
        replace hO := Lib.hid hO
        replace hf := hf
        generalize hp : (keepL R j).length = p at *
        replace hp := Lib.hid hp
        have m1 : (0 : Int) ≤ (p : Int) := Int.natCast_nonneg _
        have m2 : (p : Int) ≤ (j : Int) := by omega
        have m3 : (p : Int) ≤ (cap : Int) := by omega
        have m4 : ¬ p = cap := by omega
        have m5 : ¬ cap = p := by omega
        have m6 : (j : Int) ≤ (cap : Int) := by omega
        go_wp2
        go_ret
        exact ⟨by rw [hp.out]; rfl, hfin.out.1, hfin.out.2⟩

end Go.Proofs.YtnghpjijfdpmkaaDoor.metric

