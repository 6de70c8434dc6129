/- Which attribute is found: the program's Lookup and the reference's. Copies: a list of values, copied one by one. Copies of attributes, contexts and subjects. -/
import Derived.Test.YthnjgbjckggjhaaGreatDoorKJ4
import Derived.Test.YthnjgbjckggjhaaGreatDoorShelf
import Derived.WalkKit
import Derived.WalkSpells
import Derived.WalkLawsBesides
import Derived.Deep.QuietTactic
import Derived.Lib.Hide
import Derived.Test.YthnjgbjckggjhaaGreatDoorKWd
import Derived.Test.YthnjgbjckggjhaaGreatDoorKDraw5
import Derived.OwnWalk
import Derived.Test.YthnjgbjckggjhaaGreatDoorKSuS
namespace Go.Proofs.YthnjgbjckggjhaaGreatDoor.subj.wide
open Go.RowKit Go.Proofs.YthnjgbjckggjhaaGreatDoor Go.Proofs.YthnjgbjckggjhaaGreatDoor.schema Go.Proofs.YthnjgbjckggjhaaGreatDoor.value Go.Proofs.YthnjgbjckggjhaaGreatDoor.text Go.Proofs.YthnjgbjckggjhaaGreatDoor.draw Go.Proofs.YthnjgbjckggjhaaGreatDoor.clause

theorem ct_cells {m : Mem} {l : List CT} {blk off : Nat} (hr : ∀ i r, (l.map CT.row)[i]? = some r → ∀ j x, r[j]? = some x → m ⟨blk, off + i * 3 + j, none⟩ = some x) {k : Nat} (hk : k < l.length) :
    m ⟨blk, off + k * 3, none⟩ = some (.string l[k].kind) ∧ m ⟨blk, off + k * 3 + 1, none⟩ = some (.string l[k].key) ∧ m ⟨blk, off + k * 3 + 2, none⟩ = some (.slice l[k].ptr l[k].len l[k].cap) := by
  have h := hr k l[k].row (by simp [hk])
  exact ⟨h 0 _ rfl, h 1 _ rfl, h 2 _ rfl⟩
theorem ad_cells {m : Mem} {l : List AD} {blk off : Nat} (hr : ∀ i r, (l.map AD.row)[i]? = some r → ∀ j x, r[j]? = some x → m ⟨blk, off + i * 5 + j, none⟩ = some x) {k : Nat} (hk : k < l.length) :
    m ⟨blk, off + k * 5, none⟩ = some (.string l[k].name) ∧ m ⟨blk, off + k * 5 + 1, none⟩ = some (.int .i64 l[k].val.kind) ∧ m ⟨blk, off + k * 5 + 2, none⟩ = some (.int .i64 l[k].val.num) ∧
      m ⟨blk, off + k * 5 + 3, none⟩ = some (.string l[k].val.text) ∧ m ⟨blk, off + k * 5 + 4, none⟩ = some (.slice l[k].val.ptr l[k].val.len l[k].val.cap) := by
  have h := hr k l[k].row (by simp [hk])
  exact ⟨h 0 _ rfl, h 1 _ rfl, h 2 _ rfl, h 3 _ rfl, h 4 _ rfl⟩

def NoC (kind : List UInt8) (l : List CT) (k : Nat) : Prop := findS kind (l.drop k) = findS kind l
theorem findS_hit {kind : List UInt8} {l : List CT} {k : Nat} (h : k < l.length) (h1 : (l[k].kind.toList == kind) = true) (T : NoC kind l k) : findS kind l = some l[k] := by
  unfold NoC at T
  rw [← T, List.drop_eq_getElem_cons h, findS, if_pos h1]
theorem findS_miss {kind : List UInt8} {l : List CT} {k : Nat} (h : k < l.length) (h1 : (l[k].kind.toList == kind) = false) (T : NoC kind l k) : NoC kind l (k + 1) := by
  unfold NoC at *
  rw [← T, List.drop_eq_getElem_cons h, findS, if_neg (by rw [h1]; decide)]
theorem findS_end {kind : List UInt8} {l : List CT} {k : Nat} (h : ¬ k < l.length) (T : NoC kind l k) : findS kind l = none := by
  unfold NoC at T
  rw [← T, List.drop_eq_nil_of_le (by omega)]; rfl
def NoA (name : List UInt8) (l : List AD) (k : Nat) : Prop := findA name (l.drop k) = findA name l
theorem findA_hit {name : List UInt8} {l : List AD} {k : Nat} (h : k < l.length) (h1 : (l[k].name.toList == name) = true) (T : NoA name l k) : findA name l = some l[k].val := by
  unfold NoA at T
  rw [← T, List.drop_eq_getElem_cons h, findA, if_pos h1]
theorem findA_miss {name : List UInt8} {l : List AD} {k : Nat} (h : k < l.length) (h1 : (l[k].name.toList == name) = false) (T : NoA name l k) : NoA name l (k + 1) := by
  unfold NoA at *
  rw [← T, List.drop_eq_getElem_cons h, findA, if_neg (by rw [h1]; decide)]
theorem findA_end {name : List UInt8} {l : List AD} {k : Nat} (h : ¬ k < l.length) (T : NoA name l k) : findA name l = none := by
  unfold NoA at T
  rw [← T, List.drop_eq_nil_of_le (by omega)]; rfl

set_option maxHeartbeats 400000 in
theorem index1_any (kd key kind : ByteArray) (pl : Value) (b : Nat) (w : World) (hp : w.cell? ⟨b, 0, none⟩ = some (.string kind)) :
    Calls Tryz.prog 37 #[.agg #[.string kd, .string key, pl], .pointer (some ⟨b, 0, none⟩)] w fun e w' => e = .returned (.bool (kd.toList == kind.toList)) ∧ Below w.heap.size w w' := by
  have hlt : b < w.heap.size := World.block_lt_of_cell? w _ hp
  go_enter Tryz.func37, Tryz.ntmps37
  go_wp2
  go_ret
  exact ⟨rfl, (Below.refl _ _).alloc (Nat.le_refl _) _⟩

/-- The place of the first context of a kind, or -1. -/
def IdxQ (kind : List UInt8) (l : List CT) (q : Int) : Prop := (∃ k, ∃ h : k < l.length, q = (k : Int) ∧ findS kind l = some l[k]) ∨ (q = -1 ∧ findS kind l = none)
def IdxIs (kind : List UInt8) (l : List CT) (e : Ending) : Prop := ∃ q, e = .returned (.int .i64 q) ∧ IdxQ kind l q

set_option maxHeartbeats 400000 in
theorem indexf_any (kind : ByteArray) (b : Nat) (vs : Value) (l : List CT) (w : World) (hp : w.cell? ⟨b, 0, none⟩ = some (.string kind)) (h : RowsAt w.cell? 3 vs (l.map CT.row)) :
    Calls Tryz.prog 36 #[vs, .func (.func 37) #[] #[.pointer (some ⟨b, 0, none⟩)]] w fun e w' => IdxIs kind.toList l e ∧ Below w.heap.size w w' := by
  obtain ⟨a, c, rfl, hn, hc, hr⟩ := h
  simp only [List.length_map] at hn
  unfold maxLen at hc
  have hr0 := Lib.hid hr
  clear hr
  rw [List.length_map]
  go_enter Tryz.func36, Tryz.ntmps36
  go_wp2
  go_loopw [5, 8] (fun _ i wr => ∃ k : Nat, k ≤ l.length ∧ i = .int .i64 k ∧ Below w.heap.size w wr ∧ Hid (NoC kind.toList l k)) (fun _ i _ => l.length - (intOf i).toNat)
  case atStart => exact ⟨0, Nat.zero_le _, rfl, Below.refl _ _, rfl⟩
  case round =>
    obtain ⟨k, hk, rfl, hb, hT⟩ := hrel
    by_cases hlt : k < l.length
    · rcases hr0.out with he | ⟨blk, off, rfl, hr⟩
      · simp only [List.map_eq_nil_iff] at he
        rw [he] at hlt
        exact absurd hlt (by simp)
      obtain ⟨c0, c1, c2⟩ := ct_cells (RowsAt.cells_mono (sub_of_below hb) hr) hlt
      clear hr
      have hp1 := cell_later hb hp
      go_wp2_with (go_at_call 37; refine (index1_any _ _ kind _ b _ hp1).mono ?_; rintro e w' ⟨rfl, hb2⟩)
      · have h1 : (l[k].kind.toList == kind.toList) = true := by assumption
        go_ret
        exact ⟨⟨_, rfl, Or.inl ⟨k, hlt, rfl, findS_hit hlt h1 hT.out⟩⟩, hb.trans (hb2.mono hb.size)⟩
      · have h1 : (l[k].kind.toList == kind.toList) = false := by assumption
        go_roundw
        case rel => exact ⟨k + 1, by omega, by go_num, hb.trans (hb2.mono hb.size), findS_miss hlt h1 hT.out⟩
        case measure => simp [intOf]; omega
    · have hE := Lib.hid (findS_end hlt hT.out)
      go_wp2
      go_ret
      exact ⟨⟨_, rfl, Or.inr ⟨rfl, hE.out⟩⟩, hb⟩

set_option maxHeartbeats 400000 in
theorem index_any (kind : ByteArray) (a : Option Addr) (n c : Nat) (l : List CT) (w : World) (h : RowsAt w.cell? 3 (.slice a n c) (l.map CT.row)) :
    Calls Tryz.prog 23 #[.agg #[.slice a n c], .string kind] w fun e w' => IdxIs kind.toList l e ∧ Below w.heap.size w w' := by
  have hB : Below w.heap.size w ((w.alloc (.cells #[.slice a n c] 24)).alloc (.cells #[.string kind] 9)) := ((Below.refl _ _).alloc (Nat.le_refl _) _).alloc (by simp) _
  have hk := Own.new (w.alloc (.cells #[.slice a n c] 24)) #[.string kind] 9
  rw [World.size_alloc] at hk
  have hk0 := hk.cell 0
  have hR := Lib.hid (h.mono (sub_of_below hB))
  replace hB := Lib.hid hB
  clear h hk
  go_enter Tryz.func23, Tryz.ntmps23
  go_wp2_with (go_at_call 36; refine (indexf_any kind (w.heap.size + 1) _ l _ hk0 hR.out).mono ?_; rintro e w' ⟨⟨q, rfl, hq⟩, hb⟩)
  go_ret
  exact ⟨⟨q, rfl, hq⟩, hB.out.trans (hb.mono hB.out.size)⟩

/-- What a look-up gives. -/
def LookIs (o : Option VD) (e : Ending) (w' : World) : Prop :=
  match o with
  | none => e = .returned (.tuple #[.agg #[.int .i64 0, .int .i64 0, .string ⟨#[]⟩, .slice none 0 0], .bool false])
  | some v => ∃ d : VD, e = .returned (.tuple #[.agg d.row.toArray, .bool true]) ∧ SameV d v ∧ LAt w'.cell? d

theorem newM_in (B b : Nat) (w : World) : Sub (newM B b w) w.cell? := by
  intro p v h
  unfold newM at h
  split at h
  · cases h
  · exact h
set_option maxHeartbeats 1000000 in
/-- A list is copied: the same texts, in new memory. -/
theorem clone_list (a : Option Addr) (n c : Nat) (ls : List ByteArray) (w : World) (h : RowsAt w.cell? 1 (.slice a n c) (ls.map strRow)) (hn : ls.length ≤ 8796093022208) (h0 : 0 < w.heap.size) :
    Calls Tryz.prog 40 #[.slice a n c] w fun e w' => (∃ a' n' c', e = .returned (.slice a' n' c') ∧ RowsAt (newM w.heap.size 0 w') 1 (.slice a' n' c') (ls.map strRow)) ∧ Below w.heap.size w w' := by
  obtain ⟨a0, c0, h1, h2, h3, h4⟩ := h
  injection h1 with e1 e2 e3
  subst e1; subst e3
  rw [List.length_map] at e2 h2
  subst e2
  rcases h4 with h4 | ⟨blk, off, rfl, hc⟩
  · have hls : ls = [] := by simpa using h4
    subst hls
    cases a with
    | none =>
      refine (Tryz.slices_Clone_string_nil 0 c w).mono ?_
      rintro e w' ⟨rfl, rfl⟩
      exact ⟨⟨none, 0, 0, rfl, rows_nil _ _⟩, Below.refl _ _⟩
    | some ad =>
      refine (Tryz.slices_Clone_string_zero ad c w).mono ?_
      rintro e w' ⟨v', rfl, ho, -, hb⟩
      obtain ⟨a', c', rfl⟩ := owns_slice ho
      exact ⟨⟨a', 0, c', rfl, rows_of_owns_new ho (Nat.le_refl _) h0 [] rfl (by simp) rfl⟩, hb⟩
  · have hcell : ∀ j, j < ls.length → w.cell? ⟨blk, off + j, none⟩ = some (.string (ls.getD j ByteArray.empty)) := by
      intro j hj
      have := hc j (strRow ls[j]) (by simp [hj]) 0 (.string ls[j]) rfl
      rw [Nat.mul_one, Nat.add_zero] at this
      rw [this]
      simp [List.getD, List.getElem?_eq_getElem hj]
    refine (Tryz.slices_Clone_string blk off ls.length c ls w (Nat.le_refl _) (by omega) hcell).mono ?_
    rintro e w' ⟨v', rfl, ho, -, hb⟩
    rw [List.take_length] at ho
    obtain ⟨a', c', rfl⟩ := owns_slice ho
    exact ⟨⟨a', ls.length, c', rfl, rows_of_owns_new ho (Nat.le_refl _) h0 (ls.map strRow) (by simp) (by simp [strRow]) (by rw [strRow_flat])⟩, hb⟩

def zeroW : Array Value := #[.int .i64 0, .int .i64 0, .string ⟨#[]⟩, .slice none 0 0]
set_option maxHeartbeats 1000000 in
/-- A value is copied: the same content, in new memory. -/
theorem clone_value (d : VD) (w : World) (h : LAt w.cell? d) :
    Calls Tryz.prog 25 #[.agg #[.int .i64 d.kind, .int .i64 d.num, .string d.text, .slice d.ptr d.len d.cap]] w fun e w' => (∃ d' : VD, e = .returned (.agg #[.int .i64 d'.kind, .int .i64 d'.num, .string d'.text, .slice d'.ptr d'.len d'.cap]) ∧ SameV d' d ∧ LAt (newM w.heap.size 0 w') d') ∧ Below w.heap.size w w' := by
  have hB : Below w.heap.size w ((w.alloc (.cells #[.int .i64 d.kind, .int .i64 d.num, .string d.text, .slice d.ptr d.len d.cap] 42)).alloc (.cells zeroW 42)) := ((Below.refl _ _).alloc (Nat.le_refl _) _).alloc (by simp) _
  have hX := Lib.hid ((Own.new w #[.int .i64 d.kind, .int .i64 d.num, .string d.text, .slice d.ptr d.len d.cap] 42).alloc (.cells zeroW 42))
  have hZ := Own.new (w.alloc (.cells #[.int .i64 d.kind, .int .i64 d.num, .string d.text, .slice d.ptr d.len d.cap] 42)) zeroW 42
  rw [World.size_alloc] at hZ
  replace hZ := Lib.hid hZ
  have hL := Lib.hid (h.mono (sub_of_below hB))
  replace hB := Lib.hid hB
  clear h
  go_enter Tryz.func25, Tryz.ntmps25
  go_wp2_with fail
  refine (clone_list d.ptr d.len d.cap d.ls _ hL.out.rows hL.out.few (by simp)).mono ?_
  rintro e w1 ⟨⟨a', n', c', rfl, hr⟩, hb⟩
  have hX1 := hX.out.below hb (by simp; omega)
  have hZ1 := hZ.out.below hb (by simp)
  obtain ⟨x0, x1, x2, x3⟩ := box4 hX1
  obtain ⟨z0, z1, z2, z3⟩ := box4 hZ1
  have f0 := hX1.free 3
  have hxl : w.heap.size < w1.heap.size := hX1.lt
  have hzl : w.heap.size + 1 < w1.heap.size := hZ1.lt
  have g0 := hZ1.free 0
  have g1 := hZ1.free 1
  have g2 := hZ1.free 2
  have g3 := hZ1.free 3
  have hL1 := Lib.hid (show LAt (newM (w.heap.size + 2) 0 w1) ⟨d.kind, d.num, d.text, a', n', c', d.ls⟩ from ⟨by simpa using hr, hL.out.text, hL.out.few⟩)
  have hB1 := Lib.hid (hB.out.trans (hb.mono hB.out.size))
  clear hr hb hX1 hZ1
  go_wp2
  refine bodyPost_ret (v := .agg #[.int .i64 d.kind, .int .i64 d.num, .string d.text, .slice a' n' c']) (by simp [results, Tryz.results25, go_sem, z0, z1, z2, z3]) rfl ?_
  refine ⟨⟨⟨d.kind, d.num, d.text, a', n', c', d.ls⟩, rfl, ⟨rfl, rfl, rfl, rfl⟩, ?_⟩, ?_⟩
  · exact LAtLow (B' := w.heap.size + 2) (LAtSet (LAtSet (LAtSet (LAtSet (LAtSet hL1.out (by simp) _) (by simp) _) (by simp) _) (by simp) _) (by simp) _) (by omega)
  · exact ((((hB1.out.setCell (by simp) _).setCell (by simp) _).setCell (by simp) _).setCell (by simp) _).setCell (by simp) _

theorem ct_at {m : Mem} {l : List CT} {a : Option Addr} {n c : Nat} (h : RowsAt m 3 (.slice a n c) (l.map CT.row)) {k : Nat} (hk : k < l.length) :
    ∃ blk off, a = some ⟨blk, off, none⟩ ∧ n = l.length ∧ n ≤ 9223372036854775807 ∧ m ⟨blk, off + k * 3, none⟩ = some (.string l[k].kind) ∧ m ⟨blk, off + k * 3 + 1, none⟩ = some (.string l[k].key) ∧ m ⟨blk, off + k * 3 + 2, none⟩ = some (.slice l[k].ptr l[k].len l[k].cap) := by
  obtain ⟨a0, c0, h1, h2, h3, h4⟩ := h
  injection h1 with e1 e2 e3
  subst e1; subst e3
  rw [List.length_map] at e2 h2
  rcases h4 with h4 | ⟨blk, off, rfl, hc⟩
  · simp only [List.map_eq_nil_iff] at h4
    rw [h4] at hk
    exact absurd hk (by simp)
  · unfold maxLen at h3
    exact ⟨blk, off, rfl, e2, by omega, ct_cells hc hk⟩
theorem ad_at {m : Mem} {l : List AD} {a : Option Addr} {n c : Nat} (h : RowsAt m 5 (.slice a n c) (l.map AD.row)) {k : Nat} (hk : k < l.length) :
    ∃ blk off, a = some ⟨blk, off, none⟩ ∧ m ⟨blk, off + k * 5, none⟩ = some (.string l[k].name) ∧ m ⟨blk, off + k * 5 + 1, none⟩ = some (.int .i64 l[k].val.kind) ∧ m ⟨blk, off + k * 5 + 2, none⟩ = some (.int .i64 l[k].val.num) ∧
      m ⟨blk, off + k * 5 + 3, none⟩ = some (.string l[k].val.text) ∧ m ⟨blk, off + k * 5 + 4, none⟩ = some (.slice l[k].val.ptr l[k].val.len l[k].val.cap) := by
  obtain ⟨a0, c0, h1, h2, h3, h4⟩ := h
  injection h1 with e1 e2 e3
  subst e1; subst e3
  rcases h4 with h4 | ⟨blk, off, rfl, hc⟩
  · simp only [List.map_eq_nil_iff] at h4
    rw [h4] at hk
    exact absurd hk (by simp)
  · exact ⟨blk, off, rfl, ad_cells hc hk⟩
theorem vd_at {m : Mem} {l : List VD} {a : Option Addr} {n c : Nat} (h : RowsAt m 4 (.slice a n c) (l.map VD.row)) {k : Nat} (hk : k < l.length) :
    ∃ blk off, a = some ⟨blk, off, none⟩ ∧ m ⟨blk, off + k * 4, none⟩ = some (.int .i64 l[k].kind) ∧ m ⟨blk, off + k * 4 + 1, none⟩ = some (.int .i64 l[k].num) ∧ m ⟨blk, off + k * 4 + 2, none⟩ = some (.string l[k].text) ∧ m ⟨blk, off + k * 4 + 3, none⟩ = some (.slice l[k].ptr l[k].len l[k].cap) := by
  obtain ⟨a0, c0, h1, h2, h3, h4⟩ := h
  injection h1 with e1 e2 e3
  subst e1; subst e3
  rcases h4 with h4 | ⟨blk, off, rfl, hc⟩
  · simp only [List.map_eq_nil_iff] at h4
    rw [h4] at hk
    exact absurd hk (by simp)
  · exact ⟨blk, off, rfl, vd_cells hc hk⟩
theorem len_of {m : Mem} {sz : Nat} {rows : List (List Value)} {a : Option Addr} {n c : Nat} (h : RowsAt m sz (.slice a n c) rows) : n = rows.length ∧ n ≤ 9223372036854775807 := by
  obtain ⟨a0, c0, h1, h2, h3, -⟩ := h
  injection h1 with e1 e2 e3
  unfold maxLen at h3
  exact ⟨e2, by omega⟩
theorem own5z {w : World} {n : Nat} {x0 x1 x2 x3 x4 : Value} {t : TypeId} (h : Own w n #[x0, x1, x2, x3, x4] t) :
    w.cell? ⟨n, 0, none⟩ = some x0 ∧ w.cell? ⟨n, 1, none⟩ = some x1 ∧ w.cell? ⟨n, 2, none⟩ = some x2 ∧ w.cell? ⟨n, 3, none⟩ = some x3 ∧ w.cell? ⟨n, 4, none⟩ = some x4 :=
  ⟨h.cell 0, h.cell 1, h.cell 2, h.cell 3, h.cell 4⟩
theorem own3c {w : World} {n : Nat} {x0 x1 x2 : Value} {t : TypeId} (h : Own w n #[x0, x1, x2] t) : w.cell? ⟨n, 0, none⟩ = some x0 ∧ w.cell? ⟨n, 1, none⟩ = some x1 ∧ w.cell? ⟨n, 2, none⟩ = some x2 := ⟨h.cell 0, h.cell 1, h.cell 2⟩
theorem own4z {w : World} {n : Nat} {x0 x1 x2 x3 : Value} {t : TypeId} (h : Own w n #[x0, x1, x2, x3] t) :
    w.cell? ⟨n, 0, none⟩ = some x0 ∧ w.cell? ⟨n, 1, none⟩ = some x1 ∧ w.cell? ⟨n, 2, none⟩ = some x2 ∧ w.cell? ⟨n, 3, none⟩ = some x3 ∧
    w.frozen? ⟨n, 0, none⟩ = false ∧ w.frozen? ⟨n, 1, none⟩ = false ∧ w.frozen? ⟨n, 2, none⟩ = false ∧ w.frozen? ⟨n, 3, none⟩ = false :=
  ⟨h.cell 0, h.cell 1, h.cell 2, h.cell 3, h.free 0, h.free 1, h.free 2, h.free 3⟩
theorem look_none {l : List CT} {kind name : List UInt8} (h : findS kind l = none) : lookS l kind name = none := by unfold lookS; rw [h]
theorem look_key {l : List CT} {c : CT} {kind name : List UInt8} (h : findS kind l = some c) (hn : (name == [107, 101, 121]) = true) : lookS l kind name = some (keyV c.key) := by unfold lookS; rw [h]; simp only; rw [if_pos hn]
theorem look_attr {l : List CT} {c : CT} {kind name : List UInt8} (h : findS kind l = some c) (hn : (name == [107, 101, 121]) = false) : lookS l kind name = findA name c.attrs := by unfold lookS; rw [h]; simp only; rw [if_neg (by rw [hn]; decide)]
theorem findS_mem {kind : List UInt8} {l : List CT} {c : CT} (h : findS kind l = some c) : c ∈ l := by
  induction l with
  | nil => cases h
  | cons x r ih =>
    rw [findS] at h
    split at h
    · injection h with h; rw [h]; exact List.mem_cons_self
    · exact List.mem_cons_of_mem _ (ih h)

set_option maxRecDepth 100000 in
set_option maxHeartbeats 2000000 in
/-- The program's Lookup. -/
theorem look_any (l : List CT) (a : Option Addr) (n c : Nat) (kind name : ByteArray) (w : World) (h : SAt w.cell? (.slice a n c) l) :
    Calls Tryz.prog 13 #[.agg #[.slice a n c], .string kind, .string name] w fun e w' => LookIs (lookS l kind.toList name.toList) e w' ∧ Below w.heap.size w w' := by
  have hB : Below w.heap.size w ((w.alloc (.cells #[.slice a n c] 24)).alloc (.cells zeroW 42)) := ((Below.refl _ _).alloc (Nat.le_refl _) _).alloc (by simp) _
  have hX := Lib.hid ((Own.new w #[.slice a n c] 24).alloc (.cells zeroW 42))
  have hZ := Own.new (w.alloc (.cells #[.slice a n c] 24)) zeroW 42
  rw [World.size_alloc] at hZ
  replace hZ := Lib.hid hZ
  have hS := Lib.hid (h.mono (sub_of_below hB))
  replace hB := Lib.hid hB
  clear h
  go_enter Tryz.func13, Tryz.ntmps13
  go_wp2_with fail
  refine (index_any kind a n c l _ hS.out.rows).mono ?_
  rintro e w1 ⟨⟨q, rfl, hq⟩, hb⟩
  have hX1 := Lib.hid (hX.out.below hb (by simp; omega))
  have hZ1 := Lib.hid (hZ.out.below hb (by simp))
  have hS1 := Lib.hid (hS.out.mono (sub_of_below hb))
  have hB1 := Lib.hid (hB.out.trans (hb.mono hB.out.size))
  clear hX hZ hS hB hb
  obtain ⟨z0, z1, z2, z3, g0, g1, g2, g3⟩ := own4z hZ1.out
  have hzl : w.heap.size + 1 < w1.heap.size := hZ1.out.lt
  have hxl : w.heap.size < w1.heap.size := by omega
  have x0 := hX1.out.cell 0
  rcases hq with ⟨k, hk, rfl, hf⟩ | ⟨rfl, hf⟩
  case inr =>
    replace hf := Lib.hid hf
    go_wp2
    refine bodyPost_ret (v := .tuple #[.agg #[.int .i64 0, .int .i64 0, .string ⟨#[]⟩, .slice none 0 0], .bool false]) (by simp [results, Tryz.results13, go_sem, z0, z1, z2, z3]) rfl ?_
    refine ⟨?_, (((hB1.out.setCell (by simp <;> omega) _).setCell (by simp <;> omega) _).setCell (by simp <;> omega) _).setCell (by simp <;> omega) _⟩
    rw [look_none hf.out]
    rfl
  obtain ⟨blk, off, rfl, rfl, hn, c0, c1, c2⟩ := ct_at hS1.out.rows hk
  have hCt := Lib.hid (hS1.out.each l[k] (List.getElem_mem hk))
  generalize l[k] = ct at c0 c1 c2 hCt hf
  obtain ⟨ckd, cky, cp, cl, cc, attrs⟩ := ct
  simp only at c0 c1 c2
  replace hf := Lib.hid hf
  have n0 : (0 : Int) ≤ (k : Int) := by omega
  have n1 : (k : Int) < (l.length : Int) := by omega
  cases hn : (name.toList == [107, 101, 121]) with
  | true =>
    have hn1 := Lib.hid hn
    go_wp2
    refine bodyPost_ret (v := .tuple #[.agg #[.int .i64 3, .int .i64 0, .string cky, .slice none 0 0], .bool true]) (by simp [results, Tryz.results13, go_sem, z0, z1, z2, z3, hzl]) rfl ?_
    refine ⟨?_, ((((hB1.out.setCell (by simp <;> omega) _).setCell (by simp <;> omega) _).setCell (by simp <;> omega) _).setCell (by simp <;> omega) _).alloc (by simp; have := hB1.out.size; omega) _⟩
    rw [look_key hf.out hn1.out]
    exact ⟨keyV cky, rfl, ⟨rfl, rfl, rfl, rfl⟩, LAt.flat _ _ _ _ hCt.out.key⟩
  | false =>
    have hn1 := Lib.hid hn
    have hcl := (len_of hCt.out.rows).1
    have hcm := (len_of hCt.out.rows).2
    simp only [List.length_map] at hcl
    subst hcl
    simp only at hcm
    go_wp2_with fail
    have hb2 : Below w1.heap.size w1 (w1.alloc (.cells #[.string ckd, .string cky, .slice cp attrs.length cc] 37)) := (Below.refl _ _).alloc (Nat.le_refl _) _
    have hB2 := Lib.hid (hB1.out.trans (hb2.mono hB1.out.size))
    have hZ2 := Lib.hid (hZ1.out.below hb2 hzl)
    have hC2 := Lib.hid (hCt.out.mono (sub_of_below hb2))
    clear hb2 hCt hB1 hZ1 hS1 hX1 c0 c1 c2 x0 z0 z1 z2 z3 g0 g1 g2 g3
    generalize w1.alloc (.cells #[.string ckd, .string cky, .slice cp attrs.length cc] 37) = w2 at hB2 hZ2 hC2 ⊢
    have hzl2 : w.heap.size + 1 < w2.heap.size := hZ2.out.lt
    go_loopw [31] (fun s31 wr => ∃ i : Nat, i ≤ attrs.length ∧ s31 = .int .i64 i ∧ Hid (Below w2.heap.size w2 wr) ∧ Hid (NoA name.toList attrs i)) (fun s31 _ => attrs.length - (intOf s31).toNat)
    case atStart => exact ⟨0, by omega, rfl, Lib.hid (Below.refl _ _), Lib.hid rfl⟩
    case round =>
      obtain ⟨i, hi, rfl, hBw, hNo⟩ := hrel
      have hZw := hZ2.out.below hBw.out hzl2
      have hBx := Lib.hid (hB2.out.trans (hBw.out.mono hB2.out.size))
      obtain ⟨z0, z1, z2, z3, g0, g1, g2, g3⟩ := own4z hZw
      have hzw : w.heap.size + 1 < wr.heap.size := hZw.lt
      replace hZw := Lib.hid hZw
      by_cases hil : i < attrs.length
      case neg =>
        have hE := Lib.hid (findA_end hil hNo.out)
        go_wp2
        refine bodyPost_ret (v := .tuple #[.agg #[.int .i64 0, .int .i64 0, .string ⟨#[]⟩, .slice none 0 0], .bool false]) (by simp [results, Tryz.results13, go_sem, z0, z1, z2, z3]) rfl ?_
        refine ⟨?_, (((hBx.out.setCell (by simp <;> omega) _).setCell (by simp <;> omega) _).setCell (by simp <;> omega) _).setCell (by simp <;> omega) _⟩
        rw [look_attr hf.out hn1.out]
        simp only
        rw [hE.out]
        rfl
      obtain ⟨ab, ao, rfl, a0, a1, a2, a3, a4⟩ := ad_at (hC2.out.rows.mono (sub_of_below hBw.out)) hil
      have hAt := Lib.hid ((hC2.out.each attrs[i] (List.getElem_mem hil)).mono (sub_of_below hBw.out))
      have i0 : (0 : Int) ≤ (i : Int) := by omega
      have i1 : (i : Int) < (attrs.length : Int) := by omega
      have hHit := Lib.hid (fun h1 => findA_hit hil h1 hNo.out)
      have hMiss := Lib.hid (fun h1 => findA_miss hil h1 hNo.out)
      have hab : ab < wr.heap.size := World.block_lt_of_cell? wr _ a0
      generalize attrs[i] = at' at a0 a1 a2 a3 a4 hAt hHit hMiss
      obtain ⟨an, av⟩ := at'
      simp only at a0 a1 a2 a3 a4
      cases hne : (an.toList == name.toList) with
      | false =>
        have hN := Lib.hid (hMiss.out hne)
        clear hHit hMiss hAt
        have hBy := Lib.hid (hBw.out.alloc hBw.out.size (.cells #[.string an, .int .i64 av.kind, .int .i64 av.num, .string av.text, .slice av.ptr av.len av.cap] 56))
        go_wp2
        go_roundw
        case rel => exact ⟨i + 1, by omega, by go_num, hBy, hN⟩
        case measure => simp [intOf]; omega
      | true =>
        have hN := Lib.hid (hHit.out hne)
        clear hHit hMiss
        have hb3 : Below wr.heap.size wr (wr.alloc (.cells #[.string an, .int .i64 av.kind, .int .i64 av.num, .string av.text, .slice av.ptr av.len av.cap] 56)) := (Below.refl _ _).alloc (Nat.le_refl _) _
        have hL3 := Lib.hid (hAt.out.mono (sub_of_below hb3))
        have hZ3 := Lib.hid (hZw.out.below hb3 hzw)
        have hB3 := Lib.hid (hBx.out.trans (hb3.mono hBx.out.size))
        clear hb3
        go_wp2_with fail
        refine (clone_value av _ hL3.out).mono ?_
        rintro e w4 ⟨⟨d', rfl, hsv, hLd⟩, hb4⟩
        have hZ4 := hZ3.out.below hb4 (by simp; omega)
        have hB4 := Lib.hid (hB3.out.trans (hb4.mono hB3.out.size))
        have hL4 := Lib.hid (LAtLow (B := w.heap.size + 2) hLd (by simp; omega))
        clear hLd hb4 z0 z1 z2 z3 g0 g1 g2 g3 a0 a1 a2 a3 a4 hL3 hZ3 hB3
        obtain ⟨z0, z1, z2, z3, g0, g1, g2, g3⟩ := own4z hZ4
        have hz4 : w.heap.size + 1 < w4.heap.size := hZ4.lt
        replace hsv := Lib.hid hsv
        go_wp2
        refine bodyPost_ret (v := .tuple #[.agg #[.int .i64 d'.kind, .int .i64 d'.num, .string d'.text, .slice d'.ptr d'.len d'.cap], .bool true]) (by simp [results, Tryz.results13, go_sem, z0, z1, z2, z3]) rfl ?_
        refine ⟨?_, (((hB4.out.setCell (by simp <;> omega) _).setCell (by simp <;> omega) _).setCell (by simp <;> omega) _).setCell (by simp <;> omega) _⟩
        rw [look_attr hf.out hn1.out]
        simp only
        rw [hN.out]
        exact ⟨d', rfl, hsv.out, (LAtSet (LAtSet (LAtSet (LAtSet hL4.out (by simp) _) (by simp) _) (by simp) _) (by simp) _).mono (newM_in _ _ _)⟩

end Go.Proofs.YthnjgbjckggjhaaGreatDoor.subj.wide

namespace Go.Proofs.YthnjgbjckggjhaaGreatDoor.subj.wide
open Go.RowKit Go.Proofs.YthnjgbjckggjhaaGreatDoor Go.Proofs.YthnjgbjckggjhaaGreatDoor.schema Go.Proofs.YthnjgbjckggjhaaGreatDoor.value Go.Proofs.YthnjgbjckggjhaaGreatDoor.text Go.Proofs.YthnjgbjckggjhaaGreatDoor.draw Go.Proofs.YthnjgbjckggjhaaGreatDoor.clause

/-- Two lists of one content. -/
def SameL (l' l : List VD) : Prop := l'.length = l.length ∧ ∀ i (h' : i < l'.length) (h : i < l.length), SameV l'[i] l[i]
theorem SameL.snoc {l' l : List VD} {k : Nat} {d : VD} (h : SameL l' (l.take k)) (hk : k < l.length) (hd : SameV d l[k]) : SameL (l' ++ [d]) (l.take (k + 1)) := by
  have hl := h.1
  rw [List.length_take, Nat.min_eq_left (by omega)] at hl
  refine ⟨by simp [hl]; omega, fun i h1 h2 => ?_⟩
  rw [List.length_append, List.length_singleton] at h1
  rcases Nat.lt_or_ge i k with hi | hi
  · rw [List.getElem_append_left (by omega), List.getElem_take]
    have := h.2 i (by omega) (by simp; omega)
    rw [List.getElem_take] at this
    exact this
  · obtain rfl : i = k := by omega
    rw [List.getElem_append_right (by omega), List.getElem_take]
    simp only [hl, Nat.sub_self, List.getElem_cons_zero]
    exact hd

/-- What the copying loop holds: so many copies in a row of the call's own, each with its list in other new memory. -/
structure RelV (w wr : World) (l : List VD) (k : Nat) (va : Option Addr) (vc : Nat) (acc : List VD) : Prop where
  low : Below w.heap.size w wr
  own : wr.ownsRow w.heap.size 42 4 (.slice va k vc) k (acc.map VD.row).flatten
  lats : ∀ u ∈ acc, LAt (newG w.heap.size 0 (Value.slice va k vc).ownBlock wr) u
  same : SameL acc (l.take k)

end Go.Proofs.YthnjgbjckggjhaaGreatDoor.subj.wide

namespace Go.Proofs.YthnjgbjckggjhaaGreatDoor.subj.wide
open Go.RowKit Go.Proofs.YthnjgbjckggjhaaGreatDoor Go.Proofs.YthnjgbjckggjhaaGreatDoor.schema Go.Proofs.YthnjgbjckggjhaaGreatDoor.value Go.Proofs.YthnjgbjckggjhaaGreatDoor.text Go.Proofs.YthnjgbjckggjhaaGreatDoor.clause Go.Proofs.YthnjgbjckggjhaaGreatDoor.draw

/-- Two lists that are alike element by element. -/
def Alike {α : Type} (R : α → α → Prop) (l' l : List α) : Prop := l'.length = l.length ∧ ∀ i (h' : i < l'.length) (h : i < l.length), R l'[i] l[i]
theorem Alike.snoc {α : Type} {R : α → α → Prop} {l' l : List α} {k : Nat} {d : α} (h : Alike R l' (l.take k)) (hk : k < l.length) (hd : R d l[k]) : Alike R (l' ++ [d]) (l.take (k + 1)) := by
  have hl := h.1
  rw [List.length_take, Nat.min_eq_left (by omega)] at hl
  refine ⟨by simp [hl]; omega, fun i h1 h2 => ?_⟩
  rw [List.length_append, List.length_singleton] at h1
  rcases Nat.lt_or_ge i k with hi | hi
  · rw [List.getElem_append_left (by omega), List.getElem_take]
    have := h.2 i (by omega) (by simp; omega)
    rw [List.getElem_take] at this
    exact this
  · obtain rfl : i = k := by omega
    rw [List.getElem_append_right (by omega), List.getElem_take]
    simp only [hl, Nat.sub_self, List.getElem_cons_zero]
    exact hd
def SameA (a' a : AD) : Prop := a'.name = a.name ∧ SameV a'.val a.val
def SameC (c' c : CT) : Prop := c'.kind = c.kind ∧ c'.key = c.key ∧ Alike SameA c'.attrs c.attrs
def AAt (m : Mem) (a : AD) : Prop := LAt m a.val
theorem AAt.mono {m m' : Mem} (hs : Sub m m') {a : AD} (h : AAt m a) : AAt m' a := LAt.mono hs h
theorem ad_one' (d : AD) : ∀ u ∈ d.row, u.oneCell' = true := by simp [AD.row, VD.row, Value.oneCell']
theorem ct_one' (d : CT) : ∀ u ∈ d.row, u.oneCell' = true := by simp [CT.row, Value.oneCell']
theorem info5 : (Tryz.prog.info? 56).map (fun i => (i.zero, i.size, i.bytes)) = some (some (.agg #[.string ⟨#[]⟩, .int .i64 0, .int .i64 0, .string ⟨#[]⟩, .slice none 0 0]), 5, 72) := by kernel_rfl
theorem info3 : (Tryz.prog.info? 37).map (fun i => (i.zero, i.size, i.bytes)) = some (some (.agg #[.string ⟨#[]⟩, .string ⟨#[]⟩, .slice none 0 0]), 3, 56) := by kernel_rfl

set_option maxHeartbeats 1000000 in
/-- An attribute is copied. -/
theorem clone_attr (d : AD) (w : World) (h : AAt w.cell? d) :
    Calls Tryz.prog 39 #[.agg #[.string d.name, .int .i64 d.val.kind, .int .i64 d.val.num, .string d.val.text, .slice d.val.ptr d.val.len d.val.cap]] w fun e w' => (∃ d' : AD, e = .returned (.agg #[.string d'.name, .int .i64 d'.val.kind, .int .i64 d'.val.num, .string d'.val.text, .slice d'.val.ptr d'.val.len d'.val.cap]) ∧ SameA d' d ∧ AAt (newM w.heap.size 0 w') d') ∧ Below w.heap.size w w' := by
  have hB : Below w.heap.size w ((w.alloc (.cells #[.string d.name, .int .i64 d.val.kind, .int .i64 d.val.num, .string d.val.text, .slice d.val.ptr d.val.len d.val.cap] 56)).alloc (.cells #[.string ⟨#[]⟩, .int .i64 0, .int .i64 0, .string ⟨#[]⟩, .slice none 0 0] 56)) := ((Below.refl _ _).alloc (Nat.le_refl _) _).alloc (by simp) _
  have hX := Lib.hid ((Own.new w #[.string d.name, .int .i64 d.val.kind, .int .i64 d.val.num, .string d.val.text, .slice d.val.ptr d.val.len d.val.cap] 56).alloc (.cells #[.string ⟨#[]⟩, .int .i64 0, .int .i64 0, .string ⟨#[]⟩, .slice none 0 0] 56))
  have hZ := Own.new (w.alloc (.cells #[.string d.name, .int .i64 d.val.kind, .int .i64 d.val.num, .string d.val.text, .slice d.val.ptr d.val.len d.val.cap] 56)) #[.string ⟨#[]⟩, .int .i64 0, .int .i64 0, .string ⟨#[]⟩, .slice none 0 0] 56
  rw [World.size_alloc] at hZ
  replace hZ := Lib.hid hZ
  have hL := Lib.hid (h.mono (sub_of_below hB))
  replace hB := Lib.hid hB
  clear h
  go_enter Tryz.func39, Tryz.ntmps39
  go_wp2_with fail
  refine (clone_value d.val _ hL.out).mono ?_
  rintro e w1 ⟨⟨v', rfl, hsv, hr⟩, hb⟩
  have hX1 := hX.out.below hb (by simp; omega)
  have hZ1 := hZ.out.below hb (by simp)
  obtain ⟨x0, x1, x2, x3, x4⟩ := own5z hX1
  obtain ⟨z0, z1, z2, z3, z4⟩ := own5z hZ1
  have f1 := hX1.free 1
  have f2 := hX1.free 2
  have f3 := hX1.free 3
  have f4 := hX1.free 4
  have hxl : w.heap.size < w1.heap.size := hX1.lt
  have hzl : w.heap.size + 1 < w1.heap.size := hZ1.lt
  have g0 := hZ1.free 0
  have g1 := hZ1.free 1
  have g2 := hZ1.free 2
  have g3 := hZ1.free 3
  have g4 := hZ1.free 4
  have hL1 := Lib.hid (show LAt (newM (w.heap.size + 2) 0 w1) v' by simpa using hr)
  have hB1 := Lib.hid (hB.out.trans (hb.mono hB.out.size))
  replace hsv := Lib.hid hsv
  clear hr hb hX1 hZ1
  go_wp2
  refine bodyPost_ret (v := .agg #[.string d.name, .int .i64 v'.kind, .int .i64 v'.num, .string v'.text, .slice v'.ptr v'.len v'.cap]) (by simp [results, Tryz.results39, go_sem, z0, z1, z2, z3, z4]) rfl ?_
  refine ⟨⟨⟨d.name, v'⟩, rfl, ⟨rfl, hsv.out⟩, ?_⟩, ?_⟩
  · exact (show LAt (newM w.heap.size 0 _) v' from LAtLow (B' := w.heap.size + 2) (LAtSet (LAtSet (LAtSet (LAtSet (LAtSet (LAtSet (LAtSet (LAtSet (LAtSet hL1.out (by simp) _) (by simp) _) (by simp) _) (by simp) _) (by simp) _) (by simp) _) (by simp) _) (by simp) _) (by simp) _) (by omega))
  · exact ((((((((hB1.out.setCell (by simp) _).setCell (by simp) _).setCell (by simp) _).setCell (by simp) _).setCell (by simp) _).setCell (by simp) _).setCell (by simp) _).setCell (by simp) _).setCell (by simp) _

/-- What the copying loop holds: so many copies in a row of the call's own, each with what it refers to in other new memory. -/
structure RelA (w wr : World) (l : List AD) (k : Nat) (va : Option Addr) (vc : Nat) (acc : List AD) : Prop where
  low : Below w.heap.size w wr
  own : wr.ownsRow w.heap.size 56 5 (.slice va k vc) k (acc.map AD.row).flatten
  lats : ∀ u ∈ acc, AAt (newG w.heap.size 0 (Value.slice va k vc).ownBlock wr) u
  same : Alike SameA acc (l.take k)

set_option maxRecDepth 100000 in
set_option maxHeartbeats 4000000 in
theorem eachA (l : List AD) (a : Option Addr) (n c : Nat) (w : World) (h : RowsAt w.cell? 5 (.slice a n c) (l.map AD.row)) (hL : ∀ v ∈ l, AAt w.cell? v) (hn : l.length ≤ 1099511627776) (h0 : 0 < w.heap.size) :
    Calls Tryz.prog 38 #[.slice a n c, .func (.func 39) #[] #[]] w fun e w' => (∃ a' c' l', e = .returned (.slice a' l.length c') ∧ Alike SameA l' l ∧ RowsAt (newM w.heap.size 0 w') 5 (.slice a' l.length c') (l'.map AD.row) ∧ ∀ u ∈ l', AAt (newM w.heap.size 0 w') u) ∧ Below w.heap.size w w' := by
  have hln := (len_of h).1
  simp only [List.length_map] at hln
  subst hln
  have hR := Lib.hid h
  replace hL := Lib.hid hL
  clear h
  obtain ⟨i0, hi, hz0, hz1, hz2⟩ := info_parts info5
  go_enter Tryz.func38, Tryz.ntmps38
  go_wp2_with (at_make; refine wpList_make_own _ rfl _ _ 35 rfl w.heap.size 56 i0 (.agg #[.string ⟨#[]⟩, .int .i64 0, .int .i64 0, .string ⟨#[]⟩, .slice none 0 0]) 5 Tryz.underlying35 hi hz0 hz1 _ _ _ l.length rfl rfl rfl ?b2 ?b3 (Nat.le_refl _) ?_)
  case b2 => rw [hz2]; omega
  case b3 => unfold maxLen; omega
  intro w0 hown0 hgrow0
  have hb0 : Below w.heap.size w w0 := ⟨hgrow0.os, hgrow0.tape, hgrow0.output, hgrow0.size, fun k hk => hgrow0.block k hk (by simp)⟩
  have hS := Lib.hid (show RelA w w0 l 0 (some ⟨w.heap.size, 0, none⟩) l.length [] from ⟨hb0, hown0, (fun u hu => by cases hu), ⟨by simp, (fun i h1 => by simp at h1)⟩⟩)
  clear hown0 hgrow0 hb0
  go_wp2
  go_loopw [5, 13] (fun s5 s13 wr => ∃ (k : Nat) (va : Option Addr) (vc : Nat) (acc : List AD), k ≤ l.length ∧ s13 = .int .i64 k ∧ s5 = .slice va k vc ∧ Hid (RelA w wr l k va vc acc)) (fun _ s13 _ => l.length - (intOf s13).toNat)
  case atStart => exact ⟨0, some ⟨w.heap.size, 0, none⟩, l.length, [], by omega, rfl, rfl, hS⟩
  case round =>
    clear hS
    obtain ⟨k, va, vc, acc, hk, rfl, rfl, hK⟩ := hrel
    by_cases hlt : k < l.length
    case neg =>
      obtain rfl : k = l.length := by omega
      go_wp2
      go_ret
      have hsm := hK.out.same
      rw [List.take_length] at hsm
      have hacc := hsm.1
      refine ⟨⟨va, vc, acc, rfl, hsm, ?_, fun u hu => (hK.out.lats u hu).mono (newG_none _ _ _ _)⟩, hK.out.low⟩
      exact RowsAt.mono (newM_mono (Nat.le_refl _) 0 wr) (rows_of_owns_new hK.out.own (Nat.le_refl _) h0 (acc.map AD.row) (by simp [hacc]) (by intro r hr; obtain ⟨d, -, rfl⟩ := List.mem_map.1 hr; rfl) rfl)
    obtain ⟨blk, off, rfl, v0, v1, v2, v3, v4⟩ := ad_at (hR.out.mono (sub_of_below hK.out.low)) hlt
    have hLk := (hL.out l[k] (List.getElem_mem hlt)).mono (sub_of_below hK.out.low)
    have n0 : (0 : Int) ≤ (k : Int) := by omega
    have n1 : (k : Int) < (l.length : Int) := by omega
    have hbl : blk < wr.heap.size := World.block_lt_of_cell? wr _ v0
    have hsn := Lib.hid (fun (d : AD) (hd : SameA d l[k]) => hK.out.same.snoc hlt hd)
    generalize l[k] = x at v0 v1 v2 v3 v4 hLk hsn
    have hb1 : Below wr.heap.size wr (wr.alloc (.cells #[.string x.name, .int .i64 x.val.kind, .int .i64 x.val.num, .string x.val.text, .slice x.val.ptr x.val.len x.val.cap] 56)) := (Below.refl _ _).alloc (Nat.le_refl _) _
    have hLk1 := Lib.hid (hLk.mono (sub_of_below hb1))
    have hwr : w.heap.size ≤ wr.heap.size := hK.out.low.size
    replace hb1 := Lib.hid hb1
    clear hLk
    go_wp2_with fail
    refine (clone_attr x _ hLk1.out).mono ?_
    rintro e w4 ⟨⟨d', rfl, hsv, hLd⟩, hb4⟩
    have hbb := hb1.out.trans (hb4.mono hb1.out.size)
    have hsz4 : wr.heap.size + 1 ≤ w4.heap.size := by have := hb4.size; simpa using this
    have hsm := Lib.hid (hsn.out d' hsv)
    have hltO : ∀ j, (Value.slice va k vc).ownBlock = some j → j < wr.heap.size := fun j hj => (hK.out.own.lt j hj).2
    have hown5 := Lib.hid ((owns_kept hK.out.own (grown_of_below hbb (some 0)) h0).alloc (.cells #[.string d'.name, .int .i64 d'.val.kind, .int .i64 d'.val.num, .string d'.val.text, .slice d'.val.ptr d'.val.len d'.val.cap] 56))
    have hLs4 : ∀ u ∈ acc ++ [d'], AAt (newG w.heap.size 0 (Value.slice va k vc).ownBlock w4) u := by
      intro u hu
      rcases List.mem_append.1 hu with hu | hu
      · exact (hK.out.lats u hu).mono (newG_grown (grown_of_below hbb (some 0)))
      · obtain rfl := List.mem_singleton.1 hu
        exact hLd.mono (newM_newG (by simp; omega) (fun j hj => by have := hltO j hj; simp; omega) w4)
    replace hLs4 := Lib.hid hLs4
    have hB4 := Lib.hid (hK.out.low.trans (hbb.mono hwr))
    have hB4s : w.heap.size ≤ w4.heap.size := by omega
    have hltO4 := Lib.hid hltO
    clear hbb hb4 hLd hb1 hsn hLk1 hltO v0 v1 v2 v3 v4
    go_wp2_with (at_builtin; refine wpList_append_lies _ rfl _ _ 35 rfl w.heap.size 56 i0 (.agg #[.string ⟨#[]⟩, .int .i64 0, .int .i64 0, .string ⟨#[]⟩, .slice none 0 0]) 5 72 Tryz.underlying35 hi hz0 hz1 hz2 rfl (by decide) (.slice va k vc) k (acc.map AD.row).flatten rfl hown5.out ⟨w4.heap.size, 0, none⟩ 1 1 [.string d'.name, .int .i64 d'.val.kind, .int .i64 d'.val.num, .string d'.val.text, .slice d'.val.ptr d'.val.len d'.val.cap] rfl rfl (World.news_of_block (cs := #[.string d'.name, .int .i64 d'.val.kind, .int .i64 d'.val.num, .string d'.val.text, .slice d'.val.ptr d'.val.len d'.val.cap]) (t := 56) (fr := (0, 0)) (Own.new' rfl)) (ad_one' d') (by omega) (by unfold maxLen; omega) (by omega) (by simp; omega) (w4.heap.size + 1) (by simp) ?_; intro g cap w6 hown6 hgrow6 hat6 hgl6; replace hown6 := Lib.hid hown6; replace hat6 := Lib.hid hat6; replace hgrow6 := Lib.hid hgrow6)
    have hat : (Value.slice va k vc).ownBlock = some g ∨ g = (w4.alloc (.cells #[.string d'.name, .int .i64 d'.val.kind, .int .i64 d'.val.num, .string d'.val.text, .slice d'.val.ptr d'.val.len d'.val.cap] 56)).heap.size := hat6.out.imp id (fun e => by rw [e]; simp)
    have mX : Sub (newG w.heap.size 0 (Value.slice va k vc).ownBlock w4) (newG w.heap.size 0 (some g) w6) := (newG_grown (World.grownBy_alloc w4 _ _)).trans (newG_app hgrow6.out hat)
    have hK6 := Lib.hid (show RelA w w6 l (k + 1) (some ⟨g, 0, none⟩) cap (acc ++ [d']) from ⟨(hB4.out.alloc hB4s _).grown hgrow6.out (by simp; omega) (fun j hj => (hown5.out.lt j hj).1), by simpa [AD.row, VD.row] using hown6.out, fun u hu => (hLs4.out u hu).mono mX, hsm.out⟩)
    clear hat mX hown6 hgrow6 hat6 hown5 hLs4 hB4 hsm hltO4
    go_wp2
    go_roundw
    case rel => exact ⟨k + 1, _, _, _, by omega, by go_num, rfl, hK6⟩
    case measure => simp [intOf]; omega

set_option maxHeartbeats 1000000 in
/-- A context is copied. -/
theorem clone_context (d : CT) (w : World) (h : CAt w.cell? d) (hs : d.attrs.length ≤ 1099511627776) :
    Calls Tryz.prog 24 #[.agg #[.string d.kind, .string d.key, .slice d.ptr d.len d.cap]] w fun e w' => (∃ d' : CT, e = .returned (.agg #[.string d'.kind, .string d'.key, .slice d'.ptr d'.len d'.cap]) ∧ SameC d' d ∧ CAt (newM w.heap.size 0 w') d') ∧ Below w.heap.size w w' := by
  have hB : Below w.heap.size w ((w.alloc (.cells #[.string d.kind, .string d.key, .slice d.ptr d.len d.cap] 37)).alloc (.cells #[.string ⟨#[]⟩, .string ⟨#[]⟩, .slice none 0 0] 37)) := ((Below.refl _ _).alloc (Nat.le_refl _) _).alloc (by simp) _
  have hX := Lib.hid ((Own.new w #[.string d.kind, .string d.key, .slice d.ptr d.len d.cap] 37).alloc (.cells #[.string ⟨#[]⟩, .string ⟨#[]⟩, .slice none 0 0] 37))
  have hZ := Own.new (w.alloc (.cells #[.string d.kind, .string d.key, .slice d.ptr d.len d.cap] 37)) #[.string ⟨#[]⟩, .string ⟨#[]⟩, .slice none 0 0] 37
  rw [World.size_alloc] at hZ
  replace hZ := Lib.hid hZ
  have hL := Lib.hid (h.mono (sub_of_below hB))
  replace hB := Lib.hid hB
  clear h
  go_enter Tryz.func24, Tryz.ntmps24
  go_wp2_with fail
  refine (eachA d.attrs d.ptr d.len d.cap _ hL.out.rows hL.out.each hs (by simp)).mono ?_
  rintro e w1 ⟨⟨a', c', l', rfl, hsv, hr, hE⟩, hb⟩
  have hX1 := hX.out.below hb (by simp; omega)
  have hZ1 := hZ.out.below hb (by simp)
  obtain ⟨x0, x1, x2⟩ := own3c hX1
  obtain ⟨z0, z1, z2⟩ := own3c hZ1
  have f2 := hX1.free 2
  have hxl : w.heap.size < w1.heap.size := hX1.lt
  have hzl : w.heap.size + 1 < w1.heap.size := hZ1.lt
  have g0 := hZ1.free 0
  have g1 := hZ1.free 1
  have g2 := hZ1.free 2
  have hL1 := Lib.hid (show CAt (newM (w.heap.size + 2) 0 w1) ⟨d.kind, d.key, a', d.attrs.length, c', l'⟩ from ⟨by simpa using hr, fun u hu => by have := hE u hu; rw [World.size_alloc, World.size_alloc] at this; exact this, hL.out.key⟩)
  have hB1 := Lib.hid (hB.out.trans (hb.mono hB.out.size))
  replace hsv := Lib.hid hsv
  clear hr hE hb hX1 hZ1
  go_wp2
  refine bodyPost_ret (v := .agg #[.string d.kind, .string d.key, .slice a' d.attrs.length c']) (by simp [results, Tryz.results24, go_sem, z0, z1, z2]) rfl ?_
  refine ⟨⟨⟨d.kind, d.key, a', d.attrs.length, c', l'⟩, rfl, ⟨rfl, rfl, hsv.out⟩, ?_⟩, ?_⟩
  · have hq : CAt (newM (w.heap.size + 2) 0 ((((w1.setCell ⟨w.heap.size, 2, none⟩ (.slice a' d.attrs.length c')).setCell ⟨w.heap.size + 1, 0, none⟩ (.string d.kind)).setCell ⟨w.heap.size + 1, 1, none⟩ (.string d.key)).setCell ⟨w.heap.size + 1, 2, none⟩ (.slice a' d.attrs.length c'))) ⟨d.kind, d.key, a', d.attrs.length, c', l'⟩ :=
      (((hL1.out.mono (newM_set (by simp) _)).mono (newM_set (by simp) _)).mono (newM_set (by simp) _)).mono (newM_set (by simp) _)
    exact hq.mono (newM_mono (by omega) 0 _)
  · exact (((hB1.out.setCell (by simp) _).setCell (by simp) _).setCell (by simp) _).setCell (by simp) _

/-- What the copying loop holds: so many copies in a row of the call's own, each with what it refers to in other new memory. -/
structure RelC (w wr : World) (l : List CT) (k : Nat) (va : Option Addr) (vc : Nat) (acc : List CT) : Prop where
  low : Below w.heap.size w wr
  own : wr.ownsRow w.heap.size 37 3 (.slice va k vc) k (acc.map CT.row).flatten
  lats : ∀ u ∈ acc, CAt (newG w.heap.size 0 (Value.slice va k vc).ownBlock wr) u
  same : Alike SameC acc (l.take k)

end Go.Proofs.YthnjgbjckggjhaaGreatDoor.subj.wide
