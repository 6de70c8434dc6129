/- Walks of the schema's functions and of the reference's. -/
import Derived.Test.YtlohdmghaeabjaaGreatDoorChecked
import Derived.Test.YtlohdmghaeabjaaGreatDoorBase
import Derived.WalkKit
import Derived.WalkSpells
import Derived.WalkLawsBesides
import Derived.Deep.QuietTactic
import Derived.BigQuiet
import Derived.Lib.Hide
import Derived.LoopTactic
import Derived.Outline
namespace Go.Proofs.YtlohdmghaeabjaaGreatDoor.schema
open Go.RowKit

structure DD where
  kind : ByteArray
  name : ByteArray
  type : Int
def DD.row (d : DD) : List Value := [.string d.kind, .string d.name, .int .i64 d.type]

def typeOf (kind name : List UInt8) : List DD → Int
  | [] => if name == [107, 101, 121] then 3 else 0
  | d :: r => if d.kind.toList == kind && d.name.toList == name then d.type else typeOf kind name r

theorem typeOf_hit {kind name : List UInt8} {l : List DD} {k : Nat} (h : k < l.length) (h1 : l[k].kind.toList = kind) (h2 : (l[k].name.toList == name) = true) (T : typeOf kind name (l.drop k) = typeOf kind name l) : l[k].type = typeOf kind name l := by
  rw [← T, List.drop_eq_getElem_cons h, typeOf, h1, h2]
  simp
theorem typeOf_miss1 {kind name : List UInt8} {l : List DD} {k : Nat} (h : k < l.length) (h1 : ¬ l[k].kind.toList = kind) (T : typeOf kind name (l.drop k) = typeOf kind name l) : typeOf kind name (l.drop (k + 1)) = typeOf kind name l := by
  rw [← T, List.drop_eq_getElem_cons h, typeOf]
  simp [h1]
theorem typeOf_miss2 {kind name : List UInt8} {l : List DD} {k : Nat} (h : k < l.length) (h2 : (l[k].name.toList == name) = false) (T : typeOf kind name (l.drop k) = typeOf kind name l) : typeOf kind name (l.drop (k + 1)) = typeOf kind name l := by
  rw [← T, List.drop_eq_getElem_cons h, typeOf, h2]
  simp
theorem typeOf_end {kind name : List UInt8} {l : List DD} {k : Nat} (h : ¬ k < l.length) (T : typeOf kind name (l.drop k) = typeOf kind name l) : typeOf kind name l = if name == [107, 101, 121] then 3 else 0 := by
  rw [← T, List.drop_eq_nil_of_le (by omega), typeOf]

theorem dd_cells {m : Mem} {l : List DD} {blk off : Nat} (hr : ∀ i r, (l.map DD.row)[i]? = some r → ∀ j x, r[j]? = some x → m ⟨blk, off + i * 3 + j, none⟩ = some x) {k : Nat} (hk : k < l.length) :
    m ⟨blk, off + k * 3, none⟩ = some (.string l[k].kind) ∧ m ⟨blk, off + k * 3 + 1, none⟩ = some (.string l[k].name) ∧ m ⟨blk, off + k * 3 + 2, none⟩ = some (.int .i64 l[k].type) := by
  have h := hr k l[k].row (by simp [hk])
  exact ⟨h 0 _ rfl, h 1 _ rfl, h 2 _ rfl⟩

theorem ret_int {k : IntKind} {a b : Int} (h : a = b) : Ending.returned (.int k a) = .returned (.int k b) := by rw [h]

/-- Strings of a list. -/
def strRow (s : ByteArray) : List Value := [.string s]
def hasS (s : List UInt8) : List ByteArray → Bool
  | [] => false
  | x :: r => x.toList == s || hasS s r
theorem hasS_hit {s : List UInt8} {l : List ByteArray} {k : Nat} (h : k < l.length) (h1 : (l[k].toList == s) = true) (T : hasS s (l.drop k) = hasS s l) : hasS s l = true := by
  rw [← T, List.drop_eq_getElem_cons h, hasS, h1]; rfl
theorem hasS_miss {s : List UInt8} {l : List ByteArray} {k : Nat} (h : k < l.length) (h1 : (l[k].toList == s) = false) (T : hasS s (l.drop k) = hasS s l) : hasS s (l.drop (k + 1)) = hasS s l := by
  rw [← T, List.drop_eq_getElem_cons h, hasS, h1]; rfl
theorem hasS_end {s : List UInt8} {l : List ByteArray} {k : Nat} (h : ¬ k < l.length) (T : hasS s (l.drop k) = hasS s l) : hasS s l = false := by
  rw [← T, List.drop_eq_nil_of_le (by omega), hasS]
theorem str_cell {m : Mem} {l : List ByteArray} {blk off : Nat} (hr : ∀ i r, (l.map strRow)[i]? = some r → ∀ j x, r[j]? = some x → m ⟨blk, off + i * 1 + j, none⟩ = some x) {k : Nat} (hk : k < l.length) :
    m ⟨blk, off + k, none⟩ = some (.string l[k]) := by
  have h := hr k (strRow l[k]) (by simp [hk]) 0 _ rfl
  simpa using h

theorem ret_bool {a b : Bool} (h : a = b) : Ending.returned (.bool a) = .returned (.bool b) := by rw [h]

set_option maxHeartbeats 400000 in
theorem has_any (v : Value) (l : List ByteArray) (s : ByteArray) (w : World) (h : RowsAt w.cell? 1 v (l.map strRow)) :
    Calls Tryz.prog 57 #[v, .string s] w fun e w' => e = .returned (.bool (hasS s.toList l)) ∧ w = w' := by
  obtain ⟨a, c, rfl, hn, hc, hr⟩ := h
  simp only [List.length_map] at hn
  unfold maxLen at hc
  have hr0 := Lib.hid hr
  clear hr
  rw [List.length_map]
  go_enter Tryz.func57, Tryz.ntmps57
  go_wp2
  go_loop [5] (fun i => ∃ k : Nat, k ≤ l.length ∧ i = .int .i64 k ∧ Hid (hasS s.toList (l.drop k) = hasS s.toList l)) (fun i => l.length - (intOf i).toNat)
  case atStart => exact ⟨0, Nat.zero_le _, rfl, rfl⟩
  case round =>
    obtain ⟨k, hk, rfl, hT⟩ := hrel
    by_cases hlt : k < l.length
    · rcases hr0.out with he | ⟨blk, off, rfl, hr⟩
      · simp only [List.map_eq_nil_iff] at he
        rw [he] at hlt
        exact absurd hlt (by simp)
      have c0 := str_cell hr hlt
      clear hr
      go_wp2
      · have h1 : (l[k].toList == s.toList) = true := by assumption
        go_ret
        exact ⟨ret_bool (hasS_hit hlt h1 hT.out).symm, rfl⟩
      · have h1 : (l[k].toList == s.toList) = false := by assumption
        go_round
        case rel => exact ⟨k + 1, by omega, by go_num, hasS_miss hlt h1 hT.out⟩
        case measure => simp [intOf]; omega
    · have hE := Lib.hid (hasS_end hlt hT.out)
      go_wp2
      go_ret
      exact ⟨ret_bool hE.out.symm, rfl⟩

/-- What Index gives: -1 or a place. -/
def IndexIs (b : Bool) (e : Ending) : Prop := ∃ m : Int, e = .returned (.int .i64 m) ∧ (0 ≤ m ↔ b = true) ∧ -1 ≤ m

set_option maxHeartbeats 400000 in
theorem index_any (v : Value) (l : List ByteArray) (s : ByteArray) (w : World) (h : RowsAt w.cell? 1 v (l.map strRow)) :
    Calls Tryz.prog 71 #[v, .string s] w fun e w' => IndexIs (hasS s.toList l) e ∧ w = w' := by
  obtain ⟨a, c, rfl, hn, hc, hr⟩ := h
  simp only [List.length_map] at hn
  unfold maxLen at hc
  have hr0 := Lib.hid hr
  clear hr
  rw [List.length_map]
  go_enter Tryz.func71, Tryz.ntmps71
  go_wp2
  go_loop [5, 8] (fun _ i => ∃ k : Nat, k ≤ l.length ∧ i = .int .i64 k ∧ Hid (hasS s.toList (l.drop k) = hasS s.toList l)) (fun _ i => l.length - (intOf i).toNat)
  case atStart => exact ⟨0, Nat.zero_le _, rfl, rfl⟩
  case round =>
    obtain ⟨k, hk, rfl, hT⟩ := hrel
    by_cases hlt : k < l.length
    · rcases hr0.out with he | ⟨blk, off, rfl, hr⟩
      · simp only [List.map_eq_nil_iff] at he
        rw [he] at hlt
        exact absurd hlt (by simp)
      have c0 := str_cell hr hlt
      clear hr
      go_wp2
      · have h1 : (s.toList == l[k].toList) = true := by assumption
        go_ret
        exact ⟨⟨_, rfl, by simp [hasS_hit hlt (by rw [beq_iff_eq] at h1 ⊢; exact h1.symm) hT.out], by omega⟩, rfl⟩
      · have h1 : (s.toList == l[k].toList) = false := by assumption
        go_round
        case rel => exact ⟨k + 1, by omega, by go_num, hasS_miss hlt (by rw [beq_eq_false_iff_ne] at h1 ⊢; exact h1.symm) hT.out⟩
        case measure => simp [intOf]; omega
    · have hE := Lib.hid (hasS_end hlt hT.out)
      go_wp2
      go_ret
      exact ⟨⟨_, rfl, by simp [hE.out], by omega⟩, rfl⟩

set_option maxHeartbeats 400000 in
theorem contains_any (v : Value) (l : List ByteArray) (s : ByteArray) (w : World) (h : RowsAt w.cell? 1 v (l.map strRow)) :
    Calls Tryz.prog 44 #[v, .string s] w fun e w' => e = .returned (.bool (hasS s.toList l)) ∧ w = w' := by
  go_enter Tryz.func44, Tryz.ntmps44
  go_wp2_with (go_at_call 71; refine (index_any v l s _ h).mono ?_; rintro e w' ⟨⟨m, rfl, hm, hm1⟩, rfl⟩)
  go_ret
  refine ⟨ret_bool ?_, rfl⟩
  rw [Bool.eq_iff_iff, ← hm]


set_option maxHeartbeats 400000 in
theorem istest_any (op : Int) (w : World) :
    Calls Tryz.prog 47 #[.int .i64 op] w fun e w' => e = .returned (.bool (decide (6 ≤ op ∧ op ≤ 15))) ∧ w = w' := by
  go_enter Tryz.func47, Tryz.ntmps47
  go_wp2
  all_goals go_ret
  all_goals exact ⟨ret_bool (by simp; omega), rfl⟩

/-- A value as its four cells. -/
structure VD where
  kind : Int
  num : Int
  text : ByteArray
  ptr : Option Addr
  len : Nat
  cap : Nat
  ls : List ByteArray
def VD.row (d : VD) : List Value := [.int .i64 d.kind, .int .i64 d.num, .string d.text, .slice d.ptr d.len d.cap]
/-- The texts of a value's list lie where the value says; the value is not too large. -/
structure LAt (m : Mem) (d : VD) : Prop where
  rows : RowsAt m 1 (.slice d.ptr d.len d.cap) (d.ls.map strRow)
  text : d.text.size < 4294967281
  few : d.ls.length ≤ 8796093022208
theorem LAt.mono {m m' : Mem} (hs : Sub m m') {d : VD} (h : LAt m d) : LAt m' d := ⟨RowsAt.mono hs h.rows, h.text, h.few⟩
theorem LAt.flat (m : Mem) (k n : Int) (t : ByteArray) (ht : t.size < 4294967281) : LAt m ⟨k, n, t, none, 0, 0, []⟩ := ⟨⟨none, 0, rfl, by simp, by simp, Or.inl rfl⟩, ht, by simp⟩
theorem strRow_flat : ∀ l : List ByteArray, (l.map strRow).flatten = l.map Value.string
  | [] => rfl
  | x :: r => by rw [List.map_cons, List.flatten_cons, strRow_flat r]; rfl
theorem vd_cells {m : Mem} {l : List VD} {blk off : Nat} (hr : ∀ i r, (l.map VD.row)[i]? = some r → ∀ j x, r[j]? = some x → m ⟨blk, off + i * 4 + j, none⟩ = some x) {k : Nat} (hk : k < l.length) :
    m ⟨blk, off + k * 4, none⟩ = some (.int .i64 l[k].kind) ∧ m ⟨blk, off + k * 4 + 1, none⟩ = some (.int .i64 l[k].num) ∧ m ⟨blk, off + k * 4 + 2, none⟩ = some (.string l[k].text) ∧ m ⟨blk, off + k * 4 + 3, none⟩ = some (.slice l[k].ptr l[k].len l[k].cap) := by
  have h := hr k l[k].row (by simp [hk])
  exact ⟨h 0 _ rfl, h 1 _ rfl, h 2 _ rfl, h 3 _ rfl⟩

def allKind (t : Int) : List VD → Bool
  | [] => true
  | v :: r => v.kind == t && allKind t r
theorem allKind_hit {t : Int} {l : List VD} {k : Nat} (h : k < l.length) (h1 : (l[k].kind != t) = true) (T : allKind t (l.drop k) = allKind t l) : allKind t l = false := by
  rw [← T, List.drop_eq_getElem_cons h, allKind]
  have : (l[k].kind == t) = false := by simpa using h1
  rw [this]; rfl
theorem allKind_miss {t : Int} {l : List VD} {k : Nat} (h : k < l.length) (h1 : (l[k].kind != t) = false) (T : allKind t (l.drop k) = allKind t l) : allKind t (l.drop (k + 1)) = allKind t l := by
  rw [← T, List.drop_eq_getElem_cons h, allKind]
  have : (l[k].kind == t) = true := by simpa using h1
  rw [this]; rfl
theorem allKind_end {t : Int} {l : List VD} {k : Nat} (h : ¬ k < l.length) (T : allKind t (l.drop k) = allKind t l) : allKind t l = true := by
  rw [← T, List.drop_eq_nil_of_le (by omega), allKind]

/-- Whether a test's values fit its operation, for an attribute of type t. -/
def fitsK (op t k : Int) : Bool :=
  if op = 7 then k == t else if op = 9 ∨ op = 10 then t == 3 && k == 3 else if op = 11 then (t == 3 || t == 5) && k == 3 else (t == 2 || t == 3 || t == 4) && k == t
def fitsS (op t : Int) (vals : List VD) : Bool :=
  if op = 6 then true else if op = 8 then t != 5 && allKind t vals else match vals with | [] => false | v :: _ => fitsK op t v.kind

end Go.Proofs.YtlohdmghaeabjaaGreatDoor.schema

