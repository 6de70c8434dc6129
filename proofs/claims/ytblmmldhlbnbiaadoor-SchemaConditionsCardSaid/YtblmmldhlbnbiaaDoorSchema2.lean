/- Walks of the schema's own check of a test and of conditions. -/
import Derived.Test.YtblmmldhlbnbiaaDoorSchema
namespace Go.Proofs.YtblmmldhlbnbiaaDoor.schema
open Go.RowKit

set_option maxHeartbeats 400000 in
theorem fits1_any (k n t : Int) (s : ByteArray) (pl : Value) (b : Nat) (w : World) (hp : w.cell? ⟨b, 0, none⟩ = some (.int .i64 t)) :
    Calls Tryd.prog 32 #[.agg #[.int .i64 k, .int .i64 n, .string s, pl], .pointer (some ⟨b, 0, none⟩)] w fun e w' => e = .returned (.bool (k != t)) ∧ Below w.heap.size w w' := by
  have hlt : b < w.heap.size := World.block_lt_of_cell? w _ hp
  go_enter Tryd.func32, Tryd.ntmps32
  go_wp2
  go_ret
  exact ⟨rfl, (Below.refl _ _).alloc (Nat.le_refl _) _⟩

set_option maxHeartbeats 400000 in
theorem indexf_any (t : Int) (b : Nat) (vs : Value) (l : List VD) (w : World) (hp : w.cell? ⟨b, 0, none⟩ = some (.int .i64 t)) (h : RowsAt w.cell? 4 vs (l.map VD.row)) :
    Calls Tryd.prog 33 #[vs, .func (.func 32) #[] #[.pointer (some ⟨b, 0, none⟩)]] w fun e w' => IndexIs (!allKind t l) e ∧ Below w.heap.size w w' := by
  obtain ⟨a, c, rfl, hn, hc, hr⟩ := h
  simp only [List.length_map] at hn
  unfold maxLen at hc
  have hr0 := Lib.hid hr
  clear hr
  rw [List.length_map]
  go_enter Tryd.func33, Tryd.ntmps33
  go_wp2
  go_loopw [5, 8] (fun _ i wr => ∃ k : Nat, k ≤ l.length ∧ i = .int .i64 k ∧ Below w.heap.size w wr ∧ Hid (allKind t (l.drop k) = allKind t l)) (fun _ i _ => l.length - (intOf i).toNat)
  case atStart => exact ⟨0, Nat.zero_le _, rfl, Below.refl _ _, rfl⟩
  case round =>
    obtain ⟨k, hk, rfl, hb, hT⟩ := hrel
    by_cases hlt : k < l.length
    · rcases hr0.out with he | ⟨blk, off, rfl, hr⟩
      · simp only [List.map_eq_nil_iff] at he
        rw [he] at hlt
        exact absurd hlt (by simp)
      obtain ⟨c0, c1, c2, c3⟩ := vd_cells (RowsAt.cells_mono (sub_of_below hb) hr) hlt
      clear hr
      have hp1 := cell_later hb hp
      go_wp2_with (go_at_call 32; refine (fits1_any _ _ t _ _ b _ hp1).mono ?_; rintro e w' ⟨rfl, hb2⟩)
      · have h1 : (l[k].kind != t) = true := by assumption
        go_ret
        exact ⟨⟨_, rfl, by simp [allKind_hit hlt h1 hT.out], by omega⟩, hb.trans (hb2.mono hb.size)⟩
      · have h1 : (l[k].kind != t) = false := by assumption
        go_roundw
        case rel => exact ⟨k + 1, by omega, by go_num, hb.trans (hb2.mono hb.size), allKind_miss hlt h1 hT.out⟩
        case measure => simp [intOf]; omega
    · have hE := Lib.hid (allKind_end hlt hT.out)
      go_wp2
      go_ret
      exact ⟨⟨_, rfl, by simp [hE.out], by omega⟩, hb⟩

set_option maxHeartbeats 400000 in
theorem containsf_any (t : Int) (b : Nat) (vs : Value) (l : List VD) (w : World) (hp : w.cell? ⟨b, 0, none⟩ = some (.int .i64 t)) (h : RowsAt w.cell? 4 vs (l.map VD.row)) :
    Calls Tryd.prog 31 #[vs, .func (.func 32) #[] #[.pointer (some ⟨b, 0, none⟩)]] w fun e w' => e = .returned (.bool (!allKind t l)) ∧ Below w.heap.size w w' := by
  go_enter Tryd.func31, Tryd.ntmps31
  go_wp2_with (go_at_call 33; refine (indexf_any t b vs l _ hp h).mono ?_; rintro e w' ⟨⟨m, rfl, hm, hm1⟩, hb⟩)
  go_ret
  refine ⟨ret_bool ?_, hb⟩
  rw [Bool.eq_iff_iff, ← hm]

set_option maxHeartbeats 1000000 in
theorem fits_in (t : Int) (l : List VD) (kind name : ByteArray) (vs ks : Value) (w : World) (h : RowsAt w.cell? 4 vs (l.map VD.row)) :
    Calls Tryd.prog 19 #[.agg #[.int .i64 8, .string kind, .string name, vs, ks], .int .i64 t] w fun e w' => e = .returned (.bool (t != 5 && allKind t l)) ∧ Below w.heap.size w w' := by
  by_cases ht : t = 5
  · subst ht
    go_enter Tryd.func19, Tryd.ntmps19
    go_wp2
    go_ret
    exact ⟨rfl, ((Below.refl _ _).alloc (Nat.le_refl _) _).alloc (by simp) _⟩
  have hb0 : Below w.heap.size w ((w.alloc (Obj.cells #[Value.int IntKind.i64 8, Value.string kind, Value.string name, vs, ks] 26)).alloc (Obj.cells #[Value.int IntKind.i64 t] 3)) := ((Below.refl _ _).alloc (Nat.le_refl _) _).alloc (by simp) _
  have h1 := Lib.hid (RowsAt.mono (sub_of_below hb0) h)
  have hc := containsf_any t (w.heap.size + 1) vs l _ (by simp) h1.out
  have hC := Lib.hid hc
  clear hc h h1
  go_enter Tryd.func19, Tryd.ntmps19
  go_wp2_with (go_at_call 31; refine hC.out.mono ?_; rintro e w' ⟨rfl, hb⟩)
  go_ret
  exact ⟨rfl, hb0.trans (hb.mono hb0.size)⟩

set_option maxHeartbeats 1000000 in
theorem fits_six (t : Int) (kind name : ByteArray) (vs ks : Value) (w : World) :
    Calls Tryd.prog 19 #[.agg #[.int .i64 6, .string kind, .string name, vs, ks], .int .i64 t] w fun e w' => e = .returned (.bool true) ∧ Below w.heap.size w w' := by
  go_enter Tryd.func19, Tryd.ntmps19
  go_wp2
  go_ret
  exact ⟨rfl, ((Below.refl _ _).alloc (Nat.le_refl _) _).alloc (by simp) _⟩

set_option maxHeartbeats 1000000 in
theorem fits_zero (op t : Int) (kind name : ByteArray) (vs ks : Value) (w : World) (h : RowsAt w.cell? 4 vs []) (h6 : (op == 6) = false) (h8 : (op == 8) = false) :
    Calls Tryd.prog 19 #[.agg #[.int .i64 op, .string kind, .string name, vs, ks], .int .i64 t] w fun e w' => e = .returned (.bool false) ∧ Below w.heap.size w w' := by
  obtain ⟨a, c, rfl, -, -, -⟩ := h
  simp only [List.length_nil]
  go_enter Tryd.func19, Tryd.ntmps19
  go_wp2
  go_ret
  exact ⟨rfl, ((Below.refl _ _).alloc (Nat.le_refl _) _).alloc (by simp) _⟩

set_option maxHeartbeats 1000000 in
theorem fits_more (op t : Int) (v : VD) (r : List VD) (kind name : ByteArray) (vs ks : Value) (w : World) (h : RowsAt w.cell? 4 vs ((v :: r).map VD.row)) (h6 : (op == 6) = false) (h8 : (op == 8) = false) :
    Calls Tryd.prog 19 #[.agg #[.int .i64 op, .string kind, .string name, vs, ks], .int .i64 t] w fun e w' => e = .returned (.bool (fitsK op t v.kind)) ∧ Below w.heap.size w w' := by
  obtain ⟨a, c, rfl, hn, hc, hr⟩ := h
  rcases hr with hr | ⟨blk, off, rfl, hr⟩
  · simp at hr
  obtain ⟨c0, c1, c2, c3⟩ := vd_cells (k := 0) hr (by simp)
  clear hr c1 c2 c3
  simp only [List.length_map, List.length_cons, Nat.zero_mul, Nat.add_zero, List.getElem_cons_zero] at *
  have hlt : blk < w.heap.size := World.block_lt_of_cell? w _ c0
  unfold maxLen at hc
  go_enter Tryd.func19, Tryd.ntmps19
  go_wp2
  all_goals
    go_ret
    refine ⟨ret_bool ?_, ((Below.refl _ _).alloc (Nat.le_refl _) _).alloc (by simp) _⟩
    simp_all [fitsK]

theorem fits_any (op t : Int) (l : List VD) (kind name : ByteArray) (vs ks : Value) (w : World) (h : RowsAt w.cell? 4 vs (l.map VD.row)) :
    Calls Tryd.prog 19 #[.agg #[.int .i64 op, .string kind, .string name, vs, ks], .int .i64 t] w fun e w' => e = .returned (.bool (fitsS op t l)) ∧ Below w.heap.size w w' := by
  by_cases h6 : op = 6
  · subst h6
    exact fits_six t kind name vs ks w
  by_cases h8 : op = 8
  · subst h8
    exact fits_in t l kind name vs ks w h
  have b6 : (op == 6) = false := beq_eq_false_iff_ne.2 h6
  have b8 : (op == 8) = false := beq_eq_false_iff_ne.2 h8
  cases l with
  | nil =>
    have e : fitsS op t [] = false := by simp [fitsS, h6, h8]
    rw [e]
    exact fits_zero op t kind name vs ks w h b6 b8
  | cons v r =>
    have e : fitsS op t (v :: r) = fitsK op t v.kind := by simp [fitsS, h6, h8]
    rw [e]
    exact fits_more op t v r kind name vs ks w h b6 b8

end Go.Proofs.YtblmmldhlbnbiaaDoor.schema
