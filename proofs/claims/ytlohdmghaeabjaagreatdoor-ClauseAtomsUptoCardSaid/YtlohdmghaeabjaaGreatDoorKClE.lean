/- Whether a condition holds: the program's Eval. -/
import Derived.Test.YtlohdmghaeabjaaGreatDoorKClT
import Derived.Test.YtlohdmghaeabjaaGreatDoorKJ6
namespace Go.Proofs.YtlohdmghaeabjaaGreatDoor.clause
open Go.RowKit Go.Proofs.YtlohdmghaeabjaaGreatDoor Go.Proofs.YtlohdmghaeabjaaGreatDoor.schema Go.Proofs.YtlohdmghaeabjaaGreatDoor.value Go.Proofs.YtlohdmghaeabjaaGreatDoor.text Go.Proofs.YtlohdmghaeabjaaGreatDoor.draw

/-- The cells of a part. -/
theorem kid_at {m m' : Mem} {rows : List (List Value)} {kids : List ED} {a : Option Addr} {n c : Nat} (hk : RowsAt m (5) (.slice a n c) rows) (hl : rows.length = kids.length)
    (hE : ∀ (i : Nat) (r : List Value) (k : ED), rows[i]? = some r → kids[i]? = some k → EAt m' k r) {k : Nat} (hlt : k < kids.length) :
    ∃ blk off op kind name va vn vc ka kn kc, a = some ⟨blk, off, none⟩ ∧ m ⟨blk, off + k * 5, none⟩ = some (.int .i64 op) ∧ m ⟨blk, off + k * 5 + 1, none⟩ = some (.string kind) ∧ m ⟨blk, off + k * 5 + 2, none⟩ = some (.string name) ∧
      m ⟨blk, off + k * 5 + 3, none⟩ = some (.slice va vn vc) ∧ m ⟨blk, off + k * 5 + 4, none⟩ = some (.slice ka kn kc) ∧ rows[k]? = some [.int .i64 op, .string kind, .string name, .slice va vn vc, .slice ka kn kc] := by
  obtain ⟨a0, c0, h1, h2, h3, h4⟩ := hk
  injection h1 with e1 e2 e3
  subst e1; subst e3
  rcases h4 with h4 | ⟨blk, off, rfl, hc⟩
  · rw [h4] at hl
    simp at hl
    omega
  · have hr : rows[k]? = some (rows[k]'(by omega)) := List.getElem?_eq_getElem (by omega)
    obtain ⟨op, kind, name, va, vn, vc, ka, kn, kc, e⟩ := eat_five (hE k _ kids[k] hr (List.getElem?_eq_getElem hlt))
    rw [e] at hr
    have hh := hc k _ hr
    exact ⟨blk, off, op, kind, name, va, vn, vc, ka, kn, kc, rfl, hh 0 _ rfl, hh 1 _ rfl, hh 2 _ rfl, hh 3 _ rfl, hh 4 _ rfl, hr⟩

def AnyE (f : ED → Bool) (l : List ED) (k : Nat) : Prop := (l.drop k).any f = l.any f
theorem anyE_hit {f : ED → Bool} {l : List ED} {k : Nat} (h : k < l.length) (h1 : f l[k] = true) (T : AnyE f l k) : l.any f = true := by
  unfold AnyE at T
  rw [← T, List.drop_eq_getElem_cons h, List.any_cons, h1]; rfl
theorem anyE_miss {f : ED → Bool} {l : List ED} {k : Nat} (h : k < l.length) (h1 : f l[k] = false) (T : AnyE f l k) : AnyE f l (k + 1) := by
  unfold AnyE at *
  rw [← T, List.drop_eq_getElem_cons h, List.any_cons, h1]; rfl
theorem anyE_end {f : ED → Bool} {l : List ED} {k : Nat} (h : ¬ k < l.length) (T : AnyE f l k) : l.any f = false := by
  unfold AnyE at T
  rw [← T, List.drop_eq_nil_of_le (by omega)]; rfl

set_option maxHeartbeats 1000000 in
set_option maxRecDepth 10000 in
/-- slices.IndexFunc over conditions, with the closure flagstone/clause.Eval$1. -/
theorem fails_anyi (f : ED → Bool) (Bs Bi : Nat) (a : Option Addr) (n c : Nat) (rows : List (List Value)) (kids : List ED) (w : World) (hk : RowsAt w.cell? 5 (.slice a n c) rows) (hl : rows.length = kids.length)
    (hE : ∀ (i : Nat) (r : List Value) (k : ED), rows[i]? = some r → kids[i]? = some k → EAt w.cell? k r)
    (hcl : ∀ (i : Nat) (r : List Value) (k : ED) (w' : World), rows[i]? = some r → kids[i]? = some k → Below w.heap.size w w' → Calls Tryz.prog 54 #[.agg r.toArray, .pointer (some ⟨Bs, 0, none⟩), .pointer (some ⟨Bi, 0, none⟩)] w' fun e w'' => e = .returned (.bool (f k)) ∧ Below w'.heap.size w' w'') :
    Calls Tryz.prog 82 #[.slice a n c, .func (.func 54) #[] #[.pointer (some ⟨Bs, 0, none⟩), .pointer (some ⟨Bi, 0, none⟩)]] w fun e w' => IndexIs (kids.any f) e ∧ Below w.heap.size w w' := by
  have hn := (len_of hk).1
  have hm := (len_of hk).2
  rw [hl] at hn
  subst hn
  have hk0 := Lib.hid hk
  have hE0 := Lib.hid hE
  have hcl0 := Lib.hid hcl
  have hl0 := Lib.hid hl
  clear hk hE hcl hl
  go_enter Tryz.func82, Tryz.ntmps82
  go_wp2
  go_loopw [5, 8] (fun _ i wr => ∃ k : Nat, k ≤ kids.length ∧ i = .int .i64 k ∧ Hid (Below w.heap.size w wr) ∧ Hid (AnyE f kids k)) (fun _ i _ => kids.length - (intOf i).toNat)
  case atStart => exact ⟨0, Nat.zero_le _, rfl, Lib.hid (Below.refl _ _), Lib.hid rfl⟩
  case round =>
    obtain ⟨k, hk, rfl, hb, hT⟩ := hrel
    by_cases hlt : k < kids.length
    · obtain ⟨blk, off, op, kind, name, va, vn, vc, ka, kn, kc, rfl, c0, c1, c2, c3, c4, hr⟩ := kid_at (hk0.out.mono (sub_of_below hb.out)) hl0.out hE0.out hlt
      have hin := Lib.hid (hcl0.out k _ kids[k] wr hr (List.getElem?_eq_getElem hlt) hb.out)
      replace hr := Lib.hid hr
      have n0 : (0 : Int) ≤ (k : Int) := by omega
      have n1 : (k : Int) < (kids.length : Int) := by omega
      have hHit := Lib.hid (fun h1 => anyE_hit hlt h1 hT.out)
      have hMiss := Lib.hid (fun h1 => anyE_miss hlt h1 hT.out)
      go_wp2_with fail
      refine hin.out.mono ?_
      rintro e w' ⟨rfl, hb2⟩
      have hb3 := Lib.hid (hb.out.trans (hb2.mono hb.out.size))
      clear hin hb2
      cases h1 : f kids[k] with
      | true =>
        have hq := Lib.hid (hHit.out h1)
        go_wp2
        go_ret
        exact ⟨⟨_, rfl, by simp only [hq.out, iff_true]; omega, by omega⟩, hb3.out⟩
      | false =>
        have hq := Lib.hid (hMiss.out h1)
        go_wp2
        go_roundw
        case rel => exact ⟨k + 1, by omega, by go_num, hb3, hq⟩
        case measure => simp [intOf]; omega
    · have hE := Lib.hid (anyE_end hlt hT.out)
      go_wp2
      go_ret
      exact ⟨⟨_, rfl, by simp [hE.out], by omega⟩, hb.out⟩
set_option maxHeartbeats 400000 in
theorem fails_any (f : ED → Bool) (Bs Bi : Nat) (a : Option Addr) (n c : Nat) (rows : List (List Value)) (kids : List ED) (w : World) (hk : RowsAt w.cell? 5 (.slice a n c) rows) (hl : rows.length = kids.length)
    (hE : ∀ (i : Nat) (r : List Value) (k : ED), rows[i]? = some r → kids[i]? = some k → EAt w.cell? k r)
    (hcl : ∀ (i : Nat) (r : List Value) (k : ED) (w' : World), rows[i]? = some r → kids[i]? = some k → Below w.heap.size w w' → Calls Tryz.prog 54 #[.agg r.toArray, .pointer (some ⟨Bs, 0, none⟩), .pointer (some ⟨Bi, 0, none⟩)] w' fun e w'' => e = .returned (.bool (f k)) ∧ Below w'.heap.size w' w'') :
    Calls Tryz.prog 55 #[.slice a n c, .func (.func 54) #[] #[.pointer (some ⟨Bs, 0, none⟩), .pointer (some ⟨Bi, 0, none⟩)]] w fun e w' => e = .returned (.bool (kids.any f)) ∧ Below w.heap.size w w' := by
  have hI := fails_anyi f Bs Bi a n c rows kids w hk hl hE hcl
  generalize kids.any f = bb at hI ⊢
  clear hE hcl
  go_enter Tryz.func55, Tryz.ntmps55
  go_wp2_with (go_at_call 82; refine hI.mono ?_; rintro e w' ⟨⟨m, rfl, hm, hm1⟩, hb⟩)
  go_ret
  refine ⟨schema.ret_bool ?_, hb⟩
  rw [Bool.eq_iff_iff, ← hm]

set_option maxHeartbeats 1000000 in
set_option maxRecDepth 10000 in
/-- slices.IndexFunc over conditions, with the closure flagstone/clause.Eval$2. -/
theorem holds_anyi (f : ED → Bool) (Bs Bi : Nat) (a : Option Addr) (n c : Nat) (rows : List (List Value)) (kids : List ED) (w : World) (hk : RowsAt w.cell? 5 (.slice a n c) rows) (hl : rows.length = kids.length)
    (hE : ∀ (i : Nat) (r : List Value) (k : ED), rows[i]? = some r → kids[i]? = some k → EAt w.cell? k r)
    (hcl : ∀ (i : Nat) (r : List Value) (k : ED) (w' : World), rows[i]? = some r → kids[i]? = some k → Below w.heap.size w w' → Calls Tryz.prog 56 #[.agg r.toArray, .pointer (some ⟨Bs, 0, none⟩), .pointer (some ⟨Bi, 0, none⟩)] w' fun e w'' => e = .returned (.bool (f k)) ∧ Below w'.heap.size w' w'') :
    Calls Tryz.prog 82 #[.slice a n c, .func (.func 56) #[] #[.pointer (some ⟨Bs, 0, none⟩), .pointer (some ⟨Bi, 0, none⟩)]] w fun e w' => IndexIs (kids.any f) e ∧ Below w.heap.size w w' := by
  have hn := (len_of hk).1
  have hm := (len_of hk).2
  rw [hl] at hn
  subst hn
  have hk0 := Lib.hid hk
  have hE0 := Lib.hid hE
  have hcl0 := Lib.hid hcl
  have hl0 := Lib.hid hl
  clear hk hE hcl hl
  go_enter Tryz.func82, Tryz.ntmps82
  go_wp2
  go_loopw [5, 8] (fun _ i wr => ∃ k : Nat, k ≤ kids.length ∧ i = .int .i64 k ∧ Hid (Below w.heap.size w wr) ∧ Hid (AnyE f kids k)) (fun _ i _ => kids.length - (intOf i).toNat)
  case atStart => exact ⟨0, Nat.zero_le _, rfl, Lib.hid (Below.refl _ _), Lib.hid rfl⟩
  case round =>
    obtain ⟨k, hk, rfl, hb, hT⟩ := hrel
    by_cases hlt : k < kids.length
    · obtain ⟨blk, off, op, kind, name, va, vn, vc, ka, kn, kc, rfl, c0, c1, c2, c3, c4, hr⟩ := kid_at (hk0.out.mono (sub_of_below hb.out)) hl0.out hE0.out hlt
      have hin := Lib.hid (hcl0.out k _ kids[k] wr hr (List.getElem?_eq_getElem hlt) hb.out)
      replace hr := Lib.hid hr
      have n0 : (0 : Int) ≤ (k : Int) := by omega
      have n1 : (k : Int) < (kids.length : Int) := by omega
      have hHit := Lib.hid (fun h1 => anyE_hit hlt h1 hT.out)
      have hMiss := Lib.hid (fun h1 => anyE_miss hlt h1 hT.out)
      go_wp2_with fail
      refine hin.out.mono ?_
      rintro e w' ⟨rfl, hb2⟩
      have hb3 := Lib.hid (hb.out.trans (hb2.mono hb.out.size))
      clear hin hb2
      cases h1 : f kids[k] with
      | true =>
        have hq := Lib.hid (hHit.out h1)
        go_wp2
        go_ret
        exact ⟨⟨_, rfl, by simp only [hq.out, iff_true]; omega, by omega⟩, hb3.out⟩
      | false =>
        have hq := Lib.hid (hMiss.out h1)
        go_wp2
        go_roundw
        case rel => exact ⟨k + 1, by omega, by go_num, hb3, hq⟩
        case measure => simp [intOf]; omega
    · have hE := Lib.hid (anyE_end hlt hT.out)
      go_wp2
      go_ret
      exact ⟨⟨_, rfl, by simp [hE.out], by omega⟩, hb.out⟩
set_option maxHeartbeats 400000 in
theorem holds_any (f : ED → Bool) (Bs Bi : Nat) (a : Option Addr) (n c : Nat) (rows : List (List Value)) (kids : List ED) (w : World) (hk : RowsAt w.cell? 5 (.slice a n c) rows) (hl : rows.length = kids.length)
    (hE : ∀ (i : Nat) (r : List Value) (k : ED), rows[i]? = some r → kids[i]? = some k → EAt w.cell? k r)
    (hcl : ∀ (i : Nat) (r : List Value) (k : ED) (w' : World), rows[i]? = some r → kids[i]? = some k → Below w.heap.size w w' → Calls Tryz.prog 56 #[.agg r.toArray, .pointer (some ⟨Bs, 0, none⟩), .pointer (some ⟨Bi, 0, none⟩)] w' fun e w'' => e = .returned (.bool (f k)) ∧ Below w'.heap.size w' w'') :
    Calls Tryz.prog 55 #[.slice a n c, .func (.func 56) #[] #[.pointer (some ⟨Bs, 0, none⟩), .pointer (some ⟨Bi, 0, none⟩)]] w fun e w' => e = .returned (.bool (kids.any f)) ∧ Below w.heap.size w w' := by
  have hI := holds_anyi f Bs Bi a n c rows kids w hk hl hE hcl
  generalize kids.any f = bb at hI ⊢
  clear hE hcl
  go_enter Tryz.func55, Tryz.ntmps55
  go_wp2_with (go_at_call 82; refine hI.mono ?_; rintro e w' ⟨⟨m, rfl, hm, hm1⟩, hb⟩)
  go_ret
  refine ⟨schema.ret_bool ?_, hb⟩
  rw [Bool.eq_iff_iff, ← hm]

theorem all_any (l : List CT) (inn : List ByteArray) : ∀ kids : List ED, allS l inn kids = !kids.any (fun k => !evalS l inn k)
  | [] => rfl
  | k :: r => by rw [allS, List.any_cons, Bool.not_or, Bool.not_not, all_any l inn r]
theorem any_any' (l : List CT) (inn : List ByteArray) : ∀ kids : List ED, anyS l inn kids = kids.any (evalS l inn)
  | [] => rfl
  | k :: r => by rw [anyS, List.any_cons, any_any' l inn r]

/-- The contract for one condition, whatever the world in which the memory is still there. -/
def EvalOk (f : FuncId) (l : List CT) (sv : Value) (inn : List ByteArray) (inv : Value) (m : Mem) (d : ED) (r : List Value) : Prop :=
  ∀ w : World, Sub m w.cell? → Tabs w → Calls Tryz.prog f #[.agg #[sv], inv, .agg r.toArray] w fun e w' => e = .returned (.bool (evalS l inn d)) ∧ Below w.heap.size w w'

set_option maxHeartbeats 1000000 in
theorem fail1 (b : Bool) (op : Int) (kind name : ByteArray) (va : Option Addr) (vn vc : Nat) (ka : Option Addr) (kn kc : Nat) (Bs Bi : Nat) (a : Option Addr) (n c : Nat) (ia : Option Addr) (i ic : Nat) (w : World)
    (hs : Own w Bs #[.slice a n c] 25) (hi : Own w Bi #[.slice ia i ic] 41)
    (hk : ∀ w', Below w.heap.size w w' → Calls Tryz.prog 23 #[.agg #[.slice a n c], .slice ia i ic, .agg #[.int .i64 op, .string kind, .string name, .slice va vn vc, .slice ka kn kc]] w' fun e w'' => e = .returned (.bool b) ∧ Below w'.heap.size w' w'') :
    Calls Tryz.prog 54 #[.agg #[.int .i64 op, .string kind, .string name, .slice va vn vc, .slice ka kn kc], .pointer (some ⟨Bs, 0, none⟩), .pointer (some ⟨Bi, 0, none⟩)] w fun e w' => e = .returned (.bool (!b)) ∧ Below w.heap.size w w' := by
  have hB : Below w.heap.size w (w.alloc (.cells #[.int .i64 op, .string kind, .string name, .slice va vn vc, .slice ka kn kc] 29)) := (Below.refl _ _).alloc (Nat.le_refl _) _
  have hc := Lib.hid (hk _ hB)
  have s0 := hs.cell 0
  have i0 := hi.cell 0
  simp only [List.getElem?_toArray, List.getElem?_cons_zero] at s0 i0
  have hsl := hs.lt
  have hil := hi.lt
  replace hB := Lib.hid hB
  clear hk hs hi
  go_enter Tryz.func54, Tryz.ntmps54
  go_wp2_with fail
  refine hc.out.mono ?_
  rintro e w1 ⟨rfl, hb⟩
  have hB1 := Lib.hid (hB.out.trans (hb.mono hB.out.size))
  clear hb
  go_wp2
  go_ret
  exact ⟨rfl, hB1.out⟩

set_option maxHeartbeats 1000000 in
theorem hold1 (b : Bool) (op : Int) (kind name : ByteArray) (va : Option Addr) (vn vc : Nat) (ka : Option Addr) (kn kc : Nat) (Bs Bi : Nat) (a : Option Addr) (n c : Nat) (ia : Option Addr) (i ic : Nat) (w : World)
    (hs : Own w Bs #[.slice a n c] 25) (hi : Own w Bi #[.slice ia i ic] 41)
    (hk : ∀ w', Below w.heap.size w w' → Calls Tryz.prog 23 #[.agg #[.slice a n c], .slice ia i ic, .agg #[.int .i64 op, .string kind, .string name, .slice va vn vc, .slice ka kn kc]] w' fun e w'' => e = .returned (.bool b) ∧ Below w'.heap.size w' w'') :
    Calls Tryz.prog 56 #[.agg #[.int .i64 op, .string kind, .string name, .slice va vn vc, .slice ka kn kc], .pointer (some ⟨Bs, 0, none⟩), .pointer (some ⟨Bi, 0, none⟩)] w fun e w' => e = .returned (.bool (b)) ∧ Below w.heap.size w w' := by
  have hB : Below w.heap.size w (w.alloc (.cells #[.int .i64 op, .string kind, .string name, .slice va vn vc, .slice ka kn kc] 29)) := (Below.refl _ _).alloc (Nat.le_refl _) _
  have hc := Lib.hid (hk _ hB)
  have s0 := hs.cell 0
  have i0 := hi.cell 0
  simp only [List.getElem?_toArray, List.getElem?_cons_zero] at s0 i0
  have hsl := hs.lt
  have hil := hi.lt
  replace hB := Lib.hid hB
  clear hk hs hi
  go_enter Tryz.func56, Tryz.ntmps56
  go_wp2_with fail
  refine hc.out.mono ?_
  rintro e w1 ⟨rfl, hb⟩
  have hB1 := Lib.hid (hB.out.trans (hb.mono hB.out.size))
  clear hb
  go_wp2
  go_ret
  exact ⟨rfl, hB1.out⟩

set_option maxRecDepth 100000 in
set_option maxHeartbeats 4000000 in
theorem eval_step (l : List CT) (a : Option Addr) (n c : Nat) (inn : List ByteArray) (ia : Option Addr) (i ic : Nat) (m : Mem) (hS : SAt m (.slice a n c) l) (hin : RowsAt m 1 (.slice ia i ic) (inn.map strRow))
    (op : Int) (kind name : ByteArray) (vals : List VD) (kids : List ED) (vs ks : Value) (rows : List (List Value)) (hv : RowsAt m 4 vs (vals.map VD.row)) (hk : RowsAt m 5 ks rows) (hl : rows.length = kids.length) (hL : ∀ v ∈ vals, LAt m v)
    (hE : ∀ (i : Nat) (r : List Value) (k : ED), rows[i]? = some r → kids[i]? = some k → EAt m k r)
    (ih : ∀ (j : Nat) (r : List Value) (k : ED), rows[j]? = some r → kids[j]? = some k → EvalOk 23 l (.slice a n c) inn (.slice ia i ic) m k r) :
    EvalOk 23 l (.slice a n c) inn (.slice ia i ic) m (.mk op kind name vals kids) [.int .i64 op, .string kind, .string name, vs, ks] := by
  intro w hs hT
  obtain ⟨va, vn, vc, rfl⟩ : ∃ a n c, vs = .slice a n c := by obtain ⟨a, c, h, -⟩ := hv; exact ⟨_, _, _, h⟩
  obtain ⟨ka, kn, kc, rfl⟩ : ∃ a n c, ks = .slice a n c := by obtain ⟨a, c, h, -⟩ := hk; exact ⟨_, _, _, h⟩
  have hB : Below w.heap.size w (((w.alloc (.cells #[.slice a n c] 25)).alloc (.cells #[.slice ia i ic] 41)).alloc (.cells #[.int .i64 op, .string kind, .string name, .slice va vn vc, .slice ka kn kc] 29)) := (((Below.refl _ _).alloc (Nat.le_refl _) _).alloc (by simp) _).alloc (by simp; omega) _
  have hbs := ((Own.new w #[.slice a n c] 25).alloc (.cells #[.slice ia i ic] 41)).alloc (.cells #[.int .i64 op, .string kind, .string name, .slice va vn vc, .slice ka kn kc] 29)
  have hbi := (Own.new (w.alloc (.cells #[.slice a n c] 25)) #[.slice ia i ic] 41).alloc (.cells #[.int .i64 op, .string kind, .string name, .slice va vn vc, .slice ka kn kc] 29)
  have hbe := Own.new ((w.alloc (.cells #[.slice a n c] 25)).alloc (.cells #[.slice ia i ic] 41)) #[.int .i64 op, .string kind, .string name, .slice va vn vc, .slice ka kn kc] 29
  rw [World.size_alloc] at hbi
  rw [World.size_alloc, World.size_alloc] at hbe
  have hs1 := Lib.hid (hs.trans (sub_of_below hB))
  have hT1 := Lib.hid (hT.below hB)
  replace hB := Lib.hid hB
  have hQ := Lib.hid (show evalS l inn (.mk op kind name vals kids) = _ from evalS.eq_1 l inn op kind name vals kids)
  replace hS := Lib.hid hS
  replace hin := Lib.hid hin
  replace hv := Lib.hid hv
  replace hk := Lib.hid hk
  replace hL := Lib.hid hL
  replace hE := Lib.hid hE
  replace ih := Lib.hid ih
  clear hs hT
  go_enter Tryz.func23, Tryz.ntmps23
  go_upto_region 2 with fail
  generalize ((w.alloc (.cells #[.slice a n c] 25)).alloc (.cells #[.slice ia i ic] 41)).alloc (.cells #[.int .i64 op, .string kind, .string name, .slice va vn vc, .slice ka kn kc] 29) = w1 at hB hbs hbi hbe hs1 hT1 ⊢
  obtain ⟨Bs, hBs⟩ : ∃ B : Nat, B = w.heap.size := ⟨_, rfl⟩
  obtain ⟨Bi, hBi⟩ : ∃ B : Nat, B = w.heap.size + 1 := ⟨_, rfl⟩
  obtain ⟨Be, hBe⟩ : ∃ B : Nat, B = w.heap.size + 1 + 1 := ⟨_, rfl⟩
  rw [← hBe] at hbe ⊢
  rw [← hBi] at hbi ⊢
  rw [← hBs] at hbs ⊢
  clear hBs hBi hBe
  replace hbs := Lib.hid hbs
  replace hbi := Lib.hid hbi
  obtain ⟨x0, x1, x2, x3, x4⟩ := own5z hbe
  have hel : Be < w1.heap.size := hbe.lt
  have hil : Bi < w1.heap.size := hbi.out.lt
  have hsl : Bs < w1.heap.size := hbs.out.lt
  have s0 := hbs.out.cell 0
  have i0 := hbi.out.cell 0
  simp only [List.getElem?_toArray, List.getElem?_cons_zero] at s0 i0
  replace hbe := Lib.hid hbe
  have hkn := (len_of hk.out).1
  have hkm := (len_of hk.out).2
  rw [hl] at hkn
  subst hkn
  replace hl := Lib.hid hl
  by_cases h1 : op = 1
  · subst h1
    go_wp2
    go_ret
    exact ⟨ret_to (by rw [hQ.out]; rfl), hB.out⟩
  by_cases h2 : op = 2
  · subst h2
    have hQ2 := Lib.hid (show evalS l inn (.mk 2 kind name vals kids) = !kids.any (fun k => !evalS l inn k) by rw [hQ.out, if_neg (by decide), if_pos rfl]; exact all_any l inn kids)
    have hgo := Lib.hid (fails_any (fun k => !evalS l inn k) Bs Bi ka kids.length kc rows kids w1 (hk.out.mono hs1.out) hl.out (fun j r k h1 h2 => (hE.out j r k h1 h2).mono hs1.out) (fun j r k w' h1 h2 hb => by
      obtain ⟨op', kind', name', va', vn', vc', ka', kn', kc', rfl⟩ := eat_five (hE.out j r k h1 h2)
      exact fail1 (evalS l inn k) op' kind' name' va' vn' vc' ka' kn' kc' Bs Bi a n c ia i ic w' (hbs.out.below hb hbs.out.lt) (hbi.out.below hb hbi.out.lt) (fun w'' hb' => ih.out j _ k h1 h2 w'' ((hs1.out.trans (sub_of_below hb)).trans (sub_of_below hb')) ((hT1.out.below hb).below hb'))))
    generalize (kids.any fun k => !evalS l inn k) = bb at hQ2 hgo
    go_wp2_with fail
    refine hgo.out.mono ?_
    rintro e w3 ⟨rfl, hb⟩
    have hB3 := Lib.hid (hB.out.trans (hb.mono hB.out.size))
    clear hb hgo
    go_wp2
    go_ret
    exact ⟨ret_to hQ2.out, hB3.out⟩
  by_cases h3 : op = 3
  · subst h3
    have hQ2 := Lib.hid (show evalS l inn (.mk 3 kind name vals kids) = kids.any (evalS l inn) by rw [hQ.out, if_neg (by decide), if_neg (by decide), if_pos rfl]; exact any_any' l inn kids)
    have hgo := Lib.hid (holds_any (evalS l inn) Bs Bi ka kids.length kc rows kids w1 (hk.out.mono hs1.out) hl.out (fun j r k h1 h2 => (hE.out j r k h1 h2).mono hs1.out) (fun j r k w' h1 h2 hb => by
      obtain ⟨op', kind', name', va', vn', vc', ka', kn', kc', rfl⟩ := eat_five (hE.out j r k h1 h2)
      exact hold1 (evalS l inn k) op' kind' name' va' vn' vc' ka' kn' kc' Bs Bi a n c ia i ic w' (hbs.out.below hb hbs.out.lt) (hbi.out.below hb hbi.out.lt) (fun w'' hb' => ih.out j _ k h1 h2 w'' ((hs1.out.trans (sub_of_below hb)).trans (sub_of_below hb')) ((hT1.out.below hb).below hb'))))
    generalize kids.any (evalS l inn) = bb at hQ2 hgo
    go_wp2_with fail
    refine hgo.out.mono ?_
    rintro e w3 ⟨rfl, hb⟩
    have hB3 := Lib.hid (hB.out.trans (hb.mono hB.out.size))
    clear hb hgo
    go_wp2
    go_ret
    exact ⟨ret_to hQ2.out, hB3.out⟩
  by_cases h4 : op = 4
  · subst h4
    cases kids with
    | nil =>
      have hQ2 := Lib.hid (show evalS l inn (.mk 4 kind name vals []) = false by rw [hQ.out, if_neg (by decide), if_neg (by decide), if_neg (by decide), if_pos rfl]; rfl)
      go_wp2
      go_ret
      exact ⟨ret_to hQ2.out, hB.out⟩
    | cons k0 kr =>
      have hQ2 := Lib.hid (show evalS l inn (.mk 4 kind name vals (k0 :: kr)) = !evalS l inn k0 by rw [hQ.out, if_neg (by decide), if_neg (by decide), if_neg (by decide), if_pos rfl]; rfl)
      obtain ⟨blk, off, op', kind', name', va', vn', vc', ka', kn', kc', rfl, c0, c1, c2, c3, c4, hr⟩ := kid_at (k := 0) (hk.out.mono hs1.out) hl.out (fun j r k h1 h2 => hE.out j r k h1 h2) (by simp)
      have hgo := Lib.hid (fail1 (evalS l inn k0) op' kind' name' va' vn' vc' ka' kn' kc' Bs Bi a n c ia i ic w1 hbs.out hbi.out (fun w'' hb' => ih.out 0 _ k0 hr rfl w'' (hs1.out.trans (sub_of_below hb')) (hT1.out.below hb')))
      simp only [Nat.zero_mul, Nat.add_zero] at c0 c1 c2 c3 c4
      generalize evalS l inn k0 = bb at hQ2 hgo
      have hp : ((kr.length : Int) + 1 > 0) := by omega
      have hbl : blk < w1.heap.size := World.block_lt_of_cell? w1 _ c0
      clear hr
      go_wp2_with fail
      refine hgo.out.mono ?_
      rintro e w3 ⟨rfl, hb⟩
      have hB3 := Lib.hid (hB.out.trans (hb.mono hB.out.size))
      clear hb hgo
      go_wp2
      go_ret
      exact ⟨ret_to hQ2.out, hB3.out⟩
  by_cases h5 : op = 5
  · subst h5
    have hQ2 := Lib.hid (show evalS l inn (.mk 5 kind name vals kids) = hasS name.toList inn by rw [hQ.out, if_neg (by decide), if_neg (by decide), if_neg (by decide), if_neg (by decide), if_pos rfl])
    go_wp2_with fail
    refine (contains_any _ inn name _ (hin.out.mono hs1.out)).mono ?_
    rintro e w3 ⟨rfl, rfl⟩
    generalize hasS name.toList inn = bb at hQ2 ⊢
    go_wp2
    go_ret
    exact ⟨ret_to hQ2.out, hB.out⟩
  have hQ2 := Lib.hid (show evalS l inn (.mk op kind name vals kids) = testS l op kind name vals by rw [hQ.out, if_neg h1, if_neg h2, if_neg h3, if_neg h4, if_neg h5])
  have e1 : (op == 1) = false := by simpa using h1
  have e2 : (op == 2) = false := by simpa using h2
  have e3 : (op == 3) = false := by simpa using h3
  have e4 : (op == 4) = false := by simpa using h4
  have e5 : (op == 5) = false := by simpa using h5
  go_wp2_with fail
  refine (clTest_any l a n c op kind name va vn vc ka kids.length kc vals _ (hS.out.mono hs1.out) (hv.out.mono hs1.out) (fun v hm => (hL.out v hm).mono hs1.out) hT1.out).mono ?_
  rintro e w3 ⟨rfl, hb⟩
  have hB3 := Lib.hid (hB.out.trans (hb.mono hB.out.size))
  clear hb
  generalize testS l op kind name vals = bb at hQ2 ⊢
  go_wp2
  go_ret
  exact ⟨ret_to hQ2.out, hB3.out⟩

/-- The program's Eval. -/
theorem eval_any (l : List CT) (a : Option Addr) (n c : Nat) (inn : List ByteArray) (ia : Option Addr) (i ic : Nat) (m : Mem) (hS : SAt m (.slice a n c) l) (hin : RowsAt m 1 (.slice ia i ic) (inn.map strRow)) (d : ED) (r : List Value) (h : EAt m d r) :
    EvalOk 23 l (.slice a n c) inn (.slice ia i ic) m d r := by
  induction h with
  | mk rows hv hk hl hL hE ih => exact eval_step l a n c inn ia i ic m hS hin _ _ _ _ _ _ _ rows hv hk hl hL hE ih

end Go.Proofs.YtlohdmghaeabjaaGreatDoor.clause

