/- A condition in which one part takes the place of another: the law's swap. -/
import Derived.Test.YtlohdmghaeabjaaGreatDoorKClN
import Derived.Test.YtlohdmghaeabjaaGreatDoorKClQ
import Derived.Deep.RegionHeld3
namespace Go.Proofs.YtlohdmghaeabjaaGreatDoor.clause
open Go.RowKit Go.Proofs.YtlohdmghaeabjaaGreatDoor Go.Proofs.YtlohdmghaeabjaaGreatDoor.schema Go.Proofs.YtlohdmghaeabjaaGreatDoor.value Go.Proofs.YtlohdmghaeabjaaGreatDoor.text Go.Proofs.YtlohdmghaeabjaaGreatDoor.draw

attribute [local go_sem ↓] Go.wp_at_zero Go.wp_at_succ

/-- make([]T, n), elements of several cells, n a variable. -/
theorem wpList_make_n {P : Program} (w : World) {ops : Array Oper} {rest : List Oper} {o : Oper} {a : Act} {Q : Exit → Act → World → Prop}
    (hg : o.guard = none) (l c : Operand) (t : TypeId) (hop : o.op = Op.makeSlice t l c)
    (e : TypeId) (i : TypeInfo) (z : Value) (size : Nat) (ht : P.underlying t = some (.slice e)) (hi : P.info? e = some i) (hz : i.zero = some z) (hsize : i.size = size)
    (kl kc : IntKind) (n : Nat) (hl : a.eval l = .int kl (n : Int)) (hc : a.eval c = .int kc (n : Int)) (hbytes : i.bytes * n ≤ 281474976710656) (h63 : n ≤ 9223372036854775807)
    (hK : wpList P ops Q rest (a.put o.dst (.slice (some ⟨w.heap.size, 0, none⟩) n n)) (w.alloc (.cells (madeCells z.cells (n * size)) e))) :
    wpList P ops Q (o :: rest) a w := by
  subst hsize
  refine wpList_plain hg fun K hK' => ?_
  have hb' : (i.bytes : Int) * (n : Int) ≤ 281474976710656 := by
    have h : ((i.bytes * n : Nat) : Int) ≤ 281474976710656 := by omega
    rwa [Int.natCast_mul] at h
  have hrun := run_make (P := P) w t e i z ht hi hz kl kc n n (by omega) (Int.le_refl _) hb' (by omega)
  simp only [Int.toNat_natCast] at hrun
  unfold Oper.wp
  simp [execOp, hop, hl, hc, hrun, Result.andThen]
  exact hK' _ _ hK
def zeroRow : List Value := [.int .i64 0, .string ⟨#[]⟩, .string ⟨#[]⟩, .slice none 0 0, .slice none 0 0]
theorem made_rows (n : Nat) : (madeCells #[.int .i64 0, .string ⟨#[]⟩, .string ⟨#[]⟩, .slice none 0 0, .slice none 0 0] (n * 5)).toList = (List.replicate n zeroRow).flatten := by
  have hs : ∀ r ∈ List.replicate n zeroRow, r.length = 5 := by intro r hr; rw [List.eq_of_mem_replicate hr]; rfl
  apply List.ext_getElem?
  intro k
  by_cases hk : k < n * 5
  · have h1 := flat_get 5 (List.replicate n zeroRow) hs (k / 5) zeroRow (by rw [List.getElem?_replicate, if_pos (by omega)]) (k % 5)
    have e : k / 5 * 5 + k % 5 = k := by omega
    rw [e] at h1
    have hz : ∀ j, j < 5 → ∃ x, zeroRow[j]? = some x := by
      intro j hj
      exact ⟨_, List.getElem?_eq_getElem (show j < zeroRow.length from hj)⟩
    obtain ⟨x, hx1⟩ := hz (k % 5) (by omega)
    rw [h1 x hx1]
    simp only [Array.getElem?_toList, madeCells]
    simp [hk]
    rw [show ([Value.int IntKind.i64 0, Value.string ⟨#[]⟩, Value.string ⟨#[]⟩, Value.slice none 0 0, Value.slice none 0 0] : List Value)[k % 5]? = some x from hx1]
    rfl
  · rw [List.getElem?_eq_none, List.getElem?_eq_none]
    · rw [flat_len 5 _ hs]; simp; omega
    · simp [madeCells]; omega

def SwapOk (m : Mem) (d : ED) (r : List Value) : Prop := smallE 200 d → ∀ (mp : Mem) (p q : ED) (rp rq : List Value) (M : Mem) (w : World), EAt mp p rp → EAt mp q rq → Sub m M → Sub mp M → Sub M w.cell? →
  Calls Tryz.prog 28 #[.agg r.toArray, .agg rp.toArray, .agg rq.toArray] w (MadeE M w (swapS p q d))

/-- What is known while the parts are swapped. -/
structure SX (w u : World) (E0 PA QA : Array Value) (g n : Nat) (rs : List (List Value)) (M0 M : Mem) : Prop where
  low : Below w.heap.size w u
  box : Own u w.heap.size E0 29
  boxp : Own u (w.heap.size + 1) PA 29
  boxq : Own u (w.heap.size + 2) QA 29
  res : Own u (w.heap.size + 3) zeroE 29
  row : ∃ A, Own u g A 29
  rows : RowsAt u.cell? 5 (.slice (some ⟨g, 0, none⟩) n n) rs
  five : ∀ r ∈ rs, r.length = 5
  gb : w.heap.size + 4 ≤ g
  sub0 : Sub M0 w.cell?
  ext : Ext M0 M (w.heap.size + 4)
  sub : Sub M u.cell?
  off : Off g M
section
variable {w u x : World} {E0 PA QA : Array Value} {g n : Nat} {rows : List (List Value)} {M0 M M' : Mem}
theorem SX.glt (h : SX w u E0 PA QA g n rows M0 M) : g < u.heap.size := by obtain ⟨A, hA⟩ := h.row; exact hA.lt
theorem SX.offs (h : SX w u E0 PA QA g n rows M0 M) {k : Nat} (h1 : w.heap.size ≤ k) (h2 : k < w.heap.size + 4) : Off k M := (off_new h.sub0 h1).ext h.ext h2
theorem SX.drew (h : SX w u E0 PA QA g n rows M0 M) : SX w u.drew E0 PA QA g n rows M0 M :=
  ⟨h.low.grown (grown_drew u none) (by have := h.glt; have := h.gb; omega) (fun k e => by cases e), h.box, h.boxp, h.boxq, h.res, h.row, h.rows, h.five, h.gb, h.sub0, h.ext, h.sub, h.off⟩
theorem SX.call (h : SX w u E0 PA QA g n rows M0 M) (hb : Below u.heap.size u x) (he : Ext M M' u.heap.size) (hs : Sub M' x.cell?) : SX w x E0 PA QA g n rows M0 M' := by
  have hz := h.glt
  have hg := h.gb
  exact ⟨h.low.trans (hb.mono (by omega)), h.box.below hb (by omega), h.boxp.below hb (by omega), h.boxq.below hb (by omega), h.res.below hb (by omega), (let ⟨A, hA⟩ := h.row; ⟨A, hA.below hb hz⟩), h.rows.mono (sub_of_below hb), h.five, h.gb, h.sub0, h.ext.trans he (by omega), hs, h.off.ext he hz⟩
theorem SX.cells (h : SX w u E0 PA QA g n rows M0 M) {i : Nat} (hi : i < n) : ∃ z0 z1 z2 z3 z4, u.cell? ⟨g, i * 5, none⟩ = some z0 ∧ u.cell? ⟨g, i * 5 + 1, none⟩ = some z1 ∧ u.cell? ⟨g, i * 5 + 2, none⟩ = some z2 ∧ u.cell? ⟨g, i * 5 + 3, none⟩ = some z3 ∧ u.cell? ⟨g, i * 5 + 4, none⟩ = some z4 ∧
    u.frozen? ⟨g, i * 5, none⟩ = false ∧ u.frozen? ⟨g, i * 5 + 1, none⟩ = false ∧ u.frozen? ⟨g, i * 5 + 2, none⟩ = false ∧ u.frozen? ⟨g, i * 5 + 3, none⟩ = false ∧ u.frozen? ⟨g, i * 5 + 4, none⟩ = false := by
  obtain ⟨A, hA⟩ := h.row
  obtain ⟨hl, hc, hm⟩ := rows_len h.rows
  obtain ⟨a, c, h1, -, -, h4⟩ := h.rows
  injection h1 with h5 h6 h7
  subst h5; subst h7
  rcases h4 with h4 | ⟨blk, off, h8, h9⟩
  · rw [h4] at hl; simp at hl; omega
  injection h8 with h8
  injection h8 with h10 h11
  subst h10; subst h11
  have e1 : rows[i]? = some (rows[i]'(by omega)) := List.getElem?_eq_getElem (by omega)
  have e2 : (rows[i]'(by omega)).length = 5 := h.five _ (List.getElem_mem _)
  have hj : ∀ j, j < 5 → ∃ z, u.cell? ⟨g, i * 5 + j, none⟩ = some z := by
    intro j hj
    have := h9 i _ e1 j _ (List.getElem?_eq_getElem (by omega))
    rw [Nat.zero_add] at this
    exact ⟨_, this⟩
  obtain ⟨z0, k0⟩ := hj 0 (by omega)
  obtain ⟨z1, k1⟩ := hj 1 (by omega)
  obtain ⟨z2, k2⟩ := hj 2 (by omega)
  obtain ⟨z3, k3⟩ := hj 3 (by omega)
  obtain ⟨z4, k4⟩ := hj 4 (by omega)
  exact ⟨z0, z1, z2, z3, z4, k0, k1, k2, k3, k4, hA.free _, hA.free _, hA.free _, hA.free _, hA.free _⟩
theorem SX.put (h : SX w u E0 PA QA g n rows M0 M) {i : Nat} (hi : i < n) (y0 y1 y2 y3 y4 : Value) : SX w (u.setCells g (i * 5) [y0, y1, y2, y3, y4]) E0 PA QA g n (rows.set i [y0, y1, y2, y3, y4]) M0 M := by
  have hg := h.gb
  have hS : ∀ {k : Nat} {A : Array Value}, k ≠ g → Own u k A 29 → Own (u.setCells g (i * 5) [y0, y1, y2, y3, y4]) k A 29 :=
    fun hk hO => ((((hO.setOther (p := ⟨g, i * 5, none⟩) hk y0).setOther (p := ⟨g, i * 5 + 1, none⟩) hk y1).setOther (p := ⟨g, i * 5 + 1 + 1, none⟩) hk y2).setOther (p := ⟨g, i * 5 + 1 + 1 + 1, none⟩) hk y3).setOther (p := ⟨g, i * 5 + 1 + 1 + 1 + 1, none⟩) hk y4
  refine ⟨?_, hS (by omega) h.box, hS (by omega) h.boxp, hS (by omega) h.boxq, hS (by omega) h.res, ?_, rows_put h.rows h.five hi _ _ _ _ _, ?_, h.gb, h.sub0, h.ext, sub_setCells h.off _ _ _ h.sub, h.off⟩
  · exact ((((h.low.setCell (p := ⟨g, i * 5, none⟩) (by simp; omega) y0).setCell (p := ⟨g, i * 5 + 1, none⟩) (by simp; omega) y1).setCell (p := ⟨g, i * 5 + 1 + 1, none⟩) (by simp; omega) y2).setCell (p := ⟨g, i * 5 + 1 + 1 + 1, none⟩) (by simp; omega) y3).setCell (p := ⟨g, i * 5 + 1 + 1 + 1 + 1, none⟩) (by simp; omega) y4
  · obtain ⟨A, hA⟩ := h.row
    exact ⟨_, ((((hA.set (i * 5) y0).set (i * 5 + 1) y1).set (i * 5 + 1 + 1) y2).set (i * 5 + 1 + 1 + 1) y3).set (i * 5 + 1 + 1 + 1 + 1) y4⟩
  · intro r hr
    rcases List.mem_or_eq_of_mem_set hr with hr | rfl
    · exact h.five r hr
    · rfl
end
theorem swapL_get (p q : ED) : ∀ (l : List ED) (i : Nat) (k : ED), l[i]? = some k → (swapL p q l)[i]? = some (swapS p q k)
  | [], _, _, h => by simp at h
  | x :: r, 0, k, h => by simp at h; subst h; rfl
  | x :: r, i + 1, k, h => by rw [swapL]; simpa using swapL_get p q r i k (by simpa using h)
theorem swapL_len (p q : ED) : ∀ l : List ED, (swapL p q l).length = l.length
  | [] => rfl
  | x :: r => by rw [swapL, List.length_cons, List.length_cons, swapL_len p q r]
/-- The loop over the parts. -/
def RelS (w u : World) (E0 PA QA : Array Value) (g n : Nat) (M0 : Mem) (L : List ED) (i : Nat) : Prop :=
  ∃ (rows : List (List Value)) (M : Mem), SX w u E0 PA QA g n rows M0 M ∧ ∀ (j : Nat) (r : List Value) (d : ED), j < i → rows[j]? = some r → L[j]? = some d → EAt M d r
theorem relS_next {w u : World} {E0 PA QA : Array Value} {g n : Nat} {rows : List (List Value)} {M0 M : Mem} {L : List ED} {i : Nat} {d : ED} {y0 y1 y2 y3 y4 : Value} (h : SX w u E0 PA QA g n rows M0 M)
    (hE : ∀ (j : Nat) (r : List Value) (d : ED), j < i → rows[j]? = some r → L[j]? = some d → EAt M d r) (hi : i < n) (hd : L[i]? = some d) (hN : EAt M d [y0, y1, y2, y3, y4]) :
    RelS w (u.setCells g (i * 5) [y0, y1, y2, y3, y4]) E0 PA QA g n M0 L (i + 1) := by
  refine ⟨_, M, h.put hi y0 y1 y2 y3 y4, fun j r d' hj h1 h2 => ?_⟩
  by_cases e : i = j
  · subst e
    rw [List.getElem?_set_self (by have := (rows_len h.rows).1; omega)] at h1
    obtain rfl := Option.some.inj h1
    obtain rfl := Option.some.inj (hd.symm.trans h2)
    exact hN
  · rw [List.getElem?_set_ne e] at h1
    exact hE j r d' (by omega) h1 h2

set_option maxRecDepth 100000 in
set_option maxHeartbeats 16000000 in
theorem swap_step (m : Mem) (op : Int) (kind name : ByteArray) (vals : List VD) (kids : List ED) (vs ks : Value) (rows0 : List (List Value)) (hv : RowsAt m 4 vs (vals.map VD.row)) (hk : RowsAt m 5 ks rows0) (hl0 : rows0.length = kids.length) (hL : ∀ v ∈ vals, LAt m v)
    (hE : ∀ (i : Nat) (r : List Value) (k : ED), rows0[i]? = some r → kids[i]? = some k → EAt m k r)
    (ih : ∀ (j : Nat) (r : List Value) (k : ED), rows0[j]? = some r → kids[j]? = some k → SwapOk m k r) :
    SwapOk m (.mk op kind name vals kids) [.int .i64 op, .string kind, .string name, vs, ks] := by
  intro hsm mp p q rp rq M0 w hP hQ hm hmp hM
  obtain ⟨hs1, hs2, hs3, hs4⟩ := hsm
  obtain ⟨va, vn, vc, rfl⟩ : ∃ a n c, vs = .slice a n c := by obtain ⟨a, c, h, -⟩ := hv; exact ⟨_, _, _, h⟩
  obtain ⟨ka, kn, kc, rfl⟩ : ∃ a n c, ks = .slice a n c := by obtain ⟨a, c, h, -⟩ := hk; exact ⟨_, _, _, h⟩
  obtain ⟨pop, pkd, pnm, pva, pvn, pvc, pka, pkn, pkc, rfl⟩ := eat_five hP
  obtain ⟨qop, qkd, qnm, qva, qvn, qvc, qka, qkn, qkc, rfl⟩ := eat_five hQ
  have hkn := (len_of hk).1
  have hkm := (len_of hk).2
  rw [hl0] at hkn
  subst hkn
  have hself := EAt.mk rows0 hv hk hl0 hL hE (op := op) (kind := kind) (name := name)
  obtain ⟨i0, hi, hz0, hz1, hz2⟩ := info_parts info26
  have hQ2 := Lib.hid (swapS.eq_1 p q op kind name vals kids)
  have hB4 : Below w.heap.size w ((((w.alloc (.cells #[.int .i64 op, .string kind, .string name, .slice va vn vc, .slice ka kids.length kc] 29)).alloc (.cells #[.int .i64 pop, .string pkd, .string pnm, .slice pva pvn pvc, .slice pka pkn pkc] 29)).alloc (.cells #[.int .i64 qop, .string qkd, .string qnm, .slice qva qvn qvc, .slice qka qkn qkc] 29)).alloc (.cells zeroE 29)) :=
    ((((Below.refl _ _).alloc (Nat.le_refl _) _).alloc (by simp) _).alloc (by simp; omega) _).alloc (by simp; omega) _
  have hO0 := Lib.hid ((((Own.new w #[.int .i64 op, .string kind, .string name, .slice va vn vc, .slice ka kids.length kc] 29).alloc (.cells #[.int .i64 pop, .string pkd, .string pnm, .slice pva pvn pvc, .slice pka pkn pkc] 29)).alloc (.cells #[.int .i64 qop, .string qkd, .string qnm, .slice qva qvn qvc, .slice qka qkn qkc] 29)).alloc (.cells zeroE 29))
  have hO1 := Lib.hid ((((Own.new' (w := w.alloc (.cells #[.int .i64 op, .string kind, .string name, .slice va vn vc, .slice ka kids.length kc] 29)) (n := w.heap.size + 1) (A := #[.int .i64 pop, .string pkd, .string pnm, .slice pva pvn pvc, .slice pka pkn pkc]) (t := 29) (by simp))).alloc (.cells #[.int .i64 qop, .string qkd, .string qnm, .slice qva qvn qvc, .slice qka qkn qkc] 29)).alloc (.cells zeroE 29))
  have hO2 := Lib.hid ((Own.new' (w := (w.alloc (.cells #[.int .i64 op, .string kind, .string name, .slice va vn vc, .slice ka kids.length kc] 29)).alloc (.cells #[.int .i64 pop, .string pkd, .string pnm, .slice pva pvn pvc, .slice pka pkn pkc] 29)) (n := w.heap.size + 2) (A := #[.int .i64 qop, .string qkd, .string qnm, .slice qva qvn qvc, .slice qka qkn qkc]) (t := 29) (by simp)).alloc (.cells zeroE 29))
  have hO3 := Lib.hid (Own.new' (w := ((w.alloc (.cells #[.int .i64 op, .string kind, .string name, .slice va vn vc, .slice ka kids.length kc] 29)).alloc (.cells #[.int .i64 pop, .string pkd, .string pnm, .slice pva pvn pvc, .slice pka pkn pkc] 29)).alloc (.cells #[.int .i64 qop, .string qkd, .string qnm, .slice qva qvn qvc, .slice qka qkn qkc] 29)) (n := w.heap.size + 3) (A := zeroE) (t := 29) (by simp))
  have hgo := Lib.hid (rsame_any m _ _ hself mp p _ hP _ (hm.trans (hM.trans (sub_of_below hB4))) (hmp.trans (hM.trans (sub_of_below hB4))))
  have hself := Lib.hid (hself.mono hm)
  have hqE := Lib.hid (hQ.mono hmp)
  have hv' := Lib.hid (hv.mono hm)
  have hL' := Lib.hid (fun v hv => (hL v hv).mono hm)
  replace hP := Lib.hid hP
  replace hQ := Lib.hid hQ
  replace hk := Lib.hid hk
  replace hl0 := Lib.hid hl0
  replace hE := Lib.hid hE
  replace ih := Lib.hid ih
  replace hm := Lib.hid hm
  replace hmp := Lib.hid hmp
  replace hM := Lib.hid hM
  replace hs4 := Lib.hid hs4
  have hB := Lib.hid hB4
  clear hv hL hB4
  unfold zeroE at hO0 hO1 hO2 hO3 hB hgo
  go_enter Tryz.func28, Tryz.ntmps28
  go_wp2_with fail
  generalize (((w.alloc (.cells #[.int .i64 op, .string kind, .string name, .slice va vn vc, .slice ka kids.length kc] 29)).alloc (.cells _ 29)).alloc (.cells _ 29)).alloc (.cells #[.int .i64 0, .string ⟨#[]⟩, .string ⟨#[]⟩, .slice none 0 0, .slice none 0 0] 29) = w4 at hO0 hO1 hO2 hO3 hB hgo ⊢
  refine hgo.out.mono ?_
  rintro e w5 ⟨rfl, hb5⟩
  have hl3 := hO3.out.lt
  have hp0 := hO0.out.below hb5 hO0.out.lt
  have hp1 := hO1.out.below hb5 hO1.out.lt
  have hp2 := hO2.out.below hb5 hO2.out.lt
  have hp3 := hO3.out.below hb5 hO3.out.lt
  have hB5 := hB.out.trans (hb5.mono hB.out.size)
  have hz5 : w.heap.size + 4 ≤ w5.heap.size := by have := hb5.size; omega
  clear hgo hO0 hO1 hO2 hO3 hB hb5 hl3
  cases hsb : sameB (.mk op kind name vals kids) p with
  | true =>
    have hQ3 := Lib.hid (show swapS p q (.mk op kind name vals kids) = q by rw [hQ2.out, if_pos hsb])
    obtain ⟨q0, q1, q2, q3, q4⟩ := own5z hp2
    obtain ⟨z0, z1, z2, z3, z4, g0, g1, g2, g3, g4⟩ := own5f hp3
    have hof := Lib.hid (off_new hM.out (k := w.heap.size + 3) (by omega))
    have hS5 := Lib.hid (hM.out.trans (sub_of_below hB5))
    replace hB5 := Lib.hid hB5
    replace hsb := Lib.hid hsb
    clear hp0 hp1 hp2 hp3
    go_wp2
    refine bodyPost_ret (v := .agg #[.int .i64 qop, .string qkd, .string qnm, .slice qva qvn qvc, .slice qka qkn qkc]) (by simp [results, Tryz.results28, go_sem, z0, z1, z2, z3, z4]) rfl ?_
    rw [hQ3.out]
    exact madeE_of ⟨M0, Ext.refl _ _, sub_setCell (sub_setCell (sub_setCell (sub_setCell (sub_setCell hS5.out hof.out _) hof.out _) hof.out _) hof.out _) hof.out _, hqE.out⟩ (((((hB5.out.setCell (by simp; omega) _).setCell (by simp; omega) _).setCell (by simp; omega) _).setCell (by simp; omega) _).setCell (by simp; omega) _)
  | false =>
    have hQ3 := Lib.hid (show swapS p q (.mk op kind name vals kids) = .mk op kind name vals (swapL p q kids) by rw [hQ2.out, if_neg (by rw [hsb]; decide)])
    obtain ⟨x0, x1, x2, x3, x4⟩ := own5z hp0
    replace hsb := Lib.hid hsb
    have hW : SX w (w5.alloc (.cells (madeCells #[.int .i64 0, .string ⟨#[]⟩, .string ⟨#[]⟩, .slice none 0 0, .slice none 0 0] (kids.length * 5)) 29)) #[.int .i64 op, .string kind, .string name, .slice va vn vc, .slice ka kids.length kc] #[.int .i64 pop, .string pkd, .string pnm, .slice pva pvn pvc, .slice pka pkn pkc] #[.int .i64 qop, .string qkd, .string qnm, .slice qva qvn qvc, .slice qka qkn qkc] w5.heap.size kids.length (List.replicate kids.length zeroRow) M0 M0 := by
      refine ⟨hB5.alloc (by omega) _, hp0.alloc _, hp1.alloc _, hp2.alloc _, hp3.alloc _, ⟨_, Own.new w5 _ _⟩, ?_, ?_, hz5, hM.out, Ext.refl _ _, sub_alloc (hM.out.trans (sub_of_below hB5)) _, off_new hM.out (by omega)⟩
      · have hr := rows_of_own (Own.new w5 (madeCells #[.int .i64 0, .string ⟨#[]⟩, .string ⟨#[]⟩, .slice none 0 0, .slice none 0 0] (kids.length * 5)) 29) 5 (List.replicate kids.length zeroRow) (by intro r hr; rw [List.eq_of_mem_replicate hr]; rfl) (made_rows _) kids.length (by simp) (by unfold maxLen; omega)
        rw [List.length_replicate] at hr
        exact hr
      · intro r hr
        rw [List.eq_of_mem_replicate hr]; rfl
    have hS := Lib.hid (show RelS w _ #[.int .i64 op, .string kind, .string name, .slice va vn vc, .slice ka kids.length kc] #[.int .i64 pop, .string pkd, .string pnm, .slice pva pvn pvc, .slice pka pkn pkc] #[.int .i64 qop, .string qkd, .string qnm, .slice qva qvn qvc, .slice qka qkn qkc] w5.heap.size kids.length M0 (swapL p q kids) 0 from ⟨_, _, hW, fun j r d hj => by omega⟩)
    clear hp0 hp1 hp2 hp3 hW hB5
    go_wp2_with (at_make; refine wpList_make_n _ rfl _ _ 27 rfl 29 i0 (.agg #[.int .i64 0, .string ⟨#[]⟩, .string ⟨#[]⟩, .slice none 0 0, .slice none 0 0]) 5 Tryz.underlying27 hi hz0 hz1 _ _ kids.length rfl rfl ?b2 ?b3 ?_)
    case b2 => rw [hz2]; omega
    case b3 => omega
    generalize w5.alloc (.cells (madeCells #[.int .i64 0, .string ⟨#[]⟩, .string ⟨#[]⟩, .slice none 0 0, .slice none 0 0] (kids.length * 5)) 29) = w6 at hS ⊢
    obtain ⟨g, hg⟩ : ∃ g : Nat, g = w5.heap.size := ⟨_, rfl⟩
    rw [← hg] at hS hz5 ⊢
    clear hg x0 x1 x2 x3 x4
    go_wp2
    go_loopw [19] (fun s19 wr => ∃ i : Nat, i ≤ kids.length ∧ s19 = .int .i64 i ∧ Hid (RelS w wr #[.int .i64 op, .string kind, .string name, .slice va vn vc, .slice ka kids.length kc] #[.int .i64 pop, .string pkd, .string pnm, .slice pva pvn pvc, .slice pka pkn pkc] #[.int .i64 qop, .string qkd, .string qnm, .slice qva qvn qvc, .slice qka qkn qkc] g kids.length M0 (swapL p q kids) i)) (fun s19 _ => kids.length - (intOf s19).toNat)
    case atStart => exact ⟨0, by omega, rfl, hS⟩
    case round =>
      clear hS
      obtain ⟨i, hi8, rfl, hR⟩ := hrel
      obtain ⟨rows, M, hX, hEr⟩ := hR.out
      obtain ⟨x0, x1, x2, x3, x4⟩ := own5z hX.box
      have hgl := hX.glt
      by_cases hil : i < kids.length
      case neg =>
        obtain rfl : i = kids.length := by omega
        have hR' := hX.res
        unfold zeroE at hR'
        obtain ⟨z0, z1, z2, z3, z4, g0, g1, g2, g3, g4⟩ := own5f hR'
        have f4 := hX.box.free 4
        have hlow := Lib.hid hX.low
        have hoB := hX.offs (k := w.heap.size) (by omega) (by omega)
        have hoR := hX.offs (k := w.heap.size + 3) (by omega) (by omega)
        have hog := hX.off
        have hS' := Lib.hid (addB_sub (g := g) hX.sub)
        have hoB' := Lib.hid (addB_off (u := wr) hoB (by omega : w.heap.size ≠ g))
        have hoR' := Lib.hid (addB_off (u := wr) hoR (by omega : w.heap.size + 3 ≠ g))
        have hext := Lib.hid ((hX.ext.low (B := w.heap.size) (by omega)).trans (addB_ext (u := wr) hog (B := w.heap.size) (by omega)) (Nat.le_refl _))
        have hsubM := Lib.hid (addB_ext (u := wr) hog (B := w.heap.size) (by omega)).sub
        have hEA := Lib.hid (show EAt (addB M g wr) (.mk op kind name vals (swapL p q kids)) [.int .i64 op, .string kind, .string name, .slice va vn vc, .slice (some ⟨g, 0, none⟩) kids.length kids.length] from
          EAt.mk rows (hv'.out.mono hext.out.sub) (addB_rows hX.rows) (by rw [swapL_len]; exact (rows_len hX.rows).1) (fun v hv => (hL'.out v hv).mono hext.out.sub)
            (fun i r k h1 h2 => (hEr i r k (by have := (List.getElem?_eq_some_iff.1 h1).1; have := (rows_len hX.rows).1; omega) h1 h2).mono hsubM.out))
        have hbl : w.heap.size < wr.heap.size := by omega
        have hrl : w.heap.size + 3 < wr.heap.size := by omega
        clear hX hEr hR hoB hoR hog hR'
        go_wp2
        refine bodyPost_ret (v := .agg #[.int .i64 op, .string kind, .string name, .slice va vn vc, .slice (some ⟨g, 0, none⟩) kids.length kids.length]) (by simp [results, Tryz.results28, go_sem, z0, z1, z2, z3, z4]) rfl ?_
        rw [hQ3.out]
        exact madeE_of ⟨addB M g wr, hext.out, sub_setCell (sub_setCell (sub_setCell (sub_setCell (sub_setCell (sub_setCell hS'.out hoB'.out _) hoR'.out _) hoR'.out _) hoR'.out _) hoR'.out _) hoR'.out _, hEA.out⟩ ((((((hlow.out.setCell (by simp) _).setCell (by simp; omega) _).setCell (by simp; omega) _).setCell (by simp; omega) _).setCell (by simp; omega) _).setCell (by simp; omega) _)
      obtain ⟨p0, p1, p2, p3, p4⟩ := own5z hX.boxp
      obtain ⟨q0, q1, q2, q3, q4⟩ := own5z hX.boxq
      have hmM : Sub m M := hm.out.trans hX.ext.sub
      have hmpM : Sub mp M := hmp.out.trans hX.ext.sub
      have hkidw := kid_at (hk.out.mono (hm.out.trans hM.out)) hl0.out (fun j r k h1 h2 => hE.out j r k h1 h2) hil
      obtain ⟨blk, off, op', kind', name', va', vn', vc', ka', kn', kc', rfl, d0, d1, d2, d3, d4, hr⟩ := hkidw
      have hblk : blk < w.heap.size := World.block_lt_of_cell? w _ d0
      have n0 : (0 : Int) ≤ (i : Int) := by omega
      have n1 : (i : Int) < (kids.length : Int) := by omega
      have hgo := Lib.hid (ih.out i _ kids[i] hr (List.getElem?_eq_getElem hil) (small_get kids i _ (List.getElem?_eq_getElem hil) hs4.out) mp p q _ _ M wr.drew hP.out hQ.out hmM hmpM hX.sub)
      have hd5 := Lib.hid (swapL_get p q kids i _ (List.getElem?_eq_getElem hil))
      generalize kids[i] = kd at hgo hd5
      replace hX := Lib.hid hX
      replace hEr := Lib.hid hEr
      clear hr hR hmM hmpM
      go_wp2_with fail
      refine wp_region_held_drew (S := fun W => ∃ rs M, SX w W #[.int .i64 op, .string kind, .string name, .slice va vn vc, .slice (some ⟨blk, off, none⟩) kids.length kc] #[.int .i64 pop, .string pkd, .string pnm, .slice pva pvn pvc, .slice pka pkn pkc] #[.int .i64 qop, .string qkd, .string qnm, .slice qva qvn qvc, .slice qka qkn qkc] g kids.length rs M0 M) (by kernel_rfl) ⟨rows, M, hX.out.drew⟩ (fun hHeld => ?_)
      have hXd := Lib.hid hX.out.drew
      clear hX
      generalize wr.drew = wd at hHeld hXd hgo ⊢
      refine wpAnyH_take (i := 0) (oi := ?oi1) (v := ?v1) ?ho1 (by kernel_rfl) (by kernel_rfl) (by kernel_rfl) ?hp1 (Or.inl ⟨?hw1, ?hy1⟩) (by assumption) ?rest1
      case ho1 => simp only [List.getElem?_toArray, List.getElem?_cons_zero]; rfl
      case hp1 => exact fun _ _ _ h => h
      case hw1 => rfl
      case hy1 =>
        intro W hSw
        go_simp
        try exact rfl
      simp only [Act.put, List.setIfInBounds_toArray, List.set_cons_zero, List.set_cons_succ]
      refine wpAnyH_take (i := 1) (oi := ?oi2) (v := ?v2) ?ho2 (by kernel_rfl) (by kernel_rfl) (by kernel_rfl) ?hp2 (Or.inl ⟨?hw2, ?hy2⟩) (by assumption) ?rest2
      case ho2 => simp only [List.getElem?_toArray, List.getElem?_cons_succ, List.getElem?_cons_zero]; rfl
      case hp2 => exact fun _ _ _ h => h
      case hw2 => rfl
      case hy2 =>
        intro W hSw
        go_simp
        try exact rfl
      simp only [Act.put, List.setIfInBounds_toArray, List.set_cons_zero, List.set_cons_succ]
      refine wpAnyH_take (i := 2) (oi := ?oi3) (v := ?v3) ?ho3 (by kernel_rfl) (by kernel_rfl) (by kernel_rfl) ?hp3 (Or.inl ⟨?hw3, ?hy3⟩) (by assumption) ?rest3
      case ho3 => simp only [List.getElem?_toArray, List.getElem?_cons_succ, List.getElem?_cons_zero]; rfl
      case hp3 => exact fun _ _ _ h => h
      case hw3 => rfl
      case hy3 =>
        intro W hSw
        go_simp
        try exact rfl
      simp only [Act.put, List.setIfInBounds_toArray, List.set_cons_zero, List.set_cons_succ]
      refine wpAnyH_take (i := 3) (oi := ?oi4) (v := ?v4) ?ho4 (by kernel_rfl) (by kernel_rfl) (by kernel_rfl) ?hp4 (Or.inl ⟨?hw4, ?hy4⟩) (by assumption) ?rest4
      case ho4 => simp only [List.getElem?_toArray, List.getElem?_cons_succ, List.getElem?_cons_zero]; rfl
      case hp4 => exact fun _ _ _ h => h
      case hw4 => rfl
      case hy4 =>
        intro W hSw
        obtain ⟨rs, Mw, hXW⟩ := hSw
        have h4 := hXW.box.cell 4
        simp only [List.getElem?_toArray, List.getElem?_cons_zero, List.getElem?_cons_succ] at h4
        go_simp
        try exact rfl
      simp only [Act.put, List.setIfInBounds_toArray, List.set_cons_zero, List.set_cons_succ]
      refine wpAnyH_take (i := 4) (oi := ?oi5) (v := ?v5) ?ho5 (by kernel_rfl) (by kernel_rfl) (by kernel_rfl) ?hp5 (Or.inl ⟨?hw5, ?hy5⟩) (by assumption) ?rest5
      case ho5 => simp only [List.getElem?_toArray, List.getElem?_cons_succ, List.getElem?_cons_zero]; rfl
      case hp5 => exact fun _ _ _ h => h
      case hw5 => rfl
      case hy5 =>
        intro W hSw
        go_simp
        try exact rfl
      simp only [Act.put, List.setIfInBounds_toArray, List.set_cons_zero, List.set_cons_succ]
      refine wpAnyH_take (i := 5) (oi := ?oi6) (v := ?v6) ?ho6 (by kernel_rfl) (by kernel_rfl) (by kernel_rfl) ?hp6 (Or.inl ⟨?hw6, ?hy6⟩) (by assumption) ?rest6
      case ho6 => simp only [List.getElem?_toArray, List.getElem?_cons_succ, List.getElem?_cons_zero]; rfl
      case hp6 => exact fun _ _ _ h => h
      case hw6 => rfl
      case hy6 =>
        intro W hSw
        go_simp
        try exact rfl
      simp only [Act.put, List.setIfInBounds_toArray, List.set_cons_zero, List.set_cons_succ]
      refine wpAnyH_take (i := 6) (oi := ?oi7) (v := ?v7) ?ho7 (by kernel_rfl) (by kernel_rfl) (by kernel_rfl) ?hp7 (Or.inl ⟨?hw7, ?hy7⟩) (by assumption) ?rest7
      case ho7 => simp only [List.getElem?_toArray, List.getElem?_cons_succ, List.getElem?_cons_zero]; rfl
      case hp7 => exact fun _ _ _ h => h
      case hw7 => rfl
      case hy7 =>
        intro W hSw
        obtain ⟨rs, Mw, hXW⟩ := hSw
        have hlw := hXW.low
        have h0 := (hlw.cell (p := ⟨blk, off + i * 5, none⟩) hblk).trans d0
        have h1 := (hlw.cell (p := ⟨blk, off + i * 5 + 1, none⟩) hblk).trans d1
        have h2 := (hlw.cell (p := ⟨blk, off + i * 5 + 2, none⟩) hblk).trans d2
        have h3 := (hlw.cell (p := ⟨blk, off + i * 5 + 3, none⟩) hblk).trans d3
        have h4 := (hlw.cell (p := ⟨blk, off + i * 5 + 4, none⟩) hblk).trans d4
        clear hXW hlw
        go_simp
        try exact rfl
      simp only [Act.put, List.setIfInBounds_toArray, List.set_cons_zero, List.set_cons_succ]
      refine wpAnyH_take (i := 7) (oi := ?oi8) (v := ?v8) ?ho8 (by kernel_rfl) (by kernel_rfl) (by kernel_rfl) ?hp8 (Or.inl ⟨?hw8, ?hy8⟩) (by assumption) ?rest8
      case ho8 => simp only [List.getElem?_toArray, List.getElem?_cons_succ, List.getElem?_cons_zero]; rfl
      case hp8 => exact fun _ _ _ h => h
      case hw8 => rfl
      case hy8 =>
        intro W hSw
        obtain ⟨rs, Mw, hXW⟩ := hSw
        obtain ⟨h0, h1, h2, h3, h4⟩ := own5z hXW.boxp
        clear hXW
        go_simp
        try exact rfl
      simp only [Act.put, List.setIfInBounds_toArray, List.set_cons_zero, List.set_cons_succ]
      refine wpAnyH_take (i := 8) (oi := ?oi9) (v := ?v9) ?ho9 (by kernel_rfl) (by kernel_rfl) (by kernel_rfl) ?hp9 (Or.inl ⟨?hw9, ?hy9⟩) (by assumption) ?rest9
      case ho9 => simp only [List.getElem?_toArray, List.getElem?_cons_succ, List.getElem?_cons_zero]; rfl
      case hp9 => exact fun _ _ _ h => h
      case hw9 => rfl
      case hy9 =>
        intro W hSw
        obtain ⟨rs, Mw, hXW⟩ := hSw
        obtain ⟨h0, h1, h2, h3, h4⟩ := own5z hXW.boxq
        clear hXW
        go_simp
        try exact rfl
      simp only [Act.put, List.setIfInBounds_toArray, List.set_cons_zero, List.set_cons_succ]
      refine wpAnyH_ready (rs := [9]) (by kernel_rfl) (by simp) ?_
      refine AllReadyH.cons rfl (fun K hK => ?_) AllReadyH.nil
      go_simp
      refine hgo.out.mono ?_
      rintro e w7 ⟨⟨M7, op7, kd7, nm7, va7, vn7, vc7, ka7, kn7, kc7, rfl, hX7, hS7, hE7⟩, hb7⟩
      have hX7' := Lib.hid (hXd.out.call hb7 hX7 hS7)
      have hEr7 := Lib.hid (fun j r d hj h1 h2 => (hEr.out j r d hj h1 h2).mono hX7.sub)
      replace hE7 := Lib.hid hE7
      clear hHeld hXd hb7 hX7 hS7
      refine hK.out _ _ ⟨rows, M7, hX7'.out⟩ (fun hHeld => ?_)
      clear hK K
      refine wpAnyH_take (i := 10) (oi := ?oi10) (v := ?v10) ?ho10 (by kernel_rfl) (by kernel_rfl) (by kernel_rfl) ?hp10 (Or.inl ⟨?hw10, ?hy10⟩) (by assumption) ?rest10
      case ho10 => simp only [List.getElem?_toArray, List.getElem?_cons_succ, List.getElem?_cons_zero]; rfl
      case hp10 => exact fun _ _ _ h => h
      case hw10 => rfl
      case hy10 =>
        intro W hSw
        go_simp
        try exact rfl
      simp only [Act.put, List.setIfInBounds_toArray, List.set_cons_zero, List.set_cons_succ]
      refine wpAnyH_ready (rs := [11]) (by kernel_rfl) (by simp) ?_
      refine AllReadyH.cons rfl (fun K hK => ?_) AllReadyH.nil
      obtain ⟨u0, u1, u2, u3, u4, c0, c1, c2, c3, c4, e0, e1, e2, e3, e4⟩ := hX7'.out.cells hil
      have hgl7 := hX7'.out.glt
      go_simp
      refine hK.out _ _ ⟨_, M7, hX7'.out.put hil (.int .i64 op7) (.string kd7) (.string nm7) (.slice va7 vn7 vc7) (.slice ka7 kn7 kc7)⟩ (fun hHeld => ?_)
      clear hK K hHeld c0 c1 c2 c3 c4 e0 e1 e2 e3 e4
      refine wpAnyH_done (by kernel_rfl) ?_ _
      have hNx := Lib.hid (relS_next hX7'.out hEr7.out hil hd5.out hE7.out)
      go_wp2
      go_roundw
      case rel => exact ⟨i + 1, by omega, by go_num, hNx⟩
      case measure => simp [intOf]; omega

/-- The law's swap. -/
theorem swap_any (m : Mem) (d : ED) (r : List Value) (h : EAt m d r) : SwapOk m d r := by
  induction h with
  | mk rows hv hk hl hL hE ih => exact swap_step m _ _ _ _ _ _ _ rows hv hk hl hL hE ih

end Go.Proofs.YtlohdmghaeabjaaGreatDoor.clause

