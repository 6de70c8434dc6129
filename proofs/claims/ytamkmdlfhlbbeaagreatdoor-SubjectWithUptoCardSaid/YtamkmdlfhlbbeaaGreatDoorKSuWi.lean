/- slices.Insert of one attribute where there is no room: a new row. -/
import Derived.Test.YtamkmdlfhlbbeaaGreatDoorKJ20
import Derived.Test.YtamkmdlfhlbbeaaGreatDoorKSuK
import Derived.ArgAppend
import Derived.Lib.AppendZeros
import Derived.Lib.AppendZerosOnto
import Derived.Laws.CopyOwn
import Derived.Deep.RegionLaw
namespace Go.Proofs.YtamkmdlfhlbbeaaGreatDoor.subj
open Go.RowKit Go.Proofs.YtamkmdlfhlbbeaaGreatDoor Go.Proofs.YtamkmdlfhlbbeaaGreatDoor.schema Go.Proofs.YtamkmdlfhlbbeaaGreatDoor.value Go.Proofs.YtamkmdlfhlbbeaaGreatDoor.text Go.Proofs.YtamkmdlfhlbbeaaGreatDoor.clause Go.Proofs.YtamkmdlfhlbbeaaGreatDoor.draw

section
variable {P : Program} (w : World)
/-- A copy of whole elements into a row that is known whole. -/
theorem run_copyK (dT sT ty elem : TypeId) (size : Nat) (g o dLen dCap : Nat) (a : Addr) (sLen sCap : Nat) (cur : Array Value) (t : TypeId) (cs : List Value)
    (hu : P.underlying dT = some (.slice elem)) (hs : (P.info? elem).map (·.size) = some size)
    (hg : w.heap[g]? = some (.cells cur t (0, 0))) (hn : cs.length = Nat.min sLen dLen * size)
    (hsrc : ∀ j v, cs[j]? = some v → w.cell? (a.add j) = some v) (hfit : o + cs.length ≤ cur.size) (h1 : ∀ v ∈ cs, v.oneCell' = true) :
    (Builtin.copy_ #[dT, sT] ty #[.slice (some ⟨g, o, none⟩) dLen dCap, .slice (some a) sLen sCap]).run P w =
      .ok (goInt (Nat.min sLen dLen)) (w.setRow g (cur.toList.take o ++ cs ++ cur.toList.drop (o + cs.length)).toArray) := by
  have hl := run_loadCells_list (P := P) w a cs hsrc
  have hst := run_storeCells_at P g o t cs 0 cur w hg (by simpa using hfit) h1
  cases hq : P.info? elem with
  | none => simp [hq] at hs
  | some i =>
    have hi : i.size = size := by simpa [hq] using hs
    simp [Builtin.copy_, run_underlying hu, Builtin.lenOf, Builtin.firstCells, sizeOf, typeInfo, hq, hi, ← hn, hl, hst]

theorem wp_copyK {o : Oper} {a : Act} {K : Act → World → Prop} {Q : Exit → Act → World → Prop} (d s : Operand) (dT sT : TypeId)
    (ho : o.op = .call { callee := .builtin .copy, args := #[d, s], argTypes := #[dT, sT] }) (elem : TypeId) (size : Nat) (hu : P.underlying dT = some (.slice elem)) (hsz : (P.info? elem).map (·.size) = some size)
    (g off dLen dCap : Nat) (ad : Addr) (sLen sCap : Nat) (hd : a.eval d = .slice (some ⟨g, off, none⟩) dLen dCap) (hs : a.eval s = .slice (some ad) sLen sCap)
    (cur : List Value) (t : TypeId) (hg : w.heap[g]? = some (.cells cur.toArray t (0, 0))) (cs : List Value) (hn : cs.length = Nat.min sLen dLen * size)
    (hsrc : ∀ j v, cs[j]? = some v → w.cell? (ad.add j) = some v) (hfit : off + cs.length ≤ cur.length) (h1 : ∀ v ∈ cs, v.oneCell' = true)
    (h : ∀ w' q, Hid (w'.heap[g]? = some (.cells (splice cur off cs).toArray t (0, 0))) → w.grownBy w' (some g) → K (a.put o.dst q) w') : o.wp P a w K Q := by
  have hrun := run_copyK (P := P) w dT sT o.type elem size g off dLen dCap ad sLen sCap cur.toArray t cs hu hsz hg hn hsrc (by simpa using hfit) h1
  unfold Oper.wp execOp
  simp only [ho, resolve, invoke, builtin, Sem.run_bind, Sem.run_pure, Result.andThen_ok, List.map_toArray, List.map_cons, List.map_nil, hd, hs, hrun]
  exact h _ _ (show _ = _ by simpa [splice] using setRow_heap w g _ _ t _ hg) ⟨rfl, rfl, rfl, by simp [World.setRow], fun k _ hk => setRow_other w g k _ (fun e => hk (by simp [e]))⟩

theorem wpList_copyK {ops : Array Oper} {rest : List Oper} {o : Oper} {a : Act} {Q : Exit → Act → World → Prop} (hgd : o.guard = none) (d s : Operand) (dT sT : TypeId)
    (ho : o.op = .call { callee := .builtin .copy, args := #[d, s], argTypes := #[dT, sT] }) (elem : TypeId) (size : Nat) (hu : P.underlying dT = some (.slice elem)) (hsz : (P.info? elem).map (·.size) = some size)
    (g off dLen dCap : Nat) (ad : Addr) (sLen sCap : Nat) (hd : a.eval d = .slice (some ⟨g, off, none⟩) dLen dCap) (hs : a.eval s = .slice (some ad) sLen sCap)
    (cur : List Value) (t : TypeId) (hg : w.heap[g]? = some (.cells cur.toArray t (0, 0))) (cs : List Value) (hn : cs.length = Nat.min sLen dLen * size)
    (hsrc : ∀ j v, cs[j]? = some v → w.cell? (ad.add j) = some v) (hfit : off + cs.length ≤ cur.length) (h1 : ∀ v ∈ cs, v.oneCell' = true)
    (h : ∀ w' q, Hid (w'.heap[g]? = some (.cells (splice cur off cs).toArray t (0, 0))) → w.grownBy w' (some g) → wpList P ops Q rest (a.put o.dst q) w') : wpList P ops Q (o :: rest) a w :=
  wpList_plain hgd fun _ hK => wp_copyK w d s dT sT ho elem size hu hsz g off dLen dCap ad sLen sCap hd hs cur t hg cs hn hsrc hfit h1 fun w' q h2 h3 => hK _ _ (h w' q h2 h3)

theorem step_copyK {ops : Array Oper} {o : Oper} {a : Act} {K : Act → World → Prop} {Q : Exit → Act → World → Prop} {E : Prop} (hgd : o.guard = none) (d s : Operand) (dT sT : TypeId)
    (ho : o.op = .call { callee := .builtin .copy, args := #[d, s], argTypes := #[dT, sT] }) (elem : TypeId) (size : Nat) (hu : P.underlying dT = some (.slice elem)) (hsz : (P.info? elem).map (·.size) = some size)
    (g off dLen dCap : Nat) (ad : Addr) (sLen sCap : Nat) (hd : a.eval d = .slice (some ⟨g, off, none⟩) dLen dCap) (hs : a.eval s = .slice (some ad) sLen sCap)
    (cur : List Value) (t : TypeId) (hg : w.heap[g]? = some (.cells cur.toArray t (0, 0))) (cs : List Value) (hn : cs.length = Nat.min sLen dLen * size)
    (hsrc : ∀ j v, cs[j]? = some v → w.cell? (ad.add j) = some v) (hfit : off + cs.length ≤ cur.length) (h1 : ∀ v ∈ cs, v.oneCell' = true)
    (h : ∀ w' q, Hid (w'.heap[g]? = some (.cells (splice cur off cs).toArray t (0, 0))) → w.grownBy w' (some g) → K (a.put o.dst q) w') :
    if Region.wanted o (yielded ops a.tmps) = true then Oper.wp P o a w K Q else E := by
  have hw : Region.wanted o (yielded ops a.tmps) = true := by simp [Region.wanted, hgd]
  rw [if_pos hw]
  exact wp_copyK w d s dT sT ho elem size hu hsz g off dLen dCap ad sLen sCap hd hs cur t hg cs hn hsrc hfit h1 h

/-- append(s, make([]T, k)...) where there is no room. -/
theorem wpList_zerosK {ops : Array Oper} {rest : List Oper} {o : Oper} {a : Act} {Q : Exit → Act → World → Prop} (hgd : o.guard = none) (s x : Operand) (t tn : TypeId) (kn : IntKind)
    (ho : o.op = .call { callee := .builtin .append, args := #[s, x], argTypes := #[t, tn] }) (e : TypeId) (i : TypeInfo) (z : Value) (size bytes : Nat) (ht : P.underlying t = some (.slice e)) (htn : P.underlying tn = some (.int kn)) (hi : P.info? e = some i) (hz : i.zero = some z)
    (hsize : i.size = size) (hby : i.bytes = bytes) (hzs : z.cells.size = size) (hsz : 0 < size)
    (ad : Addr) (n cap : Nat) (olds : List Value) (hs : a.eval s = .slice (some ad) n cap) (hl : olds.length = n * size) (hold : ∀ j u, olds[j]? = some u → w.cell? (ad.add j) = some u)
    (k N : Nat) (hN : n + k = N) (hx : a.eval x = .int .i64 k) (h0 : 0 < k) (hg : cap < n + k) (h63 : n + k ≤ 1099511627776) (hbytes : (n + k) * bytes ≤ 140737488355328)
    (h : ∀ (w' : World) (cap' : Nat) (cur : List Value), Hid (w'.heap[w.heap.size]? = some (.cells cur.toArray e (0, 0))) → N ≤ cap' → cap' ≤ maxLen → cur.length = cap' * size → Hid (cur.take (n * size) = olds) → w.grownBy w' none → wpList P ops Q rest (a.put o.dst (.slice (some ⟨w.heap.size, 0, none⟩) N cap')) w') : wpList P ops Q (o :: rest) a w := by
  subst hN
  subst hsize
  subst hby
  have hr := Lib.run_append_grow_zeros w t tn o.type e i z .i64 kn ht htn hi hz (some ad) n cap olds (run_firstCells_some w.drew i.size n ad n cap olds hl hold) k h0 hsz hg (by omega) (by have := Nat.mul_le_mul_right i.bytes (show k ≤ n + k by omega); omega) (growslice_fits hg hbytes)
  have hge := grownCap_ge w (n + k) cap e
  have hcm : grownCap w (n + k) cap e ≤ maxLen := grownCap_le_maxLen w (n + k) cap e (by unfold maxLen; omega)
  refine Lib.wpList_append_run w hgd s x t tn ho _ _ hs hx _ _ hr (h _ _ (olds.toArray ++ Builtin.zeroCells z.cells k ++ Builtin.zeroCells z.cells (grownCap w (n + k) cap e - (n + k))).toList (Lib.hid (by rw [Array.toArray_toList]; exact heap_alloc_new w.drew _)) hge hcm ?_ (Lib.hid ?_) ⟨rfl, rfl, rfl, by simp, fun k hk _ => heap_alloc_old w.drew _ hk⟩)
  · simp only [Array.length_toList, Array.size_append, List.size_toArray, size_zeroCells, hzs, hl, ← Nat.add_mul]
    congr 1
    omega
  · simp only [Array.toList_append, List.append_assoc]
    rw [← hl]
    exact List.take_left
end


theorem flat_rows (l : List AD) : (l.map AD.row).flatten.length = l.length * 5 := by
  induction l with
  | nil => rfl
  | cons a r ih => simp only [List.map_cons, List.flatten_cons, List.length_append, ih, List.length_cons]; simp [AD.row, VD.row]; omega
theorem flat_take (l : List AD) (i : Nat) : (l.map AD.row).flatten.take (i * 5) = ((l.take i).map AD.row).flatten := by
  induction l generalizing i with
  | nil => simp
  | cons a r ih =>
    cases i with
    | zero => simp
    | succ i =>
      have h5 : a.row.length = 5 := rfl
      rw [List.map_cons, List.flatten_cons, show (i + 1) * 5 = a.row.length + i * 5 by rw [h5]; omega, List.take_length_add_append, ih]
      rfl
theorem flat_drop (l : List AD) (i : Nat) : (l.map AD.row).flatten.drop (i * 5) = ((l.drop i).map AD.row).flatten := by
  induction l generalizing i with
  | nil => simp
  | cons a r ih =>
    cases i with
    | zero => simp
    | succ i =>
      have h5 : a.row.length = 5 := rfl
      rw [List.map_cons, List.flatten_cons, show (i + 1) * 5 = a.row.length + i * 5 by rw [h5]; omega, List.drop_length_add_append, ih]
      rfl
/-- What lies in the new row in the end. -/
theorem splice_rows {cur X d : List Value} {i n : Nat} (hX : X.length = n * 5) (hd : d.length = 5) (hin : i ≤ n) (ht : cur.take (i * 5) = X.take (i * 5)) :
    (splice (splice cur (i * 5) d) ((i + 1) * 5) (X.drop (i * 5))).take ((n + 1) * 5) = X.take (i * 5) ++ d ++ X.drop (i * 5) := by
  have e1 : (splice cur (i * 5) d).take ((i + 1) * 5) = X.take (i * 5) ++ d := by
    unfold splice
    rw [ht, ← List.append_assoc, show (i + 1) * 5 = (X.take (i * 5) ++ d).length by simp [hX, hd]; omega]
    exact List.take_left
  rw [splice, e1, ← List.append_assoc]
  rw [show (n + 1) * 5 = (X.take (i * 5) ++ d ++ X.drop (i * 5)).length by simp [hX, hd]; omega]
  exact List.take_left

set_option maxRecDepth 100000 in
set_option maxHeartbeats 4000000 in
/-- An attribute is put in at a place of a list without room. -/
theorem insert_any (l : List AD) (b i : Nat) (d : AD) (vb : Nat) (w : World) (h : RowsAt w.cell? 5 (.slice (some ⟨b, 0, none⟩) l.length l.length) (l.map AD.row)) (hi : i ≤ l.length) (hn : l.length ≤ 1099511627)
    (hv : ∀ j u, d.row[j]? = some u → w.cell? ⟨vb, j, none⟩ = some u) :
    Calls Tryz.prog 78 #[.slice (some ⟨b, 0, none⟩) l.length l.length, .int .i64 i, .slice (some ⟨vb, 0, none⟩) 1 1] w fun e w' => (∃ v, e = .returned v ∧ w'.ownsRow w.heap.size 79 5 v (l.length + 1) ((l.take i ++ d :: l.drop i).map AD.row).flatten) ∧ Below w.heap.size w w' := by
  obtain ⟨i0, hi0, hz0, hz1, hz2⟩ := info_parts info5
  have hd1 := ad_one' d
  have hdl : d.row.length = 5 := rfl
  have hR := Lib.hid h
  replace hv := Lib.hid hv
  have hX : (l.map AD.row).flatten.length = l.length * 5 := flat_rows l
  have hfin : ((l.take i ++ d :: l.drop i).map AD.row).flatten = (l.map AD.row).flatten.take (i * 5) ++ d.row ++ (l.map AD.row).flatten.drop (i * 5) := by
    rw [flat_take, flat_drop]; simp
  have hXc : ∀ j u, (l.map AD.row).flatten[j]? = some u → w.cell? ⟨b, j, none⟩ = some u := by
    intro j u hj
    obtain ⟨a0, c0, e1, -, -, e4⟩ := h
    injection e1 with e1
    subst e1
    rcases e4 with e4 | ⟨blk, off, e5, e6⟩
    · have : l = [] := by simpa using e4
      subst this
      simp at hj
    · injection e5 with e5
      injection e5 with e5 e7
      subst e5
      subst e7
      have hjl : j < l.length * 5 := by rw [← hX]; exact (List.getElem?_eq_some_iff.1 hj).1
      have hq : (l.map AD.row).flatten[j]? = ((l.map AD.row)[j / 5]?.bind fun r => r[j % 5]?) := by
        have h1 := flat_drop l (j / 5)
        have h2 : (l.map AD.row).flatten[j]? = ((l.map AD.row).flatten.drop (j / 5 * 5))[j % 5]? := by rw [List.getElem?_drop]; congr 1; omega
        have h3 : j / 5 < l.length := by omega
        rw [h2, h1, List.drop_eq_getElem_cons h3, List.map_cons, List.flatten_cons, List.getElem?_append_left (by show j % 5 < 5; omega)]
        simp [h3]
      rw [hq] at hj
      cases hr : (l.map AD.row)[j / 5]? with
      | none => rw [hr] at hj; cases hj
      | some r =>
        rw [hr] at hj
        have := e6 (j / 5) r hr (j % 5) u hj
        rw [show j = 0 + j / 5 * 5 + j % 5 by omega]
        exact this
  have hone : ∀ u ∈ (l.map AD.row).flatten, u.oneCell' = true := by
    intro u hu
    obtain ⟨r, hr, hu⟩ := List.mem_flatten.1 hu
    obtain ⟨x, -, rfl⟩ := List.mem_map.1 hr
    exact ad_one' x u hu
  replace hXc := Lib.hid hXc
  generalize (l.map AD.row).flatten = X at hX hfin hXc hone
  replace hfin := Lib.hid hfin
  replace hone := Lib.hid hone
  have hw1 : IntKind.i64.wrap ((l.length : Int) + 1) = (l.length : Int) + 1 := by rw [IntKind.wrap_i64]; omega
  go_enter Tryz.func78, Tryz.ntmps78
  by_cases hin : i = l.length
  · subst hin
    go_wp2_with (at_builtin; refine wpList_append_grows _ rfl _ _ 35 rfl 79 i0 (.agg #[.string ⟨#[]⟩, .int .i64 0, .int .i64 0, .string ⟨#[]⟩, .slice none 0 0]) 5 72 Tryz.underlying35 hi0 hz0 hz1 hz2 rfl (by decide) (some ⟨b, 0, none⟩) l.length l.length X rfl (fun e => by cases e) hX (fun b' hb j u hj => by injection hb with hb; subst hb; rw [Addr.add_lit, Nat.zero_add]; exact hXc.out j u hj) ⟨vb, 0, none⟩ 1 1 d.row rfl rfl (fun j u hj => by rw [Addr.add_lit, Nat.zero_add]; exact hv.out j u hj) hd1 (by omega) (by unfold maxLen; omega) (by omega) ?_; intro v' w' hown hgr; replace hown := Lib.hid hown; replace hgr := Lib.hid hgr)
    go_wp2
    go_ret
    refine ⟨⟨v', rfl, ?_⟩, ⟨hgr.out.os, hgr.out.tape, hgr.out.output, hgr.out.size, fun k hk => hgr.out.block k hk (by simp)⟩⟩
    rw [hfin.out, List.take_of_length_le (by omega), List.drop_eq_nil_of_le (by omega), List.append_nil]
    exact hown.out
  · have hil : i < l.length := by omega
    have hii : ¬ ((i : Int) = (l.length : Int)) := by omega
    have hi1 : (i : Int) ≤ (l.length : Int) := by omega
    have hi2 : ¬ (l.length = i) := by omega
    have hkk : (l.length : Int) + 1 - (i : Int) = ((l.length + 1 - i : Nat) : Int) := by omega
    have hkw : IntKind.i64.wrap ((l.length : Int) + 1 - (i : Int)) = ((l.length + 1 - i : Nat) : Int) := by rw [IntKind.wrap_i64]; omega
    have hv0 : vb < w.heap.size := World.block_lt_of_cell? w _ (hv.out 0 _ rfl)
    have hb0 : b < w.heap.size := World.block_lt_of_cell? w ⟨b, 0, none⟩ (hXc.out 0 _ (List.getElem?_eq_getElem (by omega)))
    go_wp2_with (first
      | (at_builtin; refine wpList_zerosK _ rfl _ _ 35 3 .i64 rfl 79 i0 (.agg #[.string ⟨#[]⟩, .int .i64 0, .int .i64 0, .string ⟨#[]⟩, .slice none 0 0]) 5 72 Tryz.underlying35 Tryz.underlying3 hi0 hz0 hz1 hz2 rfl (by decide) ⟨b, 0, none⟩ i l.length (X.take (i * 5)) rfl (by simp [hX]; omega) (fun j u hj => by rw [Addr.add_lit, Nat.zero_add]; rw [List.getElem?_take] at hj; split at hj; exact hXc.out j u hj; cases hj) (l.length + 1 - i) (l.length + 1) (by omega) rfl (by omega) (by omega) (by omega) (by omega) ?_; intro w1 cap1 cur1 hg1 hc1 hm1 hl1 ht1 hgr1; have hci : ¬ (cap1 = i) := (by omega); have hcj : ¬ (cap1 = i + 1) := (by omega); replace hgr1 := Lib.hid hgr1)
      | (refine wpList_copyK _ rfl _ _ 35 35 rfl 79 5 Tryz.underlying35 (by rw [hi0]; simp [hz1]) w.heap.size (i * 5) (l.length + 1 - i) (cap1 - i) ⟨vb, 0, none⟩ 1 1 rfl rfl cur1 79 hg1.out d.row (by rw [hdl, show Nat.min 1 (l.length + 1 - i) = 1 by show min _ _ = _; omega]) (fun j u hj => by rw [Addr.add_lit, Nat.zero_add]; exact hgr1.out.cell (hv.out j u hj) (by simp)) (by rw [hdl, hl1]; omega) hd1 ?_; intro w2 q2 hg2 hgr2; replace hgr2 := Lib.hid hgr2))
    have hG := Lib.hid (show ∀ j u, (X.drop (i * 5))[j]? = some u → w2.drew.cell? ((⟨b, i * 5, none⟩ : Addr).add j) = some u from fun j u hj => by
      rw [Addr.add_lit]
      rw [List.getElem?_drop] at hj
      exact hgr2.out.cell (hgr1.out.cell (hXc.out _ u hj) (by simp)) (by simp; omega))
    have hcur : (splice cur1 (i * 5) d.row).length = cap1 * 5 := by rw [length_splice _ _ _ (by rw [hdl, hl1]; omega), hl1]
    have hw2 : IntKind.i64.wrap ((i : Int) + 1) = (i : Int) + 1 := by rw [IntKind.wrap_i64]; omega
    have hb1 : (0 : Int) ≤ (i : Int) + 1 := by omega
    have htn : ((i : Int) + 1).toNat = i + 1 := by omega
    have hb4 : (i : Int) + 1 ≤ (l.length : Int) + 1 := by omega
    have hb5 : i ≤ l.length := hi
    have hs1 : l.length + 1 - (i + 1) = l.length - i := by omega
    have hdr : (X.drop (i * 5)).length = (l.length - i) * 5 := by rw [List.length_drop, hX]; omega
    have hod : ∀ v ∈ X.drop (i * 5), v.oneCell' = true := fun v hv => hone.out v (List.mem_of_mem_drop hv)
    have hg2d : Hid (w2.drew.heap[w.heap.size]? = some (.cells (splice cur1 (i * 5) d.row).toArray 79 (0, 0))) := hg2
    go_region_law ((refine step_copyK _ rfl _ _ 35 35 rfl 79 5 Tryz.underlying35 (by rw [hi0]; simp [hz1]) w.heap.size ((i + 1) * 5) (l.length - i) (cap1 - (i + 1)) ⟨b, i * 5, none⟩ (l.length - i) (l.length - i) (by simp [Act.eval, Act.put]) (by simp [Act.eval, Act.put]) _ 79 hg2d.out (X.drop (i * 5)) (by rw [hdr, show Nat.min (l.length - i) (l.length - i) = l.length - i from Nat.min_self _]) hG.out (by rw [hcur, hdr]; omega) hod ?_; intro w3 q3 hg3 hgr3; replace hgr3 := Lib.hid hgr3))
    all_goals
      go_wp2
      go_ret
      have e1 := hgr1.out
      have e2 := hgr2.out
      have e3 := hgr3.out
      have z1 := e1.size
      have z2 := e2.size
      have z3 : w2.heap.size ≤ w3.heap.size := e3.size
      refine ⟨⟨_, rfl, by rw [hfin.out]; simp [hX, hdl]; omega, Or.inr ⟨w.heap.size, cap1, _, rfl, Nat.le_refl _, hg3.out, hc1, hm1, ?_, ?_⟩⟩, ?_⟩
      · rw [List.size_toArray, length_splice _ _ _ (by rw [hcur, hdr]; omega), hcur]
      · rw [hfin.out]
        exact splice_rows hX hdl hi ht1.out
      · refine ⟨?_, ?_, ?_, by omega, fun k hk => ?_⟩
        · exact e3.os.trans (e2.os.trans e1.os)
        · exact e3.tape.trans (e2.tape.trans e1.tape)
        · exact e3.output.trans (e2.output.trans e1.output)
        · have hne : some k ≠ some w.heap.size := by simp; omega
          exact (e3.block k (by show k < w2.heap.size; omega) hne).trans ((e2.block k (by omega) hne).trans (e1.block k hk (by simp)))

end Go.Proofs.YtamkmdlfhlbbeaaGreatDoor.subj

