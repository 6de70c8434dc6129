/- Conditions as they lie in memory; the schema's check of a condition and the reference's: both give one and the same number. -/
import Derived.Test.YtblmmldhlbnbiaaDoorSchema2
import Derived.Deep.DeepMust
namespace Go.Proofs.YtblmmldhlbnbiaaDoor.schema
open Go.RowKit

/-- A condition as data. -/
inductive ED where
  | mk (op : Int) (kind name : ByteArray) (vals : List VD) (kids : List ED)

/-- A condition's five cells, and what they lead to in a memory. -/
inductive EAt (m : Mem) : ED → List Value → Prop
  | mk {op : Int} {kind name : ByteArray} {vals : List VD} {kids : List ED} {vs ks : Value} (rows : List (List Value))
      (hv : RowsAt m 4 vs (vals.map VD.row)) (hk : RowsAt m 5 ks rows) (hl : rows.length = kids.length)
      (h : ∀ (i : Nat) (r : List Value) (k : ED), rows[i]? = some r → kids[i]? = some k → EAt m k r) :
      EAt m (.mk op kind name vals kids) [.int .i64 op, .string kind, .string name, vs, ks]

theorem EAt.mono {m m' : Mem} (hs : Sub m m') {d : ED} {r : List Value} (h : EAt m d r) : EAt m' d r := by
  induction h with
  | mk rows hv hk hl _ ih => exact .mk rows (hv.mono hs) (hk.mono hs) hl ih

/-- The error of a condition's own part. -/
def hereS (decl : List DD) (segs : List ByteArray) (op : Int) (kind name : ByteArray) (vals : List VD) : Int :=
  if op = 5 then (if hasS name.toList segs then 0 else 11)
  else if 6 ≤ op ∧ op ≤ 15 then
    (if typeOf kind.toList name.toList decl = 0 then 11 else if fitsS op (typeOf kind.toList name.toList decl) vals then 0 else 8)
  else 0
mutual
def exprS (decl : List DD) (segs : List ByteArray) : ED → Int
  | .mk op kind name vals kids => if hereS decl segs op kind name vals = 0 then exprL decl segs kids else hereS decl segs op kind name vals
def exprL (decl : List DD) (segs : List ByteArray) : List ED → Int
  | [] => 0
  | k :: r => if exprS decl segs k = 0 then exprL decl segs r else exprS decl segs k
end

theorem exprL_hit {decl : List DD} {segs : List ByteArray} {l : List ED} {k : Nat} (h : k < l.length) (h1 : (exprS decl segs l[k] != 0) = true) (T : exprL decl segs (l.drop k) = exprL decl segs l) : exprS decl segs l[k] = exprL decl segs l := by
  rw [← T, List.drop_eq_getElem_cons h, exprL, if_neg (by simpa using h1)]
theorem exprL_miss {decl : List DD} {segs : List ByteArray} {l : List ED} {k : Nat} (h : k < l.length) (h1 : (exprS decl segs l[k] != 0) = false) (T : exprL decl segs (l.drop k) = exprL decl segs l) : exprL decl segs (l.drop (k + 1)) = exprL decl segs l := by
  rw [← T, List.drop_eq_getElem_cons h, exprL, if_pos (by simpa using h1)]
theorem exprL_end {decl : List DD} {segs : List ByteArray} {l : List ED} {k : Nat} (h : ¬ k < l.length) (T : exprL decl segs (l.drop k) = exprL decl segs l) : exprL decl segs l = 0 := by
  rw [← T, List.drop_eq_nil_of_le (by omega), exprL]

/-- What both checks do. -/
def Checks (n : Int) (w : World) (e : Ending) (w' : World) : Prop := e = .returned (.int .i64 n) ∧ Below w.heap.size w w'

/-- The contract for one condition, whatever the world in which the memory is still there. -/
def ExprOk (f : FuncId) (decl : List DD) (segs : List ByteArray) (dv sv : Value) (m : Mem) (d : ED) (r : List Value) : Prop :=
  ∀ w : World, Sub m w.cell? → Calls Tryd.prog f #[dv, sv, .agg r.toArray] w (Checks (exprS decl segs d) w)

theorem kid_cells {m : Mem} {decl : List DD} {segs : List ByteArray} {dv sv : Value} {f : FuncId} {rows : List (List Value)} {kids : List ED} {blk off : Nat} (hr : ∀ i r, rows[i]? = some r → ∀ j x, r[j]? = some x → m ⟨blk, off + i * 5 + j, none⟩ = some x)
    (hl : rows.length = kids.length) (hE : ∀ (i : Nat) (r : List Value) (k : ED), rows[i]? = some r → kids[i]? = some k → EAt m k r)
    (ih : ∀ (i : Nat) (r : List Value) (k : ED), rows[i]? = some r → kids[i]? = some k → ExprOk f decl segs dv sv m k r) {k : Nat} (hk : k < kids.length) :
    ∃ op kind name va vn vc ka kn kc, m ⟨blk, off + k * 5, none⟩ = some (.int .i64 op) ∧ m ⟨blk, off + k * 5 + 1, none⟩ = some (.string kind) ∧ m ⟨blk, off + k * 5 + 2, none⟩ = some (.string name) ∧
      m ⟨blk, off + k * 5 + 3, none⟩ = some (.slice va vn vc) ∧ m ⟨blk, off + k * 5 + 4, none⟩ = some (.slice ka kn kc) ∧ ExprOk f decl segs dv sv m kids[k] [.int .i64 op, .string kind, .string name, .slice va vn vc, .slice ka kn kc] := by
  have hk' : k < rows.length := by omega
  have h1 : rows[k]? = some rows[k] := by simp [hk']
  have h2 : kids[k]? = some kids[k] := by simp [hk]
  have h := hr k rows[k] h1
  have hi := ih k _ _ h1 h2
  generalize rows[k] = r at h hi h1
  generalize kids[k] = d at hi h2
  have he := hE k _ _ h1 h2
  cases he with
  | mk rows' hv' hk' hl' h' =>
    obtain ⟨va, vc, rfl, -, -, -⟩ := hv'
    obtain ⟨ka, kc, rfl, -, -, -⟩ := hk'
    exact ⟨_, _, _, _, _, _, _, _, _, h 0 _ rfl, h 1 _ rfl, h 2 _ rfl, h 3 _ rfl, h 4 _ rfl, hi⟩

theorem exprS_stop {decl : List DD} {segs : List ByteArray} {op : Int} {kind name : ByteArray} {vals : List VD} {kids : List ED} {n : Int} (h : hereS decl segs op kind name vals = n) (hn : n ≠ 0) : exprS decl segs (.mk op kind name vals kids) = n := by
  rw [exprS, h, if_neg hn]
theorem exprS_go {decl : List DD} {segs : List ByteArray} {op : Int} {kind name : ByteArray} {vals : List VD} {kids : List ED} (h : hereS decl segs op kind name vals = 0) : exprS decl segs (.mk op kind name vals kids) = exprL decl segs kids := by
  rw [exprS, h, if_pos rfl]

/-- The ways through a condition's own part. -/
theorem ways (decl : List DD) (segs : List ByteArray) (op : Int) (kind name : ByteArray) (vals : List VD) :
    (op = 5 ∧ hasS name.toList segs = false ∧ hereS decl segs op kind name vals = 11) ∨
    (op = 5 ∧ hasS name.toList segs = true ∧ hereS decl segs op kind name vals = 0) ∨
    ((op == 5) = false ∧ decide (6 ≤ op ∧ op ≤ 15) = false ∧ hereS decl segs op kind name vals = 0) ∨
    ∃ ty, typeOf kind.toList name.toList decl = ty ∧ (op == 5) = false ∧ decide (6 ≤ op ∧ op ≤ 15) = true ∧
      ((ty = 0 ∧ hereS decl segs op kind name vals = 11) ∨ ((ty == 0) = false ∧ fitsS op ty vals = false ∧ hereS decl segs op kind name vals = 8) ∨ ((ty == 0) = false ∧ fitsS op ty vals = true ∧ hereS decl segs op kind name vals = 0)) := by
  unfold hereS
  by_cases h5 : op = 5
  · cases hh : hasS name.toList segs <;> simp [h5]
  · by_cases h6 : 6 ≤ op ∧ op ≤ 15
    · right; right; right
      refine ⟨_, rfl, by simp [h5], by simp [h6], ?_⟩
      by_cases ht : typeOf kind.toList name.toList decl = 0
      · simp [h5, h6, ht]
      · cases hf : fitsS op (typeOf kind.toList name.toList decl) vals <;> simp [h5, h6, ht]
    · right; right; left
      simp [h5, h6]

set_option maxHeartbeats 1000000 in
theorem rexpr_step (decl : List DD) (segs : List ByteArray) (dv sv : Value) (m : Mem) (hd : RowsAt m 3 dv (decl.map DD.row)) (hsg : RowsAt m 1 sv (segs.map strRow))
    (op : Int) (kind name : ByteArray) (vals : List VD) (kids : List ED) (vs ks : Value) (rows : List (List Value)) (hv : RowsAt m 4 vs (vals.map VD.row)) (hk : RowsAt m 5 ks rows) (hl : rows.length = kids.length)
    (hE : ∀ (i : Nat) (r : List Value) (k : ED), rows[i]? = some r → kids[i]? = some k → EAt m k r)
    (ih : ∀ (i : Nat) (r : List Value) (k : ED), rows[i]? = some r → kids[i]? = some k → ExprOk 13 decl segs dv sv m k r) :
    ExprOk 13 decl segs dv sv m (.mk op kind name vals kids) [.int .i64 op, .string kind, .string name, vs, ks] := by
  intro w hs
  obtain ⟨a, c, rfl, hn, hc, hr⟩ := hk
  have hb1 : ∀ o, Below w.heap.size w (w.alloc o) := fun o => (Below.refl _ _).alloc (Nat.le_refl _) o
  have hd1 := Lib.hid (fun o => (hd.mono hs).mono (sub_of_below (hb1 o)))
  have hsg1 := Lib.hid (fun o => (hsg.mono hs).mono (sub_of_below (hb1 o)))
  have hv1 := Lib.hid (fun o => (hv.mono hs).mono (sub_of_below (hb1 o)))
  have HE := Lib.hid hE
  have IH := Lib.hid ih
  have hr0 := Lib.hid hr
  have hS := Lib.hid hs
  clear hr hE ih hv hd hsg hs
  rw [hl] at hn ⊢
  have hl0 := Lib.hid hl
  clear hl
  unfold maxLen at hc
  have hb2 := Lib.hid hb1
  clear hb1
  rcases ways decl segs op kind name vals with ⟨rfl, hh, he⟩ | ⟨rfl, hh, he⟩ | ⟨h5, h6, he⟩ | ⟨ty, hty, h5, h6, ⟨rfl, he⟩ | ⟨ht, hf, he⟩ | ⟨ht, hf, he⟩⟩
  · rw [exprS_stop he (by decide)]
    clear he
    have hh1 := Lib.hid hh
    clear hh
    go_enter Tryd.func13, Tryd.ntmps13
    go_wp2_with (go_at_call 23; refine (has_any _ segs name _ (hsg1.out _)).mono ?_; rintro e w' ⟨rfl, rfl⟩; rw [hh1.out])
    go_ret
    exact ⟨rfl, hb2.out _⟩
  · rw [exprS_go he]
    clear he
    have hh1 := Lib.hid hh
    clear hh
    have h61 := Lib.hid (show decide ((6 : Int) ≤ 5 ∧ (5 : Int) ≤ 15) = false by decide)
    go_enter Tryd.func13, Tryd.ntmps13
    go_wp2_with (first | (go_at_call 23; refine (has_any _ segs name _ (hsg1.out _)).mono ?_; rintro e w' ⟨rfl, rfl⟩; rw [hh1.out]) | (go_at_call 24; refine (istest_any _ _).mono ?_; rintro e w' ⟨rfl, rfl⟩; rw [h61.out]))
    go_loopw [8] (fun i wr => ∃ k : Nat, k ≤ kids.length ∧ i = .int .i64 k ∧ Below (w.heap.size + 1) (w.alloc (.cells #[.int .i64 5, .string kind, .string name, vs, .slice a kids.length c] 26)) wr ∧ Hid (exprL decl segs (kids.drop k) = exprL decl segs kids)) (fun i _ => kids.length - (intOf i).toNat)
    case atStart => exact ⟨0, Nat.zero_le _, rfl, Below.refl _ _, rfl⟩
    case round =>
      obtain ⟨k, hk, rfl, hb, hT⟩ := hrel
      have hb0 : Below w.heap.size w wr := (hb2.out _).trans (hb.mono (by omega))
      by_cases hlt : k < kids.length
      · rcases hr0.out with he | ⟨blk, off, rfl, hr⟩
        · have := hl0.out
          rw [he] at this
          simp only [List.length_nil] at this
          omega
        have hsub := hS.out.trans (sub_of_below hb0)
        obtain ⟨op1, kind1, name1, va, vn, vc, ka, kn, kc, c0, c1, c2, c3, c4, hi⟩ := kid_cells hr hl0.out HE.out IH.out hlt
        clear hr
        have c0 := hsub _ _ c0
        have c1 := hsub _ _ c1
        have c2 := hsub _ _ c2
        have c3 := hsub _ _ c3
        have c4 := hsub _ _ c4
        have hi0 := Lib.hid (hi wr hsub)
        clear hi hsub
        have cb : wr.cell? ⟨w.heap.size, 4, none⟩ = some (.slice (some ⟨blk, off, none⟩) kids.length c) := (hb.cell (p := ⟨w.heap.size, 4, none⟩) (by simp)).trans (by simp)
        go_wp2_with (go_at_call 13; refine hi0.out.mono ?_; rintro e w' ⟨rfl, hb4⟩)
        · have h1 : (exprS decl segs kids[k] != 0) = true := by assumption
          go_ret
          exact ⟨ret_int (exprL_hit hlt h1 hT.out), hb0.trans (hb4.mono hb0.size)⟩
        · have h1 : (exprS decl segs kids[k] != 0) = false := by assumption
          go_roundw
          case rel => exact ⟨k + 1, by omega, by go_num, hb.trans (hb4.mono (by have := hb.size; simp at this; omega)), exprL_miss hlt h1 hT.out⟩
          case measure => simp [intOf]; omega
      · have hE1 := Lib.hid (exprL_end hlt hT.out)
        have cb : wr.cell? ⟨w.heap.size, 4, none⟩ = some (.slice a kids.length c) := (hb.cell (p := ⟨w.heap.size, 4, none⟩) (by simp)).trans (by simp)
        go_wp2
        go_ret
        exact ⟨ret_int hE1.out.symm, hb0⟩
  · rw [exprS_go he]
    clear he
    have h61 := Lib.hid h6
    clear h6
    go_enter Tryd.func13, Tryd.ntmps13
    go_wp2_with (first | (go_at_call 24; refine (istest_any _ _).mono ?_; rintro e w' ⟨rfl, rfl⟩; rw [h61.out]))
    go_loopw [8] (fun i wr => ∃ k : Nat, k ≤ kids.length ∧ i = .int .i64 k ∧ Below (w.heap.size + 1) (w.alloc (.cells #[.int .i64 op, .string kind, .string name, vs, .slice a kids.length c] 26)) wr ∧ Hid (exprL decl segs (kids.drop k) = exprL decl segs kids)) (fun i _ => kids.length - (intOf i).toNat)
    case atStart => exact ⟨0, Nat.zero_le _, rfl, Below.refl _ _, rfl⟩
    case round =>
      obtain ⟨k, hk, rfl, hb, hT⟩ := hrel
      have hb0 : Below w.heap.size w wr := (hb2.out _).trans (hb.mono (by omega))
      by_cases hlt : k < kids.length
      · rcases hr0.out with he | ⟨blk, off, rfl, hr⟩
        · have := hl0.out
          rw [he] at this
          simp only [List.length_nil] at this
          omega
        have hsub := hS.out.trans (sub_of_below hb0)
        obtain ⟨op1, kind1, name1, va, vn, vc, ka, kn, kc, c0, c1, c2, c3, c4, hi⟩ := kid_cells hr hl0.out HE.out IH.out hlt
        clear hr
        have c0 := hsub _ _ c0
        have c1 := hsub _ _ c1
        have c2 := hsub _ _ c2
        have c3 := hsub _ _ c3
        have c4 := hsub _ _ c4
        have hi0 := Lib.hid (hi wr hsub)
        clear hi hsub
        have cb : wr.cell? ⟨w.heap.size, 4, none⟩ = some (.slice (some ⟨blk, off, none⟩) kids.length c) := (hb.cell (p := ⟨w.heap.size, 4, none⟩) (by simp)).trans (by simp)
        go_wp2_with (go_at_call 13; refine hi0.out.mono ?_; rintro e w' ⟨rfl, hb4⟩)
        · have h1 : (exprS decl segs kids[k] != 0) = true := by assumption
          go_ret
          exact ⟨ret_int (exprL_hit hlt h1 hT.out), hb0.trans (hb4.mono hb0.size)⟩
        · have h1 : (exprS decl segs kids[k] != 0) = false := by assumption
          go_roundw
          case rel => exact ⟨k + 1, by omega, by go_num, hb.trans (hb4.mono (by have := hb.size; simp at this; omega)), exprL_miss hlt h1 hT.out⟩
          case measure => simp [intOf]; omega
      · have hE1 := Lib.hid (exprL_end hlt hT.out)
        have cb : wr.cell? ⟨w.heap.size, 4, none⟩ = some (.slice a kids.length c) := (hb.cell (p := ⟨w.heap.size, 4, none⟩) (by simp)).trans (by simp)
        go_wp2
        go_ret
        exact ⟨ret_int hE1.out.symm, hb0⟩
  · rw [exprS_stop he (by decide)]
    clear he
    have hty1 := Lib.hid hty
    have h61 := Lib.hid h6
    clear hty h6
    go_enter Tryd.func13, Tryd.ntmps13
    go_wp2_with (first | (go_at_call 24; refine (istest_any _ _).mono ?_; rintro e w' ⟨rfl, rfl⟩; rw [h61.out]) | (go_at_call 25; refine (rtype_any _ decl kind name _ (hd1.out _)).mono ?_; rintro e w' ⟨rfl, rfl⟩; rw [hty1.out]))
    go_ret
    exact ⟨rfl, hb2.out _⟩
  · rw [exprS_stop he (by decide)]
    clear he
    have hty1 := Lib.hid hty
    have h61 := Lib.hid h6
    have hf1 := Lib.hid hf
    clear hty h6 hf
    go_enter Tryd.func13, Tryd.ntmps13
    go_wp2_with (first | (go_at_call 24; refine (istest_any _ _).mono ?_; rintro e w' ⟨rfl, rfl⟩; rw [h61.out]) | (go_at_call 25; refine (rtype_any _ decl kind name _ (hd1.out _)).mono ?_; rintro e w' ⟨rfl, rfl⟩; rw [hty1.out]) | (go_at_call 26; refine (rfits_any op ty vals kind name vs _ _ (hv1.out _)).mono ?_; rintro e w' ⟨rfl, hb3⟩; rw [hf1.out]))
    go_ret
    exact ⟨rfl, (hb2.out _).trans (hb3.mono (hb2.out _).size)⟩
  · rw [exprS_go he]
    clear he
    have hty1 := Lib.hid hty
    have h61 := Lib.hid h6
    have hf1 := Lib.hid hf
    clear hty h6 hf
    go_enter Tryd.func13, Tryd.ntmps13
    go_wp2_with (first | (go_at_call 24; refine (istest_any _ _).mono ?_; rintro e w' ⟨rfl, rfl⟩; rw [h61.out]) | (go_at_call 25; refine (rtype_any _ decl kind name _ (hd1.out _)).mono ?_; rintro e w' ⟨rfl, rfl⟩; rw [hty1.out]) | (go_at_call 26; refine (rfits_any op ty vals kind name vs _ _ (hv1.out _)).mono ?_; rintro e w' ⟨rfl, hb3⟩; rw [hf1.out]))
    go_loopw [8] (fun i wr => ∃ k : Nat, k ≤ kids.length ∧ i = .int .i64 k ∧ Below (w.heap.size + 1) (w.alloc (.cells #[.int .i64 op, .string kind, .string name, vs, .slice a kids.length c] 26)) wr ∧ Hid (exprL decl segs (kids.drop k) = exprL decl segs kids)) (fun i _ => kids.length - (intOf i).toNat)
    case atStart => exact ⟨0, Nat.zero_le _, rfl, hb3.mono (by simp), rfl⟩
    case round =>
      obtain ⟨k, hk, rfl, hb, hT⟩ := hrel
      have hb0 : Below w.heap.size w wr := (hb2.out _).trans (hb.mono (by omega))
      by_cases hlt : k < kids.length
      · rcases hr0.out with he | ⟨blk, off, rfl, hr⟩
        · have := hl0.out
          rw [he] at this
          simp only [List.length_nil] at this
          omega
        have hsub := hS.out.trans (sub_of_below hb0)
        obtain ⟨op1, kind1, name1, va, vn, vc, ka, kn, kc, c0, c1, c2, c3, c4, hi⟩ := kid_cells hr hl0.out HE.out IH.out hlt
        clear hr
        have c0 := hsub _ _ c0
        have c1 := hsub _ _ c1
        have c2 := hsub _ _ c2
        have c3 := hsub _ _ c3
        have c4 := hsub _ _ c4
        have hi0 := Lib.hid (hi wr hsub)
        clear hi hsub
        have cb : wr.cell? ⟨w.heap.size, 4, none⟩ = some (.slice (some ⟨blk, off, none⟩) kids.length c) := (hb.cell (p := ⟨w.heap.size, 4, none⟩) (by simp)).trans (by simp)
        go_wp2_with (go_at_call 13; refine hi0.out.mono ?_; rintro e w' ⟨rfl, hb4⟩)
        · have h1 : (exprS decl segs kids[k] != 0) = true := by assumption
          go_ret
          exact ⟨ret_int (exprL_hit hlt h1 hT.out), hb0.trans (hb4.mono hb0.size)⟩
        · have h1 : (exprS decl segs kids[k] != 0) = false := by assumption
          go_roundw
          case rel => exact ⟨k + 1, by omega, by go_num, hb.trans (hb4.mono (by have := hb.size; simp at this; omega)), exprL_miss hlt h1 hT.out⟩
          case measure => simp [intOf]; omega
      · have hE1 := Lib.hid (exprL_end hlt hT.out)
        have cb : wr.cell? ⟨w.heap.size, 4, none⟩ = some (.slice a kids.length c) := (hb.cell (p := ⟨w.heap.size, 4, none⟩) (by simp)).trans (by simp)
        go_wp2
        go_ret
        exact ⟨ret_int hE1.out.symm, hb0⟩

theorem rexpr_any (decl : List DD) (segs : List ByteArray) (dv sv : Value) (m : Mem) (hd : RowsAt m 3 dv (decl.map DD.row)) (hsg : RowsAt m 1 sv (segs.map strRow)) (d : ED) (r : List Value) (h : EAt m d r) :
    ExprOk 13 decl segs dv sv m d r := by
  induction h with
  | mk rows hv hk hl hE ih => exact rexpr_step decl segs dv sv m hd hsg _ _ _ _ _ _ _ rows hv hk hl hE ih

end Go.Proofs.YtblmmldhlbnbiaaDoor.schema
