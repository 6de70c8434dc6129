/- Conditions as they lie in memory; the schema's check of a condition and the reference's: both give one and the same number. -/
import Derived.Test.YtlohdmghaeabjaaGreatDoorSchema2
import Derived.Deep.DeepMust
namespace Go.Proofs.YtlohdmghaeabjaaGreatDoor.schema
open Go.RowKit

/-- A condition as data. -/
inductive ED where
  | mk (op : Int) (kind name : ByteArray) (vals : List VD) (kids : List ED)

/-- A condition's five cells, and what they lead to in a memory. -/
inductive EAt (m : Mem) : ED → List Value → Prop
  | mk {op : Int} {kind name : ByteArray} {vals : List VD} {kids : List ED} {vs ks : Value} (rows : List (List Value))
      (hv : RowsAt m 4 vs (vals.map VD.row)) (hk : RowsAt m 5 ks rows) (hl : rows.length = kids.length) (hL : ∀ v ∈ vals, LAt m v)
      (h : ∀ (i : Nat) (r : List Value) (k : ED), rows[i]? = some r → kids[i]? = some k → EAt m k r) :
      EAt m (.mk op kind name vals kids) [.int .i64 op, .string kind, .string name, vs, ks]

theorem EAt.mono {m m' : Mem} (hs : Sub m m') {d : ED} {r : List Value} (h : EAt m d r) : EAt m' d r := by
  induction h with
  | mk rows hv hk hl hL _ ih => exact .mk rows (hv.mono hs) (hk.mono hs) hl (fun v hm => (hL v hm).mono hs) ih

/-- The error of a condition's own part. -/
def hereS (decl : List DD) (segs : List ByteArray) (op : Int) (kind name : ByteArray) (vals : List VD) : Int :=
  if op = 5 then (if hasS name.toList segs then 0 else 11)
  else if 6 ≤ op ∧ op ≤ 15 then
    (if typeOf kind.toList name.toList decl = 0 then 11 else if fitsS op (typeOf kind.toList name.toList decl) vals then 0 else 8)
  else 0
mutual
def exprS (decl : List DD) (segs : List ByteArray) : ED → Int
  | .mk op kind name vals kids => if hereS decl segs op kind name vals = 0 then exprL decl segs kids else hereS decl segs op kind name vals
def exprL (decl : List DD) (segs : List ByteArray) : List ED → Int
  | [] => 0
  | k :: r => if exprS decl segs k = 0 then exprL decl segs r else exprS decl segs k
end

theorem exprL_hit {decl : List DD} {segs : List ByteArray} {l : List ED} {k : Nat} (h : k < l.length) (h1 : (exprS decl segs l[k] != 0) = true) (T : exprL decl segs (l.drop k) = exprL decl segs l) : exprS decl segs l[k] = exprL decl segs l := by
  rw [← T, List.drop_eq_getElem_cons h, exprL, if_neg (by simpa using h1)]
theorem exprL_miss {decl : List DD} {segs : List ByteArray} {l : List ED} {k : Nat} (h : k < l.length) (h1 : (exprS decl segs l[k] != 0) = false) (T : exprL decl segs (l.drop k) = exprL decl segs l) : exprL decl segs (l.drop (k + 1)) = exprL decl segs l := by
  rw [← T, List.drop_eq_getElem_cons h, exprL, if_pos (by simpa using h1)]
theorem exprL_end {decl : List DD} {segs : List ByteArray} {l : List ED} {k : Nat} (h : ¬ k < l.length) (T : exprL decl segs (l.drop k) = exprL decl segs l) : exprL decl segs l = 0 := by
  rw [← T, List.drop_eq_nil_of_le (by omega), exprL]

/-- What both checks do. -/
def Checks (n : Int) (w : World) (e : Ending) (w' : World) : Prop := e = .returned (.int .i64 n) ∧ Below w.heap.size w w'

/-- The contract for one condition, whatever the world in which the memory is still there. -/
def ExprOk (f : FuncId) (decl : List DD) (segs : List ByteArray) (dv sv : Value) (m : Mem) (d : ED) (r : List Value) : Prop :=
  ∀ w : World, Sub m w.cell? → Calls Tryz.prog f #[dv, sv, .agg r.toArray] w (Checks (exprS decl segs d) w)

theorem kid_cells {m : Mem} {decl : List DD} {segs : List ByteArray} {dv sv : Value} {f : FuncId} {rows : List (List Value)} {kids : List ED} {blk off : Nat} (hr : ∀ i r, rows[i]? = some r → ∀ j x, r[j]? = some x → m ⟨blk, off + i * 5 + j, none⟩ = some x)
    (hl : rows.length = kids.length) (hE : ∀ (i : Nat) (r : List Value) (k : ED), rows[i]? = some r → kids[i]? = some k → EAt m k r)
    (ih : ∀ (i : Nat) (r : List Value) (k : ED), rows[i]? = some r → kids[i]? = some k → ExprOk f decl segs dv sv m k r) {k : Nat} (hk : k < kids.length) :
    ∃ op kind name va vn vc ka kn kc, m ⟨blk, off + k * 5, none⟩ = some (.int .i64 op) ∧ m ⟨blk, off + k * 5 + 1, none⟩ = some (.string kind) ∧ m ⟨blk, off + k * 5 + 2, none⟩ = some (.string name) ∧
      m ⟨blk, off + k * 5 + 3, none⟩ = some (.slice va vn vc) ∧ m ⟨blk, off + k * 5 + 4, none⟩ = some (.slice ka kn kc) ∧ ExprOk f decl segs dv sv m kids[k] [.int .i64 op, .string kind, .string name, .slice va vn vc, .slice ka kn kc] := by
  have hk' : k < rows.length := by omega
  have h1 : rows[k]? = some rows[k] := by simp [hk']
  have h2 : kids[k]? = some kids[k] := by simp [hk]
  have h := hr k rows[k] h1
  have hi := ih k _ _ h1 h2
  generalize rows[k] = r at h hi h1
  generalize kids[k] = d at hi h2
  have he := hE k _ _ h1 h2
  cases he with
  | mk rows' hv' hk' hl' hL' h' =>
    obtain ⟨va, vc, rfl, -, -, -⟩ := hv'
    obtain ⟨ka, kc, rfl, -, -, -⟩ := hk'
    exact ⟨_, _, _, _, _, _, _, _, _, h 0 _ rfl, h 1 _ rfl, h 2 _ rfl, h 3 _ rfl, h 4 _ rfl, hi⟩

theorem exprS_stop {decl : List DD} {segs : List ByteArray} {op : Int} {kind name : ByteArray} {vals : List VD} {kids : List ED} {n : Int} (h : hereS decl segs op kind name vals = n) (hn : n ≠ 0) : exprS decl segs (.mk op kind name vals kids) = n := by
  rw [exprS, h, if_neg hn]
theorem exprS_go {decl : List DD} {segs : List ByteArray} {op : Int} {kind name : ByteArray} {vals : List VD} {kids : List ED} (h : hereS decl segs op kind name vals = 0) : exprS decl segs (.mk op kind name vals kids) = exprL decl segs kids := by
  rw [exprS, h, if_pos rfl]

/-- The ways through a condition's own part. -/
theorem ways (decl : List DD) (segs : List ByteArray) (op : Int) (kind name : ByteArray) (vals : List VD) :
    (op = 5 ∧ hasS name.toList segs = false ∧ hereS decl segs op kind name vals = 11) ∨
    (op = 5 ∧ hasS name.toList segs = true ∧ hereS decl segs op kind name vals = 0) ∨
    ((op == 5) = false ∧ decide (6 ≤ op ∧ op ≤ 15) = false ∧ hereS decl segs op kind name vals = 0) ∨
    ∃ ty, typeOf kind.toList name.toList decl = ty ∧ (op == 5) = false ∧ decide (6 ≤ op ∧ op ≤ 15) = true ∧
      ((ty = 0 ∧ hereS decl segs op kind name vals = 11) ∨ ((ty == 0) = false ∧ fitsS op ty vals = false ∧ hereS decl segs op kind name vals = 8) ∨ ((ty == 0) = false ∧ fitsS op ty vals = true ∧ hereS decl segs op kind name vals = 0)) := by
  unfold hereS
  by_cases h5 : op = 5
  · cases hh : hasS name.toList segs <;> simp [h5]
  · by_cases h6 : 6 ≤ op ∧ op ≤ 15
    · right; right; right
      refine ⟨_, rfl, by simp [h5], by simp [h6], ?_⟩
      by_cases ht : typeOf kind.toList name.toList decl = 0
      · simp [h5, h6, ht]
      · cases hf : fitsS op (typeOf kind.toList name.toList decl) vals <;> simp [h5, h6, ht]
    · right; right; left
      simp [h5, h6]

end Go.Proofs.YtlohdmghaeabjaaGreatDoor.schema

