/- Words on memory that was made from some block on. Walks of the schema's own check of a test and of conditions. Conditions as they lie in memory; the schema's check of a condition and the reference's: both give one and the same number. How two values compare: the program's Compare. Whether two rows of texts are equal: slices.Equal at any two rows. Whether two values are equal: the program's Equal at any two values. Chapter 11, plain: subjects and tests as data; which attribute is found, whether a test and a condition hold. Which attribute is found: the program's Lookup and the reference's. Walks of the drawing functions of flagstonedraw: Mod, New, Left, Next. The state of the program's parser: what is left of the tokens, or the first error and its line. -/
import Derived.Test.YtfffpflflggonaaGreatDoorKS14
import Derived.Deep.DeepMust
import Derived.Test.YtfffpflflggonaaGreatDoorKValG
import Derived.Test.YtfffpflflggonaaGreatDoorShelf
import Derived.WalkKit
import Derived.WalkSpells
import Derived.WalkLawsBesides
import Derived.Deep.QuietTactic
import Derived.Lib.Hide
import Derived.Test.YtfffpflflggonaaGreatDoorChecked
import Derived.Test.YtfffpflflggonaaGreatDoorKS0
import Derived.BigQuiet
namespace Go.Proofs.YtfffpflflggonaaGreatDoor.draw
open Go.RowKit schema
def newM (B b : Nat) (w : World) : Mem:=fun p=>if p.block < B∨p.block = b then none else w.cell? p
theorem newM_but (B b : Nat) (w : World) : Sub (newM B b w) (but b w):=by
  intro p v h
  unfold newM at h
  unfold but
  split at h
  · cases h
  · rename_i hne
    rw [if_neg (fun e=>hne (Or.inr e))]
    exact h
theorem newM_mono {B B' : Nat} (hB : B≤B') (b : Nat) (w : World) : Sub (newM B' b w) (newM B b w):=by
  intro p v h
  unfold newM at *
  split at h
  · cases h
  · rename_i hne
    rw [if_neg (fun e=>hne (e.imp (fun e=>by omega) id))]
    exact h
theorem newM_grown {B b : Nat} {w u : World} (g : w.grownBy u (some b)) : Sub (newM B b w) (newM B b u):=by
  intro p v h
  unfold newM at *
  split at h
  · cases h
  · rename_i hne
    rw [if_neg hne]
    exact g.cell h (by intro e; injection e with e; exact hne (Or.inr e))
theorem newM_set {B b : Nat} {w : World} {q : Addr} (hq : q.block < B) (x : Value) : Sub (newM B b w) (newM B b (w.setCell q x)):=by
  intro p v h
  unfold newM at *
  split at h
  · cases h
  · rename_i hne
    rw [if_neg hne]
    rw [World.cell?_of_block (Below.heap_setCell w q x p.block (fun e=>hne (Or.inl (by omega))))]
    exact h
theorem rows_new {B b : Nat} {w : World} {sz : Nat} {v : Value} {rows : List (List Value)} (h : RowsAt w.cell? sz v rows) (hv : ∀ n,v.ownBlock = some n→B≤n∧n ≠ b) : RowsAt (newM B b w) sz v rows:=by
  obtain ⟨a,c,h1,h2,h3,h4⟩:=h
  refine ⟨a,c,h1,h2,h3,?_⟩
  rcases h4 with h4 | ⟨blk,off,h5,h6⟩
  · exact Or.inl h4
  · refine Or.inr ⟨blk,off,h5,fun i r hi j x hx=>?_⟩
    obtain ⟨g1,g2⟩:=hv blk (by rw [h1,h5]; rfl)
    unfold newM
    rw [if_neg (by intro e; rcases e with e | e <;> simp at e <;> omega)]
    exact h6 i r hi j x hx
theorem rows_of_own_new {w : World} {n B b : Nat} {A : Array Value} {t : TypeId} (h : Own w n A t) (hB : B≤n) (hb : n ≠ b) (sz : Nat) (rows : List (List Value)) (hs : ∀ r∈rows,r.length = sz) (hA : A.toList = rows.flatten) (c : Nat) (hc : rows.length≤c) (hm : c≤maxLen) :
    RowsAt (newM B b w) sz (.slice (some ⟨n,0,none⟩) rows.length c) rows :=
  rows_new (rows_of_own h sz rows hs hA c hc hm) (fun k hk=>by
    have e : n = k:=by simpa [Value.ownBlock] using hk
    subst e
    exact ⟨hB,hb⟩)
theorem rows_of_owns_new {w : World} {base B b : Nat} {e : TypeId} {sz : Nat} {v : Value} {n : Nat} {xs : List Value} (h : w.ownsRow base e sz v n xs) (hB : B≤base) (hb : b < base) (rows : List (List Value)) (hn : n = rows.length) (hs : ∀ r∈rows,r.length = sz) (hx : xs = rows.flatten) :
    RowsAt (newM B b w) sz v rows :=
  rows_new (rows_of_owns h rows hn hs hx) (fun k hk=>by have:=(h.lt k hk).1; exact ⟨by omega,by omega⟩)
def newG (B b : Nat) (g : Option Nat) (w : World) : Mem:=fun p=>if p.block < B∨p.block = b∨some p.block = g then none else w.cell? p
theorem newG_none (B b : Nat) (g : Option Nat) (w : World) : Sub (newG B b g w) (newM B b w):=by
  intro p v h
  unfold newG at h
  unfold newM
  split at h
  · cases h
  · rename_i hne
    rw [if_neg (fun e=>hne (e.imp id Or.inl))]
    exact h
theorem newM_newG {B B' b : Nat} {g : Option Nat} (hB : B≤B') (hg : ∀ k,g = some k→k < B') (w : World) : Sub (newM B' b w) (newG B b g w):=by
  intro p v h
  unfold newM at h
  unfold newG
  split at h
  · cases h
  · rename_i hne
    rw [if_neg]
    · exact h
    · rintro (e | e | e)
      · exact hne (Or.inl (by omega))
      · exact hne (Or.inr e)
      · exact hne (Or.inl (hg _ e.symm))
theorem newG_grown {B b : Nat} {g : Option Nat} {w u : World} (gr : w.grownBy u (some b)) : Sub (newG B b g w) (newG B b g u):=by
  intro p v h
  unfold newG at *
  split at h
  · cases h
  · rename_i hne
    rw [if_neg hne]
    exact gr.cell h (by intro e; injection e with e; exact hne (Or.inr (Or.inl e)))
theorem newG_set {B b : Nat} {g : Option Nat} {w : World} {q : Addr} (hq : q.block < B) (x : Value) : Sub (newG B b g w) (newG B b g (w.setCell q x)):=by
  intro p v h
  unfold newG at *
  split at h
  · cases h
  · rename_i hne
    rw [if_neg hne]
    rw [World.cell?_of_block (Below.heap_setCell w q x p.block (fun e=>hne (Or.inl (by omega))))]
    exact h
theorem newG_app {B b gg : Nat} {g : Option Nat} {w u : World} (gr : w.grownBy u g) (hat : g = some gg∨gg = w.heap.size) : Sub (newG B b g w) (newG B b (some gg) u):=by
  intro p v h
  unfold newG at *
  split at h
  · cases h
  · rename_i hne
    have hlt:=World.block_lt_of_cell? w p h
    rw [if_neg]
    · exact gr.cell h (fun e=>hne (Or.inr (Or.inr e)))
    · rintro (e | e | e)
      · exact hne (Or.inl e)
      · exact hne (Or.inr (Or.inl e))
      · injection e with e
        rcases hat with hat | hat
        · exact hne (Or.inr (Or.inr (by rw [hat,e])))
        · omega
theorem LAtSet {B b : Nat} {w : World} {q : Addr} {d : VD} (h : LAt (newM B b w) d) (hq : q.block < B) (x : Value) : LAt (newM B b (w.setCell q x)) d:=h.mono (newM_set hq x)
theorem LAtAlloc {B b : Nat} {w : World} {d : VD} (h : LAt (newM B b w) d) (o : Obj) : LAt (newM B b (w.alloc o)) d:=h.mono (newM_grown (World.grownBy_alloc w o _))
theorem LAtLow {B B' b : Nat} {w : World} {d : VD} (h : LAt (newM B' b w) d) (hB : B≤B') : LAt (newM B b w) d:=h.mono (newM_mono hB b w)
end Go.Proofs.YtfffpflflggonaaGreatDoor.draw
namespace Go.Proofs.YtfffpflflggonaaGreatDoor.schema
open Go.RowKit
end Go.Proofs.YtfffpflflggonaaGreatDoor.schema
namespace Go.Proofs.YtfffpflflggonaaGreatDoor.schema
open Go.RowKit
inductive ED where
  | mk (op : Int) (kind name : ByteArray) (vals : List VD) (kids : List ED)
inductive EAt (m : Mem) : ED→List Value→Prop
  | mk {op : Int} {kind name : ByteArray} {vals : List VD} {kids : List ED} {vs ks : Value} (rows : List (List Value))
      (hv : RowsAt m 4 vs (vals.map VD.row)) (hk : RowsAt m 5 ks rows) (hl : rows.length = kids.length) (hL : ∀ v∈vals,LAt m v)
      (h : ∀ (i : Nat) (r : List Value) (k : ED),rows[i]? = some r→kids[i]? = some k→EAt m k r) :
      EAt m (.mk op kind name vals kids) [.int .i64 op,.string kind,.string name,vs,ks]
theorem EAt.mono {m m' : Mem} (hs : Sub m m') {d : ED} {r : List Value} (h : EAt m d r) : EAt m' d r:=by
  induction h with
  | mk rows hv hk hl hL _ ih=>exact .mk rows (hv.mono hs) (hk.mono hs) hl (fun v hm=>(hL v hm).mono hs) ih
def hereS (decl : List DD) (segs : List ByteArray) (op : Int) (kind name : ByteArray) (vals : List VD) : Int :=
  if op = 5 then (if hasS name.toList segs then 0 else 11)
  else if 6≤op∧op≤15 then
    (if typeOf kind.toList name.toList decl = 0 then 11 else if fitsS op (typeOf kind.toList name.toList decl) vals then 0 else 8)
  else 0
mutual
def exprS (decl : List DD) (segs : List ByteArray) : ED→Int
  | .mk op kind name vals kids=>if hereS decl segs op kind name vals = 0 then exprL decl segs kids else hereS decl segs op kind name vals
def exprL (decl : List DD) (segs : List ByteArray) : List ED→Int
  | []=>0
  | k :: r=>if exprS decl segs k = 0 then exprL decl segs r else exprS decl segs k
end
def Checks (n : Int) (w : World) (e : Ending) (w' : World) : Prop:=e = .returned (.int .i64 n)∧Below w.heap.size w w'
def ExprOk (f : FuncId) (decl : List DD) (segs : List ByteArray) (dv sv : Value) (m : Mem) (d : ED) (r : List Value) : Prop :=
  ∀ w : World,Sub m w.cell?→Calls Tryz.prog f #[dv,sv,.agg r.toArray] w (Checks (exprS decl segs d) w)
end Go.Proofs.YtfffpflflggonaaGreatDoor.schema
namespace Go.Proofs.YtfffpflflggonaaGreatDoor.value
open Go.RowKit text
theorem kind_of {a : VV} (h : checkS a = 0) : 1≤a.k∧a.k≤5:=by
  by_cases hk : a.k < 1∨5 < a.k
  · rw [c_kind hk] at h; cases h
  · omega
theorem ret_v {a b : Value} (h : a = b) : Ending.returned b = .returned a:=by rw [h]
end Go.Proofs.YtfffpflflggonaaGreatDoor.value
namespace Go.Proofs.YtfffpflflggonaaGreatDoor.value
open Go.RowKit text
theorem ls_len {xs ys : List ByteArray} (h : ¬ xs.length = ys.length) : (lsL xs == lsL ys) = false:=by
  rw [beq_eq_false_iff_ne]
  intro e
  have:=congrArg List.length e
  simp [lsL] at this
  exact h this
theorem ls_bad {xs ys : List ByteArray} {k : Nat} (hx : k < xs.length) (hy : k < ys.length) (h : xs[k].toList ≠ ys[k].toList) : (lsL xs == lsL ys) = false:=by
  rw [beq_eq_false_iff_ne]
  intro e
  apply h
  rw [ByteArray.toList_eq,ByteArray.toList_eq]
  have h1 : (lsL xs)[k]? = (lsL ys)[k]?:=by rw [e]
  simpa [lsL,hx,hy] using h1
theorem ls_good {xs ys : List ByteArray} (hl : xs.length = ys.length) (h : ∀ k (hx : k < xs.length) (hy : k < ys.length),xs[k].toList = ys[k].toList) : (lsL xs == lsL ys) = true:=by
  rw [beq_iff_eq]
  apply List.ext_getElem (by simpa [lsL] using hl)
  intro k h1 h2
  have hx : k < xs.length:=by simpa [lsL] using h1
  have hy : k < ys.length:=by simpa [lsL] using h2
  have:=h k hx hy
  rw [ByteArray.toList_eq,ByteArray.toList_eq] at this
  simpa [lsL] using this
theorem ret_bool {a b : Bool} (h : a = b) : Ending.returned (.bool b) = .returned (.bool a):=by rw [h]
end Go.Proofs.YtfffpflflggonaaGreatDoor.value
namespace Go.Proofs.YtfffpflflggonaaGreatDoor.value
open Go.RowKit text
def eqVV (k l n m : Int) (s t : ByteArray) (e : Bool) : Bool:=(k == l) && ((n == m) && ((s.toList == t.toList) && e))
end Go.Proofs.YtfffpflflggonaaGreatDoor.value
namespace Go.Proofs.YtfffpflflggonaaGreatDoor.clause
open Go.RowKit schema value text
structure AD where
  name : ByteArray
  val : VD
def AD.row (a : AD) : List Value:=.string a.name :: a.val.row
structure CT where
  kind : ByteArray
  key : ByteArray
  ptr : Option Addr
  len : Nat
  cap : Nat
  attrs : List AD
def CT.row (c : CT) : List Value:=[.string c.kind,.string c.key,.slice c.ptr c.len c.cap]
structure CAt (m : Mem) (c : CT) : Prop where
  rows : RowsAt m 5 (.slice c.ptr c.len c.cap) (c.attrs.map AD.row)
  each : ∀ a∈c.attrs,LAt m a.val
  key : c.key.size < 4294967281
theorem CAt.mono {m m' : Mem} (hs : Sub m m') {c : CT} (h : CAt m c) : CAt m' c:=⟨h.rows.mono hs,fun a ha=>(h.each a ha).mono hs,h.key⟩
structure SAt (m : Mem) (v : Value) (l : List CT) : Prop where
  rows : RowsAt m 3 v (l.map CT.row)
  each : ∀ c∈l,CAt m c
theorem SAt.mono {m m' : Mem} (hs : Sub m m') {v : Value} {l : List CT} (h : SAt m v l) : SAt m' v l:=⟨h.rows.mono hs,fun c hc=>(h.each c hc).mono hs⟩
def findS (kind : List UInt8) : List CT→Option CT
  | []=>none
  | c :: r=>if (c.kind.toList == kind) = true then some c else findS kind r
def findA (name : List UInt8) : List AD→Option VD
  | []=>none
  | a :: r=>if (a.name.toList == name) = true then some a.val else findA name r
def keyV (s : ByteArray) : VD:=⟨3,0,s,none,0,0,[]⟩
def lookS (l : List CT) (kind name : List UInt8) : Option VD :=
  match findS kind l with
  | none=>none
  | some c=>if (name == [107,101,121]) = true then some (keyV c.key) else findA name c.attrs
def vv (d : VD) : VV:=⟨d.kind,d.num,d.text.data.toList,lsL d.ls⟩
def eqV (a b : VD) : Bool:=eqVV a.kind b.kind a.num b.num a.text b.text (lsL a.ls == lsL b.ls)
def SameV (a b : VD) : Prop:=a.kind = b.kind∧a.num = b.num∧a.text = b.text∧a.ls = b.ls
theorem SameV.vv {a b : VD} (h : SameV a b) : vv a = vv b:=by obtain ⟨h1,h2,h3,h4⟩:=h; unfold clause.vv; rw [h1,h2,h3,h4]
def cmpB (op : Int) (c : Int × Int) : Bool :=
  if c.2 ≠ 0 then false else if op = 12 then decide (c.1 < 0) else if op = 13 then decide (c.1≤0) else if op = 14 then decide (0 < c.1) else decide (0≤c.1)
def oneS (op : Int) (v w : VD) : Bool :=
  if op = 7 then eqV v w
  else if op = 9 then (v.kind == 3 && w.kind == 3) && w.text.data.toList.isPrefixOf v.text.data.toList
  else if op = 10 then (v.kind == 3 && w.kind == 3) && w.text.data.toList.isSuffixOf v.text.data.toList
  else if op = 11 then (v.kind == 3 && w.kind == 3 && Lib.contains v.text.data.toList w.text.data.toList) || (w.kind == 3 && v.kind == 5 && hasS w.text.toList v.ls)
  else cmpB op (compareS (clause.vv v) (clause.vv w))
def holdsS (op : Int) (v : VD) (vals : List VD) : Bool :=
  if op = 6 then true else if op = 8 then vals.any (eqV v) else match vals with
  | []=>false
  | w :: _=>oneS op v w
def testS (l : List CT) (op : Int) (kind name : ByteArray) (vals : List VD) : Bool :=
  match lookS l kind.toList name.toList with
  | none=>false
  | some v=>if 6≤op∧op≤15 then holdsS op v vals else false
mutual
def evalS (l : List CT) (inn : List ByteArray) : ED→Bool
  | .mk op kind name vals kids =>
    if op = 1 then true
    else if op = 2 then allS l inn kids
    else if op = 3 then anyS l inn kids
    else if op = 4 then headS l inn kids
    else if op = 5 then hasS name.toList inn
    else testS l op kind name vals
def allS (l : List CT) (inn : List ByteArray) : List ED→Bool
  | []=>true
  | k :: r=>evalS l inn k && allS l inn r
def anyS (l : List CT) (inn : List ByteArray) : List ED→Bool
  | []=>false
  | k :: r=>evalS l inn k || anyS l inn r
def headS (l : List CT) (inn : List ByteArray) : List ED→Bool
  | []=>false
  | k :: _=>!evalS l inn k
end
end Go.Proofs.YtfffpflflggonaaGreatDoor.clause
namespace Go.Proofs.YtfffpflflggonaaGreatDoor.clause
open Go.RowKit schema value text draw
def IdxQ (kind : List UInt8) (l : List CT) (q : Int) : Prop:=(∃ k,∃ h : k < l.length,q = (k : Int)∧findS kind l = some l[k])∨(q = -1∧findS kind l = none)
def IdxIs (kind : List UInt8) (l : List CT) (e : Ending) : Prop:=∃ q,e = .returned (.int .i64 q)∧IdxQ kind l q
theorem vd_at {m : Mem} {l : List VD} {a : Option Addr} {n c : Nat} (h : RowsAt m 4 (.slice a n c) (l.map VD.row)) {k : Nat} (hk : k < l.length) :
    ∃ blk off,a = some ⟨blk,off,none⟩∧m ⟨blk,off + k * 4,none⟩ = some (.int .i64 l[k].kind)∧m ⟨blk,off + k * 4 + 1,none⟩ = some (.int .i64 l[k].num)∧m ⟨blk,off + k * 4 + 2,none⟩ = some (.string l[k].text)∧m ⟨blk,off + k * 4 + 3,none⟩ = some (.slice l[k].ptr l[k].len l[k].cap):=by
  obtain ⟨a0,c0,h1,h2,h3,h4⟩:=h
  injection h1 with e1 e2 e3
  subst e1; subst e3
  rcases h4 with h4 | ⟨blk,off,rfl,hc⟩
  · simp only [List.map_eq_nil_iff] at h4
    rw [h4] at hk
    exact absurd hk (by simp)
  · exact ⟨blk,off,rfl,vd_cells hc hk⟩
theorem len_of {m : Mem} {sz : Nat} {rows : List (List Value)} {a : Option Addr} {n c : Nat} (h : RowsAt m sz (.slice a n c) rows) : n = rows.length∧n≤9223372036854775807:=by
  obtain ⟨a0,c0,h1,h2,h3,-⟩:=h
  injection h1 with e1 e2 e3
  unfold maxLen at h3
  exact ⟨e2,by omega⟩
theorem own5z {w : World} {n : Nat} {x0 x1 x2 x3 x4 : Value} {t : TypeId} (h : Own w n #[x0,x1,x2,x3,x4] t) :
    w.cell? ⟨n,0,none⟩ = some x0∧w.cell? ⟨n,1,none⟩ = some x1∧w.cell? ⟨n,2,none⟩ = some x2∧w.cell? ⟨n,3,none⟩ = some x3∧w.cell? ⟨n,4,none⟩ = some x4 :=
  ⟨h.cell 0,h.cell 1,h.cell 2,h.cell 3,h.cell 4⟩
theorem own4z {w : World} {n : Nat} {x0 x1 x2 x3 : Value} {t : TypeId} (h : Own w n #[x0,x1,x2,x3] t) :
    w.cell? ⟨n,0,none⟩ = some x0∧w.cell? ⟨n,1,none⟩ = some x1∧w.cell? ⟨n,2,none⟩ = some x2∧w.cell? ⟨n,3,none⟩ = some x3 ∧
    w.frozen? ⟨n,0,none⟩ = false∧w.frozen? ⟨n,1,none⟩ = false∧w.frozen? ⟨n,2,none⟩ = false∧w.frozen? ⟨n,3,none⟩ = false :=
  ⟨h.cell 0,h.cell 1,h.cell 2,h.cell 3,h.free 0,h.free 1,h.free 2,h.free 3⟩
end Go.Proofs.YtfffpflflggonaaGreatDoor.clause
namespace Go.Proofs.YtfffpflflggonaaGreatDoor.draw
open Go.RowKit
def HeadK (b : Nat) (a : Option Addr) (n c : Nat) (w : World) (k : Nat) : Prop:=w.heap[b]? = some (.cells #[.slice a n c,.int .i64 k] 56 (0,0))∧k≤n
def Head (b : Nat) (a : Option Addr) (n c : Nat) (w : World) : Prop:=∃ k,HeadK b a n c w k
def Codes (b : Nat) (a : Option Addr) (n c : Nat) (w : World) : Prop :=
  Head b a n c w∧n≤1000∧(n = 0∨∃ blk off,a = some ⟨blk,off,none⟩∧∀ i,i < n→∃ u : Int,0≤u∧u≤255∧but b w ⟨blk,off + i,none⟩ = some (.int .u8 u))
theorem HeadK.own {b : Nat} {a : Option Addr} {n c : Nat} {w : World} {k : Nat} (h : HeadK b a n c w k) : Own w b #[.slice a n c,.int .i64 k] 56:=h.1
theorem Head.lt {b : Nat} {a : Option Addr} {n c : Nat} {w : World} (h : Head b a n c w) : b < w.heap.size:=by
  obtain ⟨k,h⟩:=h
  exact h.own.lt
theorem Head.kept {b : Nat} {a : Option Addr} {n c : Nat} {w u : World} {r : Option Nat} (h : Head b a n c w) (g : w.grownBy u r) (hr : r ≠ some b) : Head b a n c u:=by
  obtain ⟨k,h⟩:=h
  exact ⟨k,h.own.kept g hr,h.2⟩
theorem Head.below {b : Nat} {a : Option Addr} {n c : Nat} {w u : World} {B : Nat} (h : Head b a n c w) (g : Below B w u) (hB : b < B) : Head b a n c u:=by
  obtain ⟨k,h⟩:=h
  exact ⟨k,h.own.below g hB,h.2⟩
theorem Head.alloc {b : Nat} {a : Option Addr} {n c : Nat} {w : World} (h : Head b a n c w) (o : Obj) : Head b a n c (w.alloc o):=h.kept (World.grownBy_alloc w o none) (by simp)
theorem Head.drewN {b : Nat} {a : Option Addr} {n c : Nat} {w : World} (h : Head b a n c w) (q : Nat) : Head b a n c (w.drewN q):=h
theorem Head.drew {b : Nat} {a : Option Addr} {n c : Nat} {w : World} (h : Head b a n c w) : Head b a n c w.drew:=h
theorem Head.set {b : Nat} {a : Option Addr} {n c : Nat} {w : World} (h : Head b a n c w) {p : Addr} (hp : b ≠ p.block) (v : Value) : Head b a n c (w.setCell p v):=by
  obtain ⟨k,h⟩:=h
  exact ⟨k,h.own.setOther hp v,h.2⟩
theorem Codes.lt {b : Nat} {a : Option Addr} {n c : Nat} {w : World} (h : Codes b a n c w) : b < w.heap.size:=h.1.lt
theorem Codes.still {b : Nat} {a : Option Addr} {n c : Nat} {w u : World} (h : Codes b a n c w) (g : w.grownBy u (some b)) (hh : Head b a n c u) : Codes b a n c u:=by
  refine ⟨hh,h.2.1,?_⟩
  rcases h.2.2 with h4 | ⟨blk,off,ha,h4⟩
  · exact Or.inl h4
  · refine Or.inr ⟨blk,off,ha,fun i hi=>?_⟩
    obtain ⟨x,h0,h1,h2⟩:=h4 i hi
    exact ⟨x,h0,h1,sub_of_grown g _ _ h2⟩
theorem Codes.below {b : Nat} {a : Option Addr} {n c : Nat} {w u : World} (h : Codes b a n c w) (g : Below w.heap.size w u) : Codes b a n c u:=h.still (grown_of_below g _) (h.1.below g h.lt)
theorem Codes.alloc {b : Nat} {a : Option Addr} {n c : Nat} {w : World} (h : Codes b a n c w) (o : Obj) : Codes b a n c (w.alloc o):=h.still (World.grownBy_alloc w o _) (h.1.alloc o)
theorem Codes.drew {b : Nat} {a : Option Addr} {n c : Nat} {w : World} (h : Codes b a n c w) : Codes b a n c w.drew:=h
set_option maxHeartbeats 400000 in
theorem left_any (b : Nat) (w : World) (a : Option Addr) (n c k : Nat) (h : HeadK b a n c w k) (_hn : n≤1000) :
    Calls Tryz.prog 18 #[.pointer (some ⟨b,0,none⟩)] w fun e w'=>e = .returned (.bool (decide (k < n)))∧∃ q,w' = w.drewN q:=by
  have c0:=h.own.cell 0
  have c1:=h.own.cell 1
  obtain ⟨-,hk⟩:=h
  simp at c0 c1
  go_enter Tryz.func18,Tryz.ntmps18
  go_wp2
  go_quiet (fail)
  go_wp2
  go_ret
  exact ⟨rfl,_,rfl⟩
def Drawn (b : Nat) (a : Option Addr) (n c : Nat) (w : World) (P : Ending→World→Prop) (e : Ending) (w' : World) : Prop:=P e w'∧Head b a n c w'∧w.grownBy w' (some b)
set_option maxHeartbeats 400000 in
theorem next_none (b : Nat) (w : World) (m : Int) (h0 : 1≤m) (h1 : m≤256) (a : Option Addr) (n c k : Nat) (h : HeadK b a n c w k) (hn : n≤1000) (hlt : n≤k) :
    Calls Tryz.prog 8 #[.pointer (some ⟨b,0,none⟩),.int .i64 m] w (Drawn b a n c w fun e _=>IntIn 0 m e):=by
  have hL : decide (k < n) = false:=by simp; omega
  have hh:=Lib.hid h
  clear h
  go_enter Tryz.func8,Tryz.ntmps8
  go_wp2_with (go_at_call 18; refine (left_any b _ a n c k hh.out hn).mono ?_; rintro e w' ⟨rfl,q,rfl⟩; rw [hL]; clear hL)
  go_ret
  exact ⟨⟨_,rfl,by omega,by omega⟩,⟨_,hh.out⟩,grown_drewN _ _ _⟩
theorem HeadK.step {b : Nat} {w : World} {a : Option Addr} {n c k : Nat} (h : HeadK b a n c w k) (hk : k < n) : HeadK b a n c (w.setCell ⟨b,1,none⟩ (.int .i64 ((k : Int) + 1))) (k + 1):=by
  have:=h.own.set 1 (.int .i64 ((k : Int) + 1))
  exact ⟨this,hk⟩
theorem grown_setCell (w : World) (b o : Nat) (v : Value) : w.grownBy (w.setCell ⟨b,o,none⟩ v) (some b) :=
  ⟨rfl,rfl,rfl,by simp [World.setCell],fun k _ hne=>Below.heap_setCell w ⟨b,o,none⟩ v k (by intro e; exact hne (by rw [e]))⟩
set_option maxHeartbeats 400000 in
theorem next_some (b : Nat) (w : World) (m : Int) (h0 : 1≤m) (h1 : m≤256) (a : Option Addr) (n c k : Nat) (h : HeadK b a n c w k) (hC : Codes b a n c w) (hlt : k < n) :
    Calls Tryz.prog 8 #[.pointer (some ⟨b,0,none⟩),.int .i64 m] w (Drawn b a n c w fun e _=>IntIn 0 m e):=by
  have hL : decide (k < n) = true:=by simp; omega
  have hh:=Lib.hid h
  have c0:=h.own.cell 0
  have c1:=h.own.cell 1
  have f1:=h.own.free 1
  simp at c0 c1
  obtain ⟨-,hk⟩:=h
  obtain ⟨-,hn,hr⟩:=hC
  rcases hr with hr | ⟨blk,off,rfl,hr⟩
  · omega
  obtain ⟨u,hu0,hu1,hu⟩:=hr k hlt
  clear hr
  have hne : ¬ blk = b:=by
    intro e; unfold but at hu; rw [if_pos e] at hu; cases hu
  have c2:=but_sub _ _ _ _ hu
  clear hu
  go_enter Tryz.func8,Tryz.ntmps8
  go_wp2_with (go_at_call 18; refine (left_any b _ _ n c k hh.out hn).mono ?_; rintro e w' ⟨rfl,q,rfl⟩; rw [hL]; clear hL)
  go_quiet (fail)
  go_wp2
  go_ret
  refine ⟨⟨_,rfl,Int.emod_nonneg _ (by omega),Int.emod_lt_of_pos _ (by omega)⟩,⟨_,HeadK.step (w:=w) hh.out hlt⟩,?_⟩
  exact grown_trans (grown_drewN w q _) (grown_trans (grown_setCell _ _ _ _) (grown_drewN _ _ _))
theorem next_any (b : Nat) (a : Option Addr) (n c : Nat) (w : World) (m : Int) (h0 : 1≤m) (h1 : m≤256) (h : Codes b a n c w) :
    Calls Tryz.prog 8 #[.pointer (some ⟨b,0,none⟩),.int .i64 m] w (Drawn b a n c w fun e _=>IntIn 0 m e):=by
  obtain ⟨k,hk⟩:=h.1
  by_cases hlt : k < n
  · exact next_some b w m h0 h1 a n c k hk h hlt
  · exact next_none b w m h0 h1 a n c k hk h.2.1 (by omega)
def BytesAt (m : Mem) (a : Option Addr) (n c : Nat) : Prop :=
  n≤c∧c≤maxLen∧(n = 0∨∃ blk off,a = some ⟨blk,off,none⟩∧∀ i,i < n→∃ u : Int,0≤u∧u≤255∧m ⟨blk,off + i,none⟩ = some (.int .u8 u))
theorem BytesAt.mono {m m' : Mem} (hs : Sub m m') {a : Option Addr} {n c : Nat} (h : BytesAt m a n c) : BytesAt m' a n c:=by
  obtain ⟨h1,h2,h3⟩:=h
  refine ⟨h1,h2,?_⟩
  rcases h3 with h3 | ⟨blk,off,ha,h3⟩
  · exact Or.inl h3
  · refine Or.inr ⟨blk,off,ha,fun i hi=>?_⟩
    obtain ⟨u,h4,h5,h6⟩:=h3 i hi
    exact ⟨u,h4,h5,hs _ _ h6⟩
theorem bytes_of_row {w : World} {a : Option Addr} {len cap : Nat} {zs : List Int} (h : IsRow .u8 w a len cap zs) : BytesAt w.cell? a len cap:=by
  rcases h with ⟨rfl,rfl,rfl,-⟩ | ⟨x,rfl,hl,hm,hz,hc,hw⟩
  · exact ⟨Nat.le_refl _,by simp,Or.inl rfl⟩
  · refine ⟨hl,hm,?_⟩
    by_cases h0 : len = 0
    · exact Or.inl h0
    have hs : x.spot = none:=by
      have h1:=hc 0 (by omega)
      unfold World.cell? at h1
      cases hsp : x.spot with
      | none=>rfl
      | some i =>
        exfalso
        have : ((x.add 0).spot.isSome) = true:=by unfold Addr.add; split <;> simp_all
        split at h1
        · rw [if_pos this] at h1; cases h1
        · cases h1
    obtain ⟨blk,off,sp⟩:=x
    simp only at hs
    subst hs
    refine Or.inr ⟨blk,off,rfl,fun i hi=>?_⟩
    have h1:=hc i (by omega)
    have h2 : (zs.getD i 0)∈zs:=by rw [List.getD_eq_getElem?_getD,List.getElem?_eq_getElem (by omega)]; exact List.getElem_mem _
    have h3:=hw _ h2
    have h4 : 0≤zs.getD i 0∧zs.getD i 0≤255:=by simpa [Lit.wf,IntKind.min,IntKind.max,IntKind.signed,IntKind.bits] using h3
    have e : (⟨blk,off,none⟩ : Addr).add i = ⟨blk,off + i,none⟩:=by unfold Addr.add; split <;> simp_all
    rw [e] at h1
    exact ⟨_,h4.1,h4.2,h1⟩
def Made (w : World) (e : Ending) (w' : World) : Prop:=e = .returned (.pointer (some ⟨w.heap.size,0,none⟩))∧(∃ a n c,Codes w.heap.size a n c w')∧Below w.heap.size w w'
theorem codes_new (w : World) (a : Option Addr) (n c : Nat) (h : n≤1000) (hr : n = 0∨∃ blk off,a = some ⟨blk,off,none⟩∧∀ i,i < n→∃ u : Int,0≤u∧u≤255∧w.cell? ⟨blk,off + i,none⟩ = some (.int .u8 u)) :
    Codes w.heap.size a n c (w.alloc (.cells #[.slice a n c,.int .i64 0] 56)):=by
  refine ⟨⟨0,heap_alloc_new w _,Nat.zero_le _⟩,h,?_⟩
  rcases hr with hr | ⟨blk,off,ha,hr⟩
  · exact Or.inl hr
  · refine Or.inr ⟨blk,off,ha,fun i hi=>?_⟩
    obtain ⟨u,h0,h1,h2⟩:=hr i hi
    refine ⟨u,h0,h1,?_⟩
    have hlt:=World.block_lt_of_cell? w _ h2
    unfold but
    rw [if_neg (by simp at hlt ⊢; omega)]
    exact (World.cell?_of_block (Below.heap_alloc w _ _ hlt)).trans h2
set_option maxHeartbeats 400000 in
theorem new_any (a : Option Addr) (n c : Nat) (most : Int) (w : World) (h0 : 0≤most) (h1 : most≤1000) (h : BytesAt w.cell? a n c) :
    Calls Tryz.prog 7 #[.slice a n c,.int .i64 most] w (Made w):=by
  obtain ⟨m,rfl⟩:=Int.eq_ofNat_of_zero_le h0
  obtain ⟨hn,hc,hr⟩:=h
  unfold maxLen at hc
  by_cases hm : m < n
  · rcases hr with hr | ⟨blk,off,rfl,hr⟩
    · omega
    have H:=Lib.hid hr
    clear hr
    go_enter Tryz.func7,Tryz.ntmps7
    go_wp2
    go_ret
    have hr:=H.out
    exact ⟨rfl,⟨_,_,_,codes_new w _ _ _ (by omega) (Or.inr ⟨blk,off,rfl,fun i hi=>hr i (by omega)⟩)⟩,(Below.refl _ _).alloc (Nat.le_refl _) _⟩
  · have H:=Lib.hid hr
    clear hr
    go_enter Tryz.func7,Tryz.ntmps7
    go_wp2
    go_ret
    have hr:=H.out
    exact ⟨rfl,⟨_,_,_,codes_new w _ _ _ (by omega) hr⟩,(Below.refl _ _).alloc (Nat.le_refl _) _⟩
end Go.Proofs.YtfffpflflggonaaGreatDoor.draw
namespace Go.Proofs.YtfffpflflggonaaGreatDoor.src
open Go.RowKit lex value text schema draw
abbrev PS:=Except (Int × Int) (List Tok)
def runS {α : Type} (s : PS) (f : List Tok→R α) : R α :=
  match s with
  | .error e=>.error e
  | .ok ts=>f ts
def aft {α : Type} : R α→PS
  | .error e=>.error e
  | .ok (_,ts)=>.ok ts
def zeroT : Tok:=⟨0,[],0,0⟩
def headS : PS→Tok
  | .ok (t :: _)=>t
  | _=>zeroT
def isP (x : List UInt8) : PS→Bool
  | .ok ts=>isN x ts
  | .error _=>false
def pastP (x : List UInt8) (s : PS) : PS :=
  match s with
  | .error e=>.error e
  | .ok ts=>if isN x ts then .ok ts.tail else .ok ts
theorem isP_head (x : List UInt8) (s : PS) : isP x s = isT x (headS s):=by
  cases s with
  | error e=>rfl
  | ok ts=>cases ts <;> rfl
theorem pastP_no {x : List UInt8} {s : PS} (h : isP x s = false) : pastP x s = s:=by
  cases s with
  | error e=>rfl
  | ok ts=>show (if isN x ts then _ else _) = _; rw [show isN x ts = false from h]; rfl
def failP (s : PS) (t : Tok) (q : Int) : PS :=
  match s with
  | .error e=>.error e
  | .ok _=>.error (q,t.line)
theorem runS_ok {α : Type} (ts : List Tok) (f : List Tok→R α) : runS (.ok ts) f = f ts:=rfl
structure TokM (M : Mem) (T : List Tok) (tb to' tc : Nat) : Prop where
  rows : RowsAt M 4 (.slice (some ⟨tb,to',none⟩) T.length tc) (T.map Tok.row)
  ok : ∀ (p : Nat) (hp : p < T.length),(p + 1 < T.length∧TokOk T[p])∨(p + 1 = T.length∧T[p].k = 6)
  few : T.length≤30001
theorem TokM.none : TokM (fun _=>none) [] 0 0 0:=⟨⟨_,0,rfl,Nat.le_refl _,Nat.zero_le _,Or.inl rfl⟩,fun p hp=>absurd hp (by simp),by simp⟩
theorem tok_at {M : Mem} {T : List Tok} {tb to' tc : Nat} (h : TokM M T tb to' tc) {p : Nat} (hp : p < T.length) :
    M ⟨tb,to' + p * 4,none⟩ = some (.int .i64 T[p].k)∧M ⟨tb,to' + p * 4 + 1,none⟩ = some (.string ⟨T[p].t.toArray⟩)∧M ⟨tb,to' + p * 4 + 2,none⟩ = some (.int .i64 T[p].n)∧M ⟨tb,to' + p * 4 + 3,none⟩ = some (.int .i64 T[p].line):=by
  obtain ⟨a,c,e,-,-,h4⟩:=h.rows
  injection e with e1 e2 e3
  rcases h4 with h4 | ⟨b,o,rfl,h5⟩
  · have:=congrArg List.length h4
    rw [List.length_map,List.length_nil] at this
    omega
  · injection e1 with e1
    injection e1 with e1 e4
    subst e1; subst e4
    have h6:=h5 p T[p].row (by rw [List.getElem?_map,List.getElem?_eq_getElem hp]; rfl)
    exact ⟨h6 0 _ rfl,h6 1 _ rfl,h6 2 _ rfl,h6 3 _ rfl⟩
theorem drop_at {T : List Tok} {p : Nat} (hp : p < T.length) : T.drop p = T[p] :: T.drop (p + 1):=List.drop_eq_getElem_cons hp
def StIs (T : List Tok) (tb to' tc : Nat) (tv : Value) (p : Nat) (L q : Int) : PS→Prop
  | .ok ts=>p < T.length∧tv = .slice (some ⟨tb,to',none⟩) T.length tc∧L = 0∧q = 0∧ts = T.drop p
  | .error e=>e = (q,L)∧q ≠ 0
def PrP (T : List Tok) (tb to' tc g : Nat) (w : World) (o : Nat) : PS→Prop
  | .ok ts=>∃ p : Nat,p < T.length∧ts = T.drop p∧Own w g #[.slice (some ⟨tb,to',none⟩) T.length tc,.int .i64 p,.int .i64 o,.int .i64 0,.int .i64 0] 65
  | .error (q,L)=>∃ (tv : Value) (p : Nat),q ≠ 0∧Own w g #[tv,.int .i64 p,.int .i64 o,.int .i64 L,.int .i64 q] 65
section
variable {T : List Tok} {tb to' tc g o : Nat} {w u : World} {s : PS}
theorem PrP.own (h : PrP T tb to' tc g w o s) : ∃ (tv : Value) (p : Nat) (L q : Int),Own w g #[tv,.int .i64 p,.int .i64 o,.int .i64 L,.int .i64 q] 65∧StIs T tb to' tc tv p L q s:=by
  cases s with
  | ok ts=>obtain ⟨p,h1,h2,h3⟩:=h; exact ⟨_,p,0,0,h3,h1,rfl,rfl,rfl,h2⟩
  | error e=>obtain ⟨tv,p,h2,h3⟩:=h; exact ⟨tv,p,e.2,e.1,h3,rfl,h2⟩
theorem PrP.of {tv : Value} {p : Nat} {L q : Int} (h2 : Own w g #[tv,.int .i64 p,.int .i64 o,.int .i64 L,.int .i64 q] 65) (h3 : StIs T tb to' tc tv p L q s) : PrP T tb to' tc g w o s:=by
  cases s with
  | ok ts=>obtain ⟨h1,rfl,rfl,rfl,h3⟩:=h3; exact ⟨p,h1,h3,h2⟩
  | error e=>obtain ⟨rfl,h3⟩:=h3; exact ⟨tv,p,h3,h2⟩
theorem PrP.lt (h : PrP T tb to' tc g w o s) : g < w.heap.size:=by obtain ⟨tv,p,L,q,h1,-⟩:=h.own; exact h1.lt
theorem PrP.kept {r : Option Nat} (h : PrP T tb to' tc g w o s) (hg : w.grownBy u r) (hr : r ≠ some g) : PrP T tb to' tc g u o s:=by
  obtain ⟨tv,p,L,q,h2,h3⟩:=h.own
  exact PrP.of (h2.kept hg hr) h3
theorem PrP.below (h : PrP T tb to' tc g w o s) (hb : Below w.heap.size w u) : PrP T tb to' tc g u o s:=h.kept (grown_of_below hb none) (by simp)
theorem PrP.ne {ts : List Tok} (h : PrP T tb to' tc g w o (.ok ts)) : ts ≠ []:=by
  obtain ⟨p,h1,rfl,-⟩:=h
  intro e
  have:=congrArg List.length e
  rw [List.length_drop,List.length_nil] at this
  omega
theorem PrP.set (h : PrP T tb to' tc g w o s) {q i : Nat} (hq : g ≠ q) (v : Value) : PrP T tb to' tc g (w.setCell ⟨q,i,none⟩ v) o s:=h.kept (grown_setCell w q i v) (fun e=>hq (Option.some.inj e).symm)
theorem PrP.back {o2 : Nat} (h : PrP T tb to' tc g w o s) : PrP T tb to' tc g (w.setCell ⟨g,2,none⟩ (.int .i64 o2)) o2 s:=by
  obtain ⟨tv,p,L,q,h2,h3⟩:=h.own
  exact PrP.of (by have:=h2.set 2 (.int .i64 o2); simpa using this) h3
theorem PrP.past {o2 : Nat} {t : Tok} {q : List Tok} {p : Nat} (h1 : p + 1 < T.length) (h2 : T.drop p = t :: q) (hO : Own w g #[.slice (some ⟨tb,to',none⟩) T.length tc,.int .i64 p,.int .i64 o,.int .i64 0,.int .i64 0] 65) :
    PrP T tb to' tc g ((w.setCell ⟨g,1,none⟩ (.int .i64 ((p : Int) + 1))).setCell ⟨g,2,none⟩ (.int .i64 o2)) o2 (.ok q):=by
  refine ⟨p + 1,h1,?_,by have:=(hO.set 1 (.int .i64 ((p : Int) + 1))).set 2 (.int .i64 o2); simpa using this⟩
  have hp : p < T.length:=by omega
  rw [drop_at hp] at h2
  injection h2 with _ h2
  exact h2.symm
theorem PrP.alloc (h : PrP T tb to' tc g w o s) (x : Obj) : PrP T tb to' tc g (w.alloc x) o s:=h.kept (World.grownBy_alloc w x none) (by simp)
end
def lenP : PS→Nat
  | .ok ts=>ts.length
  | .error _=>0
def leftW (n g : Nat) (w : World) : Nat :=
  if intOf ((w.cell? ⟨g,4,none⟩).getD (.int .i64 1)) = 0 then n - (intOf ((w.cell? ⟨g,1,none⟩).getD (.int .i64 0))).toNat else 0
theorem PrP.left {T : List Tok} {tb to' tc g o : Nat} {w : World} {s : PS} (h : PrP T tb to' tc g w o s) : leftW T.length g w = lenP s:=by
  cases s with
  | ok ts =>
    obtain ⟨p,h1,rfl,h3⟩:=h
    have c1:=h3.cell 1
    have c4:=h3.cell 4
    simp only [List.getElem?_toArray,List.getElem?_cons_succ,List.getElem?_cons_zero] at c1 c4
    unfold leftW
    rw [c4,c1]
    simp [intOf,lenP]
  | error e =>
    obtain ⟨tv,p,hq,h3⟩:=h
    have c4:=h3.cell 4
    simp only [List.getElem?_toArray,List.getElem?_cons_succ,List.getElem?_cons_zero] at c4
    unfold leftW
    rw [c4]
    simp [intOf,lenP,hq]
def Rd {α : Type} (g : Nat) (St : World→PS→Prop) (w : World) (P : α→Ending→World→Prop) (r : R α) (e : Ending) (w' : World) : Prop :=
  w.grownBy w' (some g)∧St w' (aft r)∧match r with
    | .ok (a,_)=>P a e w'
    | .error _=>∃ a,P a e w'
theorem Rd.ok {α : Type} {g : Nat} {St : World→PS→Prop} {w : World} {P : α→Ending→World→Prop} {a : α} {ts : List Tok} {e : Ending} {w' : World} (hg : w.grownBy w' (some g)) (hs : St w' (.ok ts)) (hp : P a e w') : Rd g St w P (.ok (a,ts)) e w':=⟨hg,hs,hp⟩
theorem Rd.err {α : Type} {g : Nat} {St : World→PS→Prop} {w : World} {P : α→Ending→World→Prop} {q : Int × Int} {e : Ending} {w' : World} (hg : w.grownBy w' (some g)) (hs : St w' (.error q)) (a : α) (hp : P a e w') : Rd g St w P (.error q) e w':=⟨hg,hs,a,hp⟩
theorem Rd.fin {α : Type} {g : Nat} {St : World→PS→Prop} {w : World} {P : α→Ending→World→Prop} {r : R α} {e : Ending} {w' : World} (hg : w.grownBy w' (some g)) (hs : St w' (aft r)) (hok : ∀ c q,r = .ok (c,q)→P c e w') (herr : ∃ c,P c e w') : Rd g St w P r e w':=by
  refine ⟨hg,hs,?_⟩
  cases r with
  | error q=>exact herr
  | ok v=>exact hok v.1 v.2 rfl
theorem aft_map {α β : Type} (r : R α) (f : α→β) : aft (bnd r fun a q=>.ok (f a,q)) = aft r:=by cases r <;> rfl
theorem aft_bnd {α β γ : Type} (r : R α) (f : List Tok→R β) (k : α→List Tok→R γ) (hk : ∀ a q,aft (k a q) = aft (f q)) : aft (bnd r k) = aft (runS (aft r) f):=by
  cases r with
  | error e=>rfl
  | ok v=>exact hk v.1 v.2
structure RdB (g B : Nat) (St : World→PS→Prop) (w u : World) (s : PS) : Prop where
  grown : w.grownBy u (some g)
  st : St u s
  gB : g < B
  wB : w.heap.size≤B
theorem RdB.mk' {g B : Nat} {St : World→PS→Prop} {w u : World} {s : PS} (h1 : w.grownBy u (some g)) (h2 : St u s) (h3 : g < w.heap.size) (h4 : w.heap.size≤B) : RdB g B St w u s:=⟨h1,h2,Nat.lt_of_lt_of_le h3 h4,h4⟩
theorem RdB.set {T : List Tok} {tb to' tc g o B : Nat} {w u : World} {s : PS} (h : RdB g B (fun w s=>PrP T tb to' tc g w o s) w u s) {q i : Nat} (hq : B≤q) (v : Value) : RdB g B (fun w s=>PrP T tb to' tc g w o s) w (u.setCell ⟨q,i,none⟩ v) s :=
  have h1:=h.gB
  have h2:=h.wB
  ⟨g_setCell h.grown (by simp; omega) v,h.st.set (by omega) v,h1,h2⟩
theorem RdB.alloc {T : List Tok} {tb to' tc g o B : Nat} {w u : World} {s : PS} (h : RdB g B (fun w s=>PrP T tb to' tc g w o s) w u s) (x : Obj) : RdB g B (fun w s=>PrP T tb to' tc g w o s) w (u.alloc x) s :=
  ⟨g_call h.grown (World.grownBy_alloc u x (some g)),h.st.alloc x,h.gB,h.wB⟩
theorem RdB.back {T : List Tok} {tb to' tc g o o2 B : Nat} {w u : World} {s : PS} (h : RdB g B (fun w s=>PrP T tb to' tc g w o s) w u s) : RdB g B (fun w s=>PrP T tb to' tc g w o2 s) w (u.setCell ⟨g,2,none⟩ (.int .i64 o2)) s :=
  ⟨g_call h.grown (grown_setCell u g 2 _),h.st.back,h.gB,h.wB⟩
theorem RdB.set4 {T : List Tok} {tb to' tc g o B : Nat} {w u : World} {s : PS} (h : RdB g B (fun w s=>PrP T tb to' tc g w o s) w u s) {q : Nat} (hq : B≤q) (a b c d : Value) : RdB g B (fun w s=>PrP T tb to' tc g w o s) w ((((u.setCell ⟨q,0,none⟩ a).setCell ⟨q,1,none⟩ b).setCell ⟨q,2,none⟩ c).setCell ⟨q,3,none⟩ d) s:=(((h.set hq a).set hq b).set hq c).set hq d
theorem RdB.set5 {T : List Tok} {tb to' tc g o B : Nat} {w u : World} {s : PS} (h : RdB g B (fun w s=>PrP T tb to' tc g w o s) w u s) {q : Nat} (hq : B≤q) (a b c d e : Value) : RdB g B (fun w s=>PrP T tb to' tc g w o s) w (((((u.setCell ⟨q,0,none⟩ a).setCell ⟨q,1,none⟩ b).setCell ⟨q,2,none⟩ c).setCell ⟨q,3,none⟩ d).setCell ⟨q,4,none⟩ e) s:=(h.set4 hq a b c d).set hq e
def TokIs (t : Tok) (e : Ending) (_w : World) : Prop:=e = .returned (.agg t.row.toArray)∧t.t.length≤30000
def StrIs (t : Tok) (e : Ending) (_w : World) : Prop:=e = .returned (.string ⟨t.t.toArray⟩)∧t.t.length≤30000
def NumIs (t : Tok) (e : Ending) (_w : World) : Prop:=e = .returned (.int .i64 t.n)
def NoneIs (_ : Unit) (e : Ending) (_w : World) : Prop:=e = .returned (.tuple #[])
theorem row_arr (t : Tok) : t.row.toArray = #[.int .i64 t.k,.string ⟨t.t.toArray⟩,.int .i64 t.n,.int .i64 t.line]:=rfl
theorem sub_but_grown {M : Mem} {g : Nat} {w u : World} (h : Sub M (but g w)) (hg : w.grownBy u (some g)) : Sub M (but g u):=h.trans (sub_of_grown hg)
theorem sub_but_below {M : Mem} {g : Nat} {w u : World} (h : Sub M (but g w)) (hb : Below w.heap.size w u) : Sub M (but g u):=h.trans (sub_of_grown (grown_of_below hb (some g)))
end Go.Proofs.YtfffpflflggonaaGreatDoor.src
