/- Chapter 11, plain: subjects and tests as data; which attribute is found, whether a test and a condition hold. -/
import Derived.Test.YtlohdmghaeabjaaGreatDoorSchema3
import Derived.Test.YtlohdmghaeabjaaGreatDoorValEV
namespace Go.Proofs.YtlohdmghaeabjaaGreatDoor.clause
open Go.RowKit Go.Proofs.YtlohdmghaeabjaaGreatDoor Go.Proofs.YtlohdmghaeabjaaGreatDoor.schema Go.Proofs.YtlohdmghaeabjaaGreatDoor.value Go.Proofs.YtlohdmghaeabjaaGreatDoor.text

/-- An attribute: its name and its value. -/
structure AD where
  name : ByteArray
  val : VD
def AD.row (a : AD) : List Value := .string a.name :: a.val.row
/-- A context as its three cells, and its attributes. -/
structure CT where
  kind : ByteArray
  key : ByteArray
  ptr : Option Addr
  len : Nat
  cap : Nat
  attrs : List AD
def CT.row (c : CT) : List Value := [.string c.kind, .string c.key, .slice c.ptr c.len c.cap]
/-- The attributes of a context lie where it says. -/
structure CAt (m : Mem) (c : CT) : Prop where
  rows : RowsAt m 5 (.slice c.ptr c.len c.cap) (c.attrs.map AD.row)
  each : ∀ a ∈ c.attrs, LAt m a.val
  key : c.key.size < 4294967281
theorem CAt.mono {m m' : Mem} (hs : Sub m m') {c : CT} (h : CAt m c) : CAt m' c := ⟨h.rows.mono hs, fun a ha => (h.each a ha).mono hs, h.key⟩
/-- A subject. -/
structure SAt (m : Mem) (v : Value) (l : List CT) : Prop where
  rows : RowsAt m 3 v (l.map CT.row)
  each : ∀ c ∈ l, CAt m c
theorem SAt.mono {m m' : Mem} (hs : Sub m m') {v : Value} {l : List CT} (h : SAt m v l) : SAt m' v l := ⟨h.rows.mono hs, fun c hc => (h.each c hc).mono hs⟩

/-- The first context of a kind. -/
def findS (kind : List UInt8) : List CT → Option CT
  | [] => none
  | c :: r => if (c.kind.toList == kind) = true then some c else findS kind r
/-- The first attribute of a name. -/
def findA (name : List UInt8) : List AD → Option VD
  | [] => none
  | a :: r => if (a.name.toList == name) = true then some a.val else findA name r
def keyB : ByteArray := ⟨#[107, 101, 121]⟩
def keyV (s : ByteArray) : VD := ⟨3, 0, s, none, 0, 0, []⟩
def lookS (l : List CT) (kind name : List UInt8) : Option VD :=
  match findS kind l with
  | none => none
  | some c => if (name == [107, 101, 121]) = true then some (keyV c.key) else findA name c.attrs

/-- A value's content. -/
def vv (d : VD) : VV := ⟨d.kind, d.num, d.text.data.toList, lsL d.ls⟩
def eqV (a b : VD) : Bool := eqVV a.kind b.kind a.num b.num a.text b.text (lsL a.ls == lsL b.ls)
/-- Two values of one content. -/
def SameV (a b : VD) : Prop := a.kind = b.kind ∧ a.num = b.num ∧ a.text = b.text ∧ a.ls = b.ls
theorem SameV.vv {a b : VD} (h : SameV a b) : vv a = vv b := by obtain ⟨h1, h2, h3, h4⟩ := h; unfold clause.vv; rw [h1, h2, h3, h4]

/-- How a comparison answers an operation. -/
def cmpB (op : Int) (c : Int × Int) : Bool :=
  if c.2 ≠ 0 then false else if op = 12 then decide (c.1 < 0) else if op = 13 then decide (c.1 ≤ 0) else if op = 14 then decide (0 < c.1) else decide (0 ≤ c.1)
/-- Whether an operation holds between a value and the first value of a test. -/
def oneS (op : Int) (v w : VD) : Bool :=
  if op = 7 then eqV v w
  else if op = 9 then (v.kind == 3 && w.kind == 3) && w.text.data.toList.isPrefixOf v.text.data.toList
  else if op = 10 then (v.kind == 3 && w.kind == 3) && w.text.data.toList.isSuffixOf v.text.data.toList
  else if op = 11 then (v.kind == 3 && w.kind == 3 && Lib.contains v.text.data.toList w.text.data.toList) || (w.kind == 3 && v.kind == 5 && hasS w.text.toList v.ls)
  else cmpB op (compareS (clause.vv v) (clause.vv w))
def holdsS (op : Int) (v : VD) (vals : List VD) : Bool :=
  if op = 6 then true else if op = 8 then vals.any (eqV v) else match vals with
  | [] => false
  | w :: _ => oneS op v w
def testS (l : List CT) (op : Int) (kind name : ByteArray) (vals : List VD) : Bool :=
  match lookS l kind.toList name.toList with
  | none => false
  | some v => if 6 ≤ op ∧ op ≤ 15 then holdsS op v vals else false
mutual
def evalS (l : List CT) (inn : List ByteArray) : ED → Bool
  | .mk op kind name vals kids =>
    if op = 1 then true
    else if op = 2 then allS l inn kids
    else if op = 3 then anyS l inn kids
    else if op = 4 then headS l inn kids
    else if op = 5 then hasS name.toList inn
    else testS l op kind name vals
def allS (l : List CT) (inn : List ByteArray) : List ED → Bool
  | [] => true
  | k :: r => evalS l inn k && allS l inn r
def anyS (l : List CT) (inn : List ByteArray) : List ED → Bool
  | [] => false
  | k :: r => evalS l inn k || anyS l inn r
def headS (l : List CT) (inn : List ByteArray) : List ED → Bool
  | [] => false
  | k :: _ => !evalS l inn k
end

end Go.Proofs.YtlohdmghaeabjaaGreatDoor.clause

