/- Chapter 5, plain: which subjects are valid, or the first error. -/
import Derived.Test.YthnjgbjckggjhaaGreatDoorKJ4
import Derived.Test.YthnjgbjckggjhaaGreatDoorKTextB
namespace Go.Proofs.YthnjgbjckggjhaaGreatDoor.subj
open Go.RowKit Go.Proofs.YthnjgbjckggjhaaGreatDoor Go.Proofs.YthnjgbjckggjhaaGreatDoor.schema Go.Proofs.YthnjgbjckggjhaaGreatDoor.value Go.Proofs.YthnjgbjckggjhaaGreatDoor.text Go.Proofs.YthnjgbjckggjhaaGreatDoor.clause

/-- Is a name behind the one before it. -/
def lateS : Option (List UInt8) → List UInt8 → Bool
  | none, _ => true
  | some q, n => Op.bytesLess q n
/-- The first error of attributes behind one of a name. -/
def attrGo : Option (List UInt8) → List AD → Int
  | _, [] => 0
  | p, a :: r =>
    if keyS a.name.data.toList = false ∨ (a.name.data.toList == [107, 101, 121]) = true then 6
    else if lateS p a.name.data.toList = false then 9
    else if checkS (vv a.val) ≠ 0 then checkS (vv a.val)
    else attrGo (some a.name.data.toList) r
def attrS (l : List AD) : Int := if 20 < l.length then 5 else attrGo none l
/-- The first error of contexts behind one of a kind. -/
def subGo : Option (List UInt8) → List CT → Int
  | _, [] => 0
  | p, c :: r =>
    if keyS c.kind.data.toList = false then 6
    else if lateS p c.kind.data.toList = false then 9
    else if c.key.size = 0 ∨ validS c.key.data.toList = false then 2
    else if attrS c.attrs ≠ 0 then attrS c.attrs
    else subGo (some c.kind.data.toList) r
def subS (l : List CT) : Int := if 4 < l.length then 5 else subGo none l

/-- The name before the k-th. -/
def prevA (l : List AD) (k : Nat) : Option (List UInt8) := if k = 0 then none else (l[k - 1]?).map fun a => a.name.data.toList
def prevC (l : List CT) (k : Nat) : Option (List UInt8) := if k = 0 then none else (l[k - 1]?).map fun c => c.kind.data.toList
theorem prevA_zero (l : List AD) : prevA l 0 = none := rfl
theorem prevC_zero (l : List CT) : prevC l 0 = none := rfl
theorem prevA_succ {l : List AD} {k : Nat} (h : k < l.length) : prevA l (k + 1) = some l[k].name.data.toList := by unfold prevA; simp [h]
theorem prevC_succ {l : List CT} {k : Nat} (h : k < l.length) : prevC l (k + 1) = some l[k].kind.data.toList := by unfold prevC; simp [h]
def AtA (l : List AD) (k : Nat) : Prop := attrGo (prevA l k) (l.drop k) = attrGo none l
def AtC (l : List CT) (k : Nat) : Prop := subGo (prevC l k) (l.drop k) = subGo none l
theorem AtA.here {l : List AD} {k : Nat} (T : AtA l k) (h : k < l.length) : attrGo none l = attrGo (prevA l k) (l[k] :: l.drop (k + 1)) := by
  unfold AtA at T; rw [← T, List.drop_eq_getElem_cons h]
theorem AtC.here {l : List CT} {k : Nat} (T : AtC l k) (h : k < l.length) : subGo none l = subGo (prevC l k) (l[k] :: l.drop (k + 1)) := by
  unfold AtC at T; rw [← T, List.drop_eq_getElem_cons h]
theorem AtA.done {l : List AD} {k : Nat} (T : AtA l k) (h : ¬ k < l.length) : attrGo none l = 0 := by
  unfold AtA at T; rw [← T, List.drop_eq_nil_of_le (by omega)]; cases prevA l k <;> rfl
theorem AtC.done {l : List CT} {k : Nat} (T : AtC l k) (h : ¬ k < l.length) : subGo none l = 0 := by
  unfold AtC at T; rw [← T, List.drop_eq_nil_of_le (by omega)]; cases prevC l k <;> rfl
theorem AtA.key {l : List AD} {k : Nat} (T : AtA l k) (h : k < l.length) (h1 : keyS l[k].name.data.toList = false ∨ (l[k].name.data.toList == [107, 101, 121]) = true) : attrGo none l = 6 := by
  rw [T.here h, attrGo, if_pos h1]
theorem AtA.order {l : List AD} {k : Nat} (T : AtA l k) (h : k < l.length) (h1 : keyS l[k].name.data.toList = true) (h1' : (l[k].name.data.toList == [107, 101, 121]) = false) (h2 : lateS (prevA l k) l[k].name.data.toList = false) : attrGo none l = 9 := by
  rw [T.here h, attrGo, if_neg (by rw [h1, h1']; decide), if_pos h2]
theorem AtA.bad {l : List AD} {k : Nat} (T : AtA l k) (h : k < l.length) (h1 : keyS l[k].name.data.toList = true) (h1' : (l[k].name.data.toList == [107, 101, 121]) = false) (h2 : lateS (prevA l k) l[k].name.data.toList = true) (h3 : checkS (vv l[k].val) ≠ 0) : attrGo none l = checkS (vv l[k].val) := by
  rw [T.here h, attrGo, if_neg (by rw [h1, h1']; decide), if_neg (by rw [h2]; decide), if_pos h3]
theorem AtA.next {l : List AD} {k : Nat} (T : AtA l k) (h : k < l.length) (h1 : keyS l[k].name.data.toList = true) (h1' : (l[k].name.data.toList == [107, 101, 121]) = false) (h2 : lateS (prevA l k) l[k].name.data.toList = true) (h3 : checkS (vv l[k].val) = 0) : AtA l (k + 1) := by
  unfold AtA
  rw [T.here h, attrGo, if_neg (by rw [h1, h1']; decide), if_neg (by rw [h2]; decide), if_neg (by rw [h3]; decide), prevA_succ h]
theorem AtC.key {l : List CT} {k : Nat} (T : AtC l k) (h : k < l.length) (h1 : keyS l[k].kind.data.toList = false) : subGo none l = 6 := by
  rw [T.here h, subGo, if_pos h1]
theorem AtC.order {l : List CT} {k : Nat} (T : AtC l k) (h : k < l.length) (h1 : keyS l[k].kind.data.toList = true) (h2 : lateS (prevC l k) l[k].kind.data.toList = false) : subGo none l = 9 := by
  rw [T.here h, subGo, if_neg (by rw [h1]; decide), if_pos h2]
theorem AtC.text {l : List CT} {k : Nat} (T : AtC l k) (h : k < l.length) (h1 : keyS l[k].kind.data.toList = true) (h2 : lateS (prevC l k) l[k].kind.data.toList = true) (h3 : l[k].key.size = 0 ∨ validS l[k].key.data.toList = false) : subGo none l = 2 := by
  rw [T.here h, subGo, if_neg (by rw [h1]; decide), if_neg (by rw [h2]; decide), if_pos h3]
theorem AtC.bad {l : List CT} {k : Nat} (T : AtC l k) (h : k < l.length) (h1 : keyS l[k].kind.data.toList = true) (h2 : lateS (prevC l k) l[k].kind.data.toList = true) (h3 : ¬ l[k].key.size = 0) (h4 : validS l[k].key.data.toList = true) (h5 : attrS l[k].attrs ≠ 0) : subGo none l = attrS l[k].attrs := by
  rw [T.here h, subGo, if_neg (by rw [h1]; decide), if_neg (by rw [h2]; decide), if_neg (by rw [h4]; simp [h3]), if_pos h5]
theorem AtC.next {l : List CT} {k : Nat} (T : AtC l k) (h : k < l.length) (h1 : keyS l[k].kind.data.toList = true) (h2 : lateS (prevC l k) l[k].kind.data.toList = true) (h3 : ¬ l[k].key.size = 0) (h4 : validS l[k].key.data.toList = true) (h5 : attrS l[k].attrs = 0) : AtC l (k + 1) := by
  unfold AtC
  rw [T.here h, subGo, if_neg (by rw [h1]; decide), if_neg (by rw [h2]; decide), if_neg (by rw [h4]; simp [h3]), if_neg (by rw [h5]; decide), prevC_succ h]

end Go.Proofs.YthnjgbjckggjhaaGreatDoor.subj

