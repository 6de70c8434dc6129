/- Chapter 11, plain: negations pushed down to the atoms, atoms swapped, conditions of one content. -/
import Derived.Test.YtlohdmghaeabjaaGreatDoorKClY
namespace Go.Proofs.YtlohdmghaeabjaaGreatDoor.clause
open Go.RowKit Go.Proofs.YtlohdmghaeabjaaGreatDoor Go.Proofs.YtlohdmghaeabjaaGreatDoor.schema Go.Proofs.YtlohdmghaeabjaaGreatDoor.value Go.Proofs.YtlohdmghaeabjaaGreatDoor.text Go.Proofs.YtlohdmghaeabjaaGreatDoor.draw

mutual
def negS (b : Bool) : ED → ED
  | .mk op kind name vals kids =>
    if op = 4 then negH (!b) kids
    else if op = 2 ∨ op = 3 then .mk (if b then 5 - op else op) ⟨#[]⟩ ⟨#[]⟩ [] (negL b kids)
    else if b then .mk 4 ⟨#[]⟩ ⟨#[]⟩ [] [.mk op kind name vals kids] else .mk op kind name vals kids
def negH (b : Bool) : List ED → ED
  | [] => .mk 0 ⟨#[]⟩ ⟨#[]⟩ [] []
  | k :: _ => negS b k
def negL (b : Bool) : List ED → List ED
  | [] => []
  | k :: r => negS b k :: negL b r
end
theorem eval_2 (l : List CT) (inn : List ByteArray) (k n : ByteArray) (v : List VD) (ks : List ED) : evalS l inn (.mk 2 k n v ks) = allS l inn ks := by
  rw [evalS.eq_1, if_neg (by decide), if_pos rfl]
theorem eval_3 (l : List CT) (inn : List ByteArray) (k n : ByteArray) (v : List VD) (ks : List ED) : evalS l inn (.mk 3 k n v ks) = anyS l inn ks := by
  rw [evalS.eq_1, if_neg (by decide), if_neg (by decide), if_pos rfl]
theorem eval_4 (l : List CT) (inn : List ByteArray) (k n : ByteArray) (v : List VD) (ks : List ED) : evalS l inn (.mk 4 k n v ks) = headS l inn ks := by
  rw [evalS.eq_1, if_neg (by decide), if_neg (by decide), if_neg (by decide), if_pos rfl]
mutual
theorem neg_eval {N : Nat} (l : List CT) (inn : List ByteArray) : ∀ (b : Bool) (d : ED), smallE N d → evalS l inn (negS b d) = (b ^^ evalS l inn d)
  | b, .mk op kind name vals kids, h => by
    rw [negS]
    by_cases h4 : op = 4
    · rw [if_pos h4]
      subst h4
      rw [neg_head l inn (!b) kids (h.2.2.1 rfl) h.2.2.2, eval_4]
      cases b <;> cases headS l inn kids <;> rfl
    rw [if_neg h4]
    by_cases h23 : op = 2 ∨ op = 3
    · rw [if_pos h23]
      obtain ⟨e1, e2, e3, e4⟩ := neg_list l inn kids h.2.2.2
      rcases h23 with rfl | rfl
      · rw [eval_2]
        cases b with
        | true => rw [if_pos rfl]; show evalS l inn (.mk 3 _ _ _ _) = _; rw [eval_3, e2]; cases allS l inn kids <;> rfl
        | false => rw [if_neg (by decide), eval_2, e1]; cases allS l inn kids <;> rfl
      · rw [eval_3]
        cases b with
        | true => rw [if_pos rfl]; show evalS l inn (.mk 2 _ _ _ _) = _; rw [eval_2, e4]; cases anyS l inn kids <;> rfl
        | false => rw [if_neg (by decide), eval_3, e3]; cases anyS l inn kids <;> rfl
    rw [if_neg h23]
    cases b with
    | true => rw [if_pos rfl, eval_4, headS]; cases evalS l inn (.mk op kind name vals kids) <;> rfl
    | false => rw [if_neg (by decide)]; cases evalS l inn (.mk op kind name vals kids) <;> rfl
theorem neg_head {N : Nat} (l : List CT) (inn : List ByteArray) : ∀ (b : Bool) (ks : List ED), 0 < ks.length → smallL N ks → evalS l inn (negH b ks) = (b ^^ !headS l inn ks)
  | _, [], h, _ => absurd h (by simp)
  | b, k :: r, _, h => by rw [negH, neg_eval l inn b k h.1, headS, Bool.not_not]
theorem neg_list {N : Nat} (l : List CT) (inn : List ByteArray) : ∀ ks : List ED, smallL N ks → allS l inn (negL false ks) = allS l inn ks ∧ anyS l inn (negL true ks) = (!allS l inn ks) ∧ anyS l inn (negL false ks) = anyS l inn ks ∧ allS l inn (negL true ks) = (!anyS l inn ks)
  | [], _ => ⟨rfl, rfl, rfl, rfl⟩
  | k :: r, h => by
    have h1 := neg_eval l inn true k h.1
    have h2 := neg_eval l inn false k h.1
    obtain ⟨e1, e2, e3, e4⟩ := neg_list l inn r h.2
    simp only [negL, allS, anyS, h1, h2, e1, e2, e3, e4]
    cases evalS l inn k <;> cases allS l inn r <;> cases anyS l inn r <;> decide
end

theorem bytes_eq {a b : ByteArray} (h : a.toList = b.toList) : a = b := by
  rw [ByteArray.toList_eq, ByteArray.toList_eq] at h
  obtain ⟨⟨x⟩⟩ := a
  obtain ⟨⟨y⟩⟩ := b
  simp only at h
  rw [h]
theorem eqV_parts {a b : VD} (h : eqV a b = true) : a.kind = b.kind ∧ a.num = b.num ∧ a.text = b.text ∧ lsL a.ls = lsL b.ls := by
  unfold eqV eqVV at h
  simp only [Bool.and_eq_true, beq_iff_eq] at h
  exact ⟨h.1, h.2.1, bytes_eq h.2.2.1, h.2.2.2⟩
theorem one_same {op : Int} {v a b : VD} (h : eqV a b = true) : oneS op v a = oneS op v b := by
  obtain ⟨h1, h2, h3, h4⟩ := eqV_parts h
  have e : vv a = vv b := by unfold vv; rw [h1, h2, h3, h4]
  have e2 : eqV v a = eqV v b := by unfold eqV; rw [h1, h2, h3, h4]
  unfold oneS
  rw [e, e2, h1, h3]
theorem eq_same {v a b : VD} (h : eqV a b = true) : eqV v a = eqV v b := by
  obtain ⟨h1, h2, h3, h4⟩ := eqV_parts h
  unfold eqV; rw [h1, h2, h3, h4]
theorem anyV_same {v : VD} : ∀ {a b : List VD}, sameVL a b = true → a.any (eqV v) = b.any (eqV v)
  | [], [], _ => rfl
  | [], _ :: _, h => by cases h
  | _ :: _, [], h => by cases h
  | x :: r, y :: s, h => by
    rw [sameVL, Bool.and_eq_true] at h
    rw [List.any_cons, List.any_cons, eq_same h.1, anyV_same h.2]
theorem holds_same {op : Int} {v : VD} {a b : List VD} (h : sameVL a b = true) : holdsS op v a = holdsS op v b := by
  unfold holdsS
  by_cases h6 : op = 6
  · rw [if_pos h6, if_pos h6]
  rw [if_neg h6, if_neg h6]
  by_cases h8 : op = 8
  · rw [if_pos h8, if_pos h8]; exact anyV_same h
  rw [if_neg h8, if_neg h8]
  cases a with
  | nil => cases b with
    | nil => rfl
    | cons y s => cases h
  | cons x r => cases b with
    | nil => cases h
    | cons y s =>
      rw [sameVL, Bool.and_eq_true] at h
      exact one_same h.1
theorem tests_same {l : List CT} {op : Int} {kind name : ByteArray} {a b : List VD} (h : sameVL a b = true) : testS l op kind name a = testS l op kind name b := by
  unfold testS
  cases lookS l kind.toList name.toList with
  | none => rfl
  | some v => show (if 6 ≤ op ∧ op ≤ 15 then holdsS op v a else false) = if 6 ≤ op ∧ op ≤ 15 then holdsS op v b else false; rw [holds_same h]
mutual
theorem same_eval (l : List CT) (inn : List ByteArray) : ∀ (a b : ED), sameB a b = true → evalS l inn a = evalS l inn b
  | .mk op k n v ks, .mk op' k' n' v' ks', h => by
    rw [sameB, Bool.and_eq_true, Bool.and_eq_true, Bool.and_eq_true, Bool.and_eq_true, beq_iff_eq, beq_iff_eq, beq_iff_eq] at h
    obtain ⟨rfl, h1, h2, h3, h4⟩ := h
    have e1 := bytes_eq h1
    have e2 := bytes_eq h2
    subst e1 e2
    obtain ⟨k1, k2, k3⟩ := same_list l inn ks ks' h4
    rw [evalS.eq_1, evalS.eq_1, k1, k2, k3, tests_same h3]
theorem same_list (l : List CT) (inn : List ByteArray) : ∀ (a b : List ED), sameKL a b = true → allS l inn a = allS l inn b ∧ anyS l inn a = anyS l inn b ∧ headS l inn a = headS l inn b
  | [], [], _ => ⟨rfl, rfl, rfl⟩
  | [], _ :: _, h => by cases h
  | _ :: _, [], h => by cases h
  | x :: r, y :: s, h => by
    rw [sameKL, Bool.and_eq_true] at h
    obtain ⟨k1, k2, k3⟩ := same_list l inn r s h.2
    rw [allS, allS, anyS, anyS, headS, headS, same_eval l inn x y h.1, k1, k2]
    exact ⟨rfl, rfl, rfl⟩
end

mutual
def swapS (p q : ED) : ED → ED
  | .mk op kind name vals kids => if sameB (.mk op kind name vals kids) p = true then q else .mk op kind name vals (swapL p q kids)
def swapL (p q : ED) : List ED → List ED
  | [] => []
  | k :: r => swapS p q k :: swapL p q r
end
mutual
theorem swap_eval (l : List CT) (inn : List ByteArray) (p q : ED) (hpq : evalS l inn p = evalS l inn q) : ∀ d : ED, evalS l inn (swapS p q d) = evalS l inn d
  | .mk op kind name vals kids => by
    rw [swapS]
    by_cases hs : sameB (.mk op kind name vals kids) p = true
    · rw [if_pos hs, ← hpq]
      exact (same_eval l inn _ _ hs).symm
    rw [if_neg hs]
    obtain ⟨k1, k2, k3⟩ := swap_list l inn p q hpq kids
    rw [evalS.eq_1, evalS.eq_1, k1, k2, k3]
theorem swap_list (l : List CT) (inn : List ByteArray) (p q : ED) (hpq : evalS l inn p = evalS l inn q) : ∀ ks : List ED, allS l inn (swapL p q ks) = allS l inn ks ∧ anyS l inn (swapL p q ks) = anyS l inn ks ∧ headS l inn (swapL p q ks) = headS l inn ks
  | [] => ⟨rfl, rfl, rfl⟩
  | k :: r => by
    obtain ⟨k1, k2, k3⟩ := swap_list l inn p q hpq r
    rw [swapL, allS, allS, anyS, anyS, headS, headS, swap_eval l inn p q hpq k, k1, k2]
    exact ⟨rfl, rfl, rfl⟩
end

/- Copies are of one content. -/
theorem sameV_eqV {a b : VD} (h : SameV a b) : eqV a b = true := by
  obtain ⟨h1, h2, h3, h4⟩ := h
  unfold eqV eqVV
  rw [h1, h2, h3, h4]
  simp
theorem sameL_B : ∀ {a b : List VD}, SameL a b → sameVL a b = true
  | [], [], _ => rfl
  | [], _ :: _, h => by have := h.1; simp at this
  | _ :: _, [], h => by have := h.1; simp at this
  | x :: r, y :: s, h => by
    have h0 := h.2 0 (by simp) (by simp)
    have ht : SameL r s := ⟨by simpa using h.1, fun i h1 h2 => h.2 (i + 1) (by simp; omega) (by simp; omega)⟩
    simp only [List.getElem_cons_zero] at h0
    rw [sameVL, sameV_eqV h0, sameL_B ht]; rfl
mutual
theorem sameE_B : ∀ {a b : ED}, SameE a b → sameB a b = true
  | .mk op k n v ks, .mk op' k' n' v' ks', h => by
    obtain ⟨rfl, rfl, rfl, h4, h5⟩ := h
    rw [sameB, sameL_B h4, sameEL_B h5]
    simp
theorem sameEL_B : ∀ {a b : List ED}, SameEL a b → sameKL a b = true
  | [], [], _ => rfl
  | [], _ :: _, h => by simp [SameEL] at h
  | _ :: _, [], h => by simp [SameEL] at h
  | x :: r, y :: s, h => by rw [sameKL, sameE_B h.1, sameEL_B h.2]; rfl
end

end Go.Proofs.YtlohdmghaeabjaaGreatDoor.clause

