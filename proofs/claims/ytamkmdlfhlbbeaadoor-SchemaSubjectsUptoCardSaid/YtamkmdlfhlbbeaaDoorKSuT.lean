/- Chapter 9, plain: which subjects fit the declared attributes, or the first error. -/
import Derived.Test.YtamkmdlfhlbbeaaDoorKSuD
namespace Go.Proofs.YtamkmdlfhlbbeaaDoor.subj
open Go.RowKit Go.Proofs.YtamkmdlfhlbbeaaDoor Go.Proofs.YtamkmdlfhlbbeaaDoor.schema Go.Proofs.YtamkmdlfhlbbeaaDoor.value Go.Proofs.YtamkmdlfhlbbeaaDoor.text Go.Proofs.YtamkmdlfhlbbeaaDoor.clause Go.Proofs.YtamkmdlfhlbbeaaDoor.draw

def fitA (decl : List DD) (kind : ByteArray) : List AD → Int
  | [] => 0
  | a :: r => if typeOf kind.toList a.name.toList decl = 0 then 11 else if typeOf kind.toList a.name.toList decl ≠ a.val.kind then 8 else fitA decl kind r
def fitC (decl : List DD) : List CT → Int
  | [] => 0
  | c :: r => if fitA decl c.kind c.attrs ≠ 0 then fitA decl c.kind c.attrs else fitC decl r
def subjS (decl : List DD) (l : List CT) : Int := if subS l ≠ 0 then subS l else fitC decl l

theorem fitA_ok {kind : ByteArray} : ∀ (l : List AD), (∀ a ∈ l, ∃ d ∈ declD, d.kind.toList = kind.toList ∧ d.name = a.name ∧ d.type = a.val.kind) → fitA declD kind l = 0
  | [], _ => rfl
  | a :: r, h => by
    obtain ⟨d, hd, h1, h2, h3⟩ := h a (by simp)
    obtain ⟨j, hj, rfl⟩ := List.getElem_of_mem hd
    have ht := decl_types j hj
    have e : typeOf kind.toList a.name.toList declD = a.val.kind := by rw [← h1, ← h2, ← h3]; exact ht.1
    have e0 : a.val.kind ≠ 0 := by rw [← h3]; have := ht.2.1; omega
    unfold fitA
    rw [e, if_neg e0, if_neg (by simp)]
    exact fitA_ok r (fun b hb => h b (by simp [hb]))
theorem fitC_ok : ∀ (l : List CT), (∀ c ∈ l, okC c) → fitC declD l = 0
  | [], _ => rfl
  | c :: r, h => by
    have e := fitA_ok c.attrs (fun a ha => ((h c (by simp)).2.2 a ha).2)
    unfold fitC
    rw [e, if_neg (by simp)]
    exact fitC_ok r (fun d hd => h d (by simp [hd]))
theorem subj_ok {l : List CT} (h : okSub l) : subjS declD l = 0 := by
  unfold subjS
  rw [sub_ok h, if_neg (by simp)]
  rcases h with h | h | h | h
  all_goals exact fitC_ok l h.2

/-- The loops. -/
def FitC (decl : List DD) (l : List CT) (k : Nat) : Prop := fitC decl (l.drop k) = fitC decl l
def FitA (decl : List DD) (kind : ByteArray) (l : List AD) (k : Nat) : Prop := fitA decl kind (l.drop k) = fitA decl kind l
theorem FitA.none {decl : List DD} {kind : ByteArray} {l : List AD} {k : Nat} (T : FitA decl kind l k) (h : k < l.length) (h1 : typeOf kind.toList l[k].name.toList decl = 0) : fitA decl kind l = 11 := by
  unfold FitA at T; rw [← T, List.drop_eq_getElem_cons h, fitA, if_pos h1]
theorem FitA.bad {decl : List DD} {kind : ByteArray} {l : List AD} {k : Nat} (T : FitA decl kind l k) (h : k < l.length) (h1 : ¬ typeOf kind.toList l[k].name.toList decl = 0) (h2 : typeOf kind.toList l[k].name.toList decl ≠ l[k].val.kind) : fitA decl kind l = 8 := by
  unfold FitA at T; rw [← T, List.drop_eq_getElem_cons h, fitA, if_neg h1, if_pos h2]
theorem FitA.next {decl : List DD} {kind : ByteArray} {l : List AD} {k : Nat} (T : FitA decl kind l k) (h : k < l.length) (h1 : ¬ typeOf kind.toList l[k].name.toList decl = 0) (h2 : typeOf kind.toList l[k].name.toList decl = l[k].val.kind) : FitA decl kind l (k + 1) := by
  unfold FitA at *; rw [← T, List.drop_eq_getElem_cons h, fitA, if_neg h1, if_neg (by simp [h2])]
theorem FitA.done {decl : List DD} {kind : ByteArray} {l : List AD} {k : Nat} (T : FitA decl kind l k) (h : ¬ k < l.length) : fitA decl kind l = 0 := by
  unfold FitA at T; rw [← T, List.drop_eq_nil_of_le (by omega)]; rfl
theorem FitC.bad {decl : List DD} {l : List CT} {k : Nat} (T : FitC decl l k) (h : k < l.length) (h1 : fitA decl l[k].kind l[k].attrs ≠ 0) : fitC decl l = fitA decl l[k].kind l[k].attrs := by
  unfold FitC at T; rw [← T, List.drop_eq_getElem_cons h, fitC, if_pos h1]
theorem FitC.next {decl : List DD} {l : List CT} {k : Nat} (T : FitC decl l k) (h : k < l.length) (h1 : fitA decl l[k].kind l[k].attrs = 0) : FitC decl l (k + 1) := by
  unfold FitC at *; rw [← T, List.drop_eq_getElem_cons h, fitC, if_neg (by simp [h1])]
theorem FitC.done {decl : List DD} {l : List CT} {k : Nat} (T : FitC decl l k) (h : ¬ k < l.length) : fitC decl l = 0 := by
  unfold FitC at T; rw [← T, List.drop_eq_nil_of_le (by omega)]; rfl
theorem subj_bad (decl : List DD) {l : List CT} (h : subS l ≠ 0) : subjS decl l = subS l := by unfold subjS; rw [if_pos h]
theorem subj_fit (decl : List DD) {l : List CT} (h : subS l = 0) : subjS decl l = fitC decl l := by unfold subjS; rw [if_neg (by simp [h])]

end Go.Proofs.YtamkmdlfhlbbeaaDoor.subj

