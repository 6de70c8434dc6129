/- Plain: the contexts of two subjects joined. -/
import Derived.Test.YtkglejfkfeahcaaGreatDoorKJ20
namespace Go.Proofs.YtkglejfkfeahcaaGreatDoor.subj
open Go.RowKit Go.Proofs.YtkglejfkfeahcaaGreatDoor Go.Proofs.YtkglejfkfeahcaaGreatDoor.schema Go.Proofs.YtkglejfkfeahcaaGreatDoor.value Go.Proofs.YtkglejfkfeahcaaGreatDoor.text Go.Proofs.YtkglejfkfeahcaaGreatDoor.clause

/-- Values, attributes and contexts by what they say. -/
def nV (v : VD) := (v.kind, v.num, v.text, v.ls)
def nA (a : AD) := (a.name, nV a.val)
def nC (c : CT) := (c.kind, c.key, c.attrs.map nA)
theorem nV_iff (a b : VD) : SameV a b ↔ nV a = nV b := by simp [SameV, nV]
theorem nA_iff (a b : AD) : SameA a b ↔ nA a = nA b := by simp [SameA, nA, nV_iff]
theorem alike_iff {α β : Type} {R : α → α → Prop} {f : α → β} (h : ∀ a b, R a b ↔ f a = f b) : ∀ l' l : List α, Alike R l' l ↔ l'.map f = l.map f
  | [], [] => ⟨fun _ => rfl, fun _ => ⟨rfl, fun i h1 => by simp at h1⟩⟩
  | [], b :: l => ⟨fun h => by have := h.1; simp at this, fun h => by simp at h⟩
  | a :: l', [] => ⟨fun h => by have := h.1; simp at this, fun h => by simp at h⟩
  | a :: l', b :: l => by
    have ih := alike_iff h l' l
    rw [List.map_cons, List.map_cons, List.cons.injEq, ← ih, ← h]
    exact ⟨fun h => h.inv, fun ⟨h1, h2⟩ => Alike.cons' h1 h2⟩
theorem nC_iff (a b : CT) : SameC a b ↔ nC a = nC b := by simp [SameC, nC, alike_iff nA_iff]
theorem alikeC (l' l : List CT) : Alike SameC l' l ↔ l'.map nC = l.map nC := alike_iff nC_iff l' l

/-- Contexts in the order of their kinds. -/
def SortC (l : List CT) : Prop := l.Pairwise fun a b => Op.bytesLess a.kind.data.toList b.kind.data.toList = true
theorem less_asymm {a b : List UInt8} (h1 : Op.bytesLess a b = true) (h2 : Op.bytesLess b a = true) : False := by
  have := less_trans h1 h2
  rw [less_irrefl] at this
  cases this
theorem less_of_not {a b : List UInt8} (h1 : Op.bytesLess b a = false) (h2 : b ≠ a) : Op.bytesLess a b = true := by
  rw [less_tri, h1]
  simpa using h2
/-- A list in order is fixed by what it holds. -/
theorem sorted_unique {X : Type} {lt : X → X → Prop} (ha : ∀ a b, lt a b → lt b a → False) : ∀ {l m : List X}, l.Perm m → l.Pairwise lt → m.Pairwise lt → l = m
  | [], m, hp, _, _ => by rw [List.Perm.eq_nil hp.symm]
  | a :: l, [], hp, _, _ => by have := hp.length_eq; simp at this
  | a :: l, b :: m, hp, h1, h2 => by
    have hab : a = b := by
      have ha1 : a ∈ b :: m := hp.mem_iff.1 (by simp)
      have hb1 : b ∈ a :: l := hp.mem_iff.2 (by simp)
      rcases List.mem_cons.1 ha1 with e | e
      · exact e
      · rcases List.mem_cons.1 hb1 with e2 | e2
        · exact e2.symm
        · exact (ha _ _ ((List.pairwise_cons.1 h1).1 _ e2) ((List.pairwise_cons.1 h2).1 _ e)).elim
    subst hab
    rw [sorted_unique ha (List.Perm.cons_inv hp) (List.pairwise_cons.1 h1).2 (List.pairwise_cons.1 h2).2]
theorem sortC_unique {l m : List CT} (hp : (l.map nC).Perm (m.map nC)) (h1 : SortC l) (h2 : SortC m) : Alike SameC l m := by
  rw [alikeC]
  refine sorted_unique (lt := fun a b => Op.bytesLess a.1.data.toList b.1.data.toList = true) (fun a b => less_asymm) hp ?_ ?_
  · exact List.pairwise_map.2 h1
  · exact List.pairwise_map.2 h2
theorem sortC_alike {l' l : List CT} (h : Alike SameC l' l) (hs : SortC l) : SortC l' := by
  refine List.pairwise_iff_getElem.2 fun i j hi hj hij => ?_
  rw [(h.2 i hi (by rw [← h.1]; exact hi)).1, (h.2 j hj (by rw [← h.1]; exact hj)).1]
  exact List.pairwise_iff_getElem.1 hs i j _ _ hij

/-- Whether a kind of the second is one of the first. -/
def dupB (la lb : List CT) : Bool := lb.any fun c => (findS c.kind.toList la).isSome
theorem findS_isSome {x : List UInt8} {l : List CT} : (findS x l).isSome = true ↔ ∃ c ∈ l, c.kind.toList = x := by
  constructor
  · intro h
    obtain ⟨c, hc⟩ := Option.isSome_iff_exists.1 h
    obtain ⟨k, hk, rfl⟩ := findS_some hc
    exact ⟨_, List.getElem_mem hk, eq_of_beq (findS_kind hc)⟩
  · rintro ⟨c, hc, e⟩
    cases hf : findS x l with
    | some _ => rfl
    | none =>
      have := findS_none hf c hc
      rw [e] at this
      simp at this
theorem dupB_iff {la lb : List CT} : dupB la lb = true ↔ ∃ a ∈ la, ∃ b ∈ lb, a.kind.toList = b.kind.toList := by
  unfold dupB
  rw [List.any_eq_true]
  constructor
  · rintro ⟨b, hb, h⟩
    obtain ⟨a, ha, e⟩ := findS_isSome.1 h
    exact ⟨a, ha, b, hb, e⟩
  · rintro ⟨a, ha, b, hb, e⟩
    exact ⟨b, hb, findS_isSome.2 ⟨a, ha, e⟩⟩
theorem dupB_comm (la lb : List CT) : dupB la lb = dupB lb la := by
  rw [Bool.eq_iff_iff, dupB_iff, dupB_iff]
  constructor
  · rintro ⟨a, ha, b, hb, e⟩; exact ⟨b, hb, a, ha, e.symm⟩
  · rintro ⟨a, ha, b, hb, e⟩; exact ⟨b, hb, a, ha, e.symm⟩
/-- The error of a join. -/
def joinE (la lb : List CT) : Int := if subS la ≠ 0 then subS la else if subS lb ≠ 0 then subS lb else if dupB la lb = true then 10 else if 4 < la.length + lb.length then 5 else 0
theorem joinE_zero {la lb : List CT} : joinE la lb = 0 ↔ subS la = 0 ∧ subS lb = 0 ∧ dupB la lb = false ∧ la.length + lb.length ≤ 4 := by
  unfold joinE
  split
  · rename_i h; exact ⟨fun h1 => absurd h1 h, fun h1 => absurd h1.1 h⟩
  · rename_i h
    split
    · rename_i h2; exact ⟨fun h1 => absurd h1 h2, fun h1 => absurd h1.2.1 h2⟩
    · rename_i h2
      split
      · rename_i h3; exact ⟨fun h1 => by simp at h1, fun h1 => by rw [h1.2.2.1] at h3; cases h3⟩
      · rename_i h3
        split
        · exact ⟨fun h1 => by simp at h1, fun h1 => by omega⟩
        · exact ⟨fun _ => ⟨by simpa using h, by simpa using h2, by simpa using h3, by omega⟩, fun _ => rfl⟩
theorem joinE_comm (la lb : List CT) : joinE la lb = 0 ↔ joinE lb la = 0 := by
  rw [joinE_zero, joinE_zero, dupB_comm]
  constructor
  · rintro ⟨h1, h2, h3, h4⟩; exact ⟨h2, h1, h3, by omega⟩
  · rintro ⟨h1, h2, h3, h4⟩; exact ⟨h2, h1, h3, by omega⟩

/-- What a join gives. -/
def Joined (la lb l' : List CT) : Prop := (joinE la lb = 0 → (l'.map nC).Perm ((la ++ lb).map nC) ∧ SortC l') ∧ (joinE la lb ≠ 0 → l' = [])
theorem Joined.alike {la lb l m : List CT} (h1 : Joined la lb l) (h2 : Joined la lb m) : Alike SameC l m := by
  by_cases h : joinE la lb = 0
  · exact sortC_unique ((h1.1 h).1.trans (h2.1 h).1.symm) (h1.1 h).2 (h2.1 h).2
  · rw [h1.2 h, h2.2 h]
    exact ⟨rfl, fun i h => by simp at h⟩
theorem Joined.turned {la lb l m : List CT} (h : joinE la lb = 0) (h1 : Joined la lb l) (h2 : Joined lb la m) : Alike SameC l m := by
  have h' := (joinE_comm la lb).1 h
  refine sortC_unique (((h1.1 h).1.trans ?_).trans (h2.1 h').1.symm) (h1.1 h).2 (h2.1 h').2
  rw [List.map_append, List.map_append]
  exact List.perm_append_comm

/-- Is a context's kind before x. -/
def befC (x : List UInt8) (c : CT) : Bool := Op.bytesLess c.kind.data.toList x
/-- A context put in where its kind belongs. -/
def putK (k : Nat) (c : CT) (l : List CT) : List CT := l.take k ++ c :: l.drop k
theorem putK_perm (k : Nat) (c : CT) (l : List CT) : (putK k c l).Perm (l ++ [c]) := by
  unfold putK
  conv => rhs; rw [← List.take_append_drop k l, List.append_assoc]
  exact List.Perm.append_left _ (List.perm_append_singleton c _).symm
theorem putK_sort {k : Nat} {c : CT} {l : List CT} (hs : SortC l) (h1 : ∀ (j : Nat) (hj : j < l.length), j < k → befC c.kind.data.toList l[j] = true) (h2 : ∀ h : k < l.length, befC c.kind.data.toList l[k] = false ∧ l[k].kind.data.toList ≠ c.kind.data.toList) : SortC (putK k c l) := by
  unfold putK SortC
  refine List.pairwise_append.2 ⟨List.Pairwise.sublist (List.take_sublist k l) hs, List.pairwise_cons.2 ⟨?_, List.Pairwise.sublist (List.drop_sublist k l) hs⟩, ?_⟩
  · intro b hb
    obtain ⟨j, hj, rfl⟩ := List.getElem_of_mem hb
    rw [List.length_drop] at hj
    have hk : k < l.length := by omega
    obtain ⟨h3, h4⟩ := h2 hk
    have hck : Op.bytesLess c.kind.data.toList l[k].kind.data.toList = true := less_of_not h3 h4
    rw [List.getElem_drop]
    rcases Nat.eq_zero_or_pos j with rfl | h0
    · exact hck
    · exact less_trans hck (List.pairwise_iff_getElem.1 hs k (k + j) hk _ (by omega))
  · intro a ha b hb
    obtain ⟨j, hj, rfl⟩ := List.getElem_of_mem ha
    rw [List.length_take] at hj
    have hac := h1 j (by omega) (by omega)
    rw [List.getElem_take]
    rcases List.mem_cons.1 hb with rfl | hb
    · exact hac
    · obtain ⟨i, hi, rfl⟩ := List.getElem_of_mem hb
      rw [List.length_drop] at hi
      rw [List.getElem_drop]
      exact List.pairwise_iff_getElem.1 hs j (k + i) _ _ (by omega)

end Go.Proofs.YtkglejfkfeahcaaGreatDoor.subj

