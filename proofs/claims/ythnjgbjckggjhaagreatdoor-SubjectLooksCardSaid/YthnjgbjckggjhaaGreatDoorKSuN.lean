/- Chapter 5, plain: the canonical text of a subject, and that it tells the kinds and the keys. -/
import Derived.Test.YthnjgbjckggjhaaGreatDoorKSuS
namespace Go.Proofs.YthnjgbjckggjhaaGreatDoor.subj
open Go.RowKit Go.Proofs.YthnjgbjckggjhaaGreatDoor Go.Proofs.YthnjgbjckggjhaaGreatDoor.schema Go.Proofs.YthnjgbjckggjhaaGreatDoor.value Go.Proofs.YthnjgbjckggjhaaGreatDoor.text Go.Proofs.YthnjgbjckggjhaaGreatDoor.clause

/-- A context's part of the canonical text. -/
def canC (c : CT) : List UInt8 := c.kind.data.toList ++ 58 :: quoteS c.key.data.toList
/-- The parts with commas between them. -/
def canL : List CT → List UInt8
  | [] => []
  | [c] => canC c
  | c :: d :: r => canC c ++ 44 :: canL (d :: r)
/-- The canonical text. -/
def canS (l : List CT) : List UInt8 × Int := if subS l = 0 then (canL l, 0) else ([], subS l)
theorem canL_snoc : ∀ (l : List CT) (c : CT), l ≠ [] → canL (l ++ [c]) = canL l ++ 44 :: canC c
  | [], _, h => absurd rfl h
  | [_], _, _ => rfl
  | a :: b :: r, c, _ => by
    have := canL_snoc (b :: r) c (by simp)
    simp only [List.cons_append] at this ⊢
    rw [canL, this, canL]
    simp

/-- Kinds and keys. -/
def namesL (l : List CT) : List (List UInt8 × List UInt8) := l.map fun c => (c.kind.data.toList, c.key.data.toList)

theorem wordL_58 : ∀ (l : List UInt8) (f : Bool), wordL f l = true → (58 : UInt8) ∉ l
  | [], _, _ => by simp
  | c :: r, f, h => by
    unfold wordL at h
    rw [Bool.and_eq_true] at h
    have ih := wordL_58 r false h.2
    intro hm
    rcases List.mem_cons.1 hm with e | e
    · rw [← e] at h
      have : okB f ((58 : UInt8).toNat : Int) = false := by cases f <;> decide
      rw [this] at h
      exact absurd h.1 (by decide)
    · exact ih e
theorem key_58 {l : List UInt8} (h : keyS l = true) : (58 : UInt8) ∉ l := by
  have h1 : wordS l = true := by
    unfold keyS at h
    simp only [Bool.and_eq_true] at h
    exact h.1.1
  unfold wordS at h1
  simp only [Bool.and_eq_true] at h1
  exact wordL_58 l true h1.1
theorem split_58 : ∀ {k k' r r' : List UInt8}, (58 : UInt8) ∉ k → (58 : UInt8) ∉ k' → k ++ 58 :: r = k' ++ 58 :: r' → k = k' ∧ r = r'
  | [], [], _, _, _, _, h => by simpa using h
  | [], c :: k', _, _, _, h2, h => by
    simp only [List.nil_append, List.cons_append, List.cons.injEq] at h
    exact absurd (by rw [← h.1]; simp) h2
  | c :: k, [], _, _, h1, _, h => by
    simp only [List.nil_append, List.cons_append, List.cons.injEq] at h
    exact absurd (by rw [h.1]; simp) h1
  | c :: k, d :: k', r, r', h1, h2, h => by
    simp only [List.cons_append, List.cons.injEq] at h
    have := split_58 (k := k) (k' := k') (r := r) (r' := r') (fun hm => h1 (List.mem_cons_of_mem _ hm)) (fun hm => h2 (List.mem_cons_of_mem _ hm)) h.2
    exact ⟨by rw [h.1, this.1], this.2⟩
theorem escL_cons (c : UInt8) (r : List UInt8) : escL (c :: r) = esc c ++ escL r := by simp [escL]
theorem esc_inj : ∀ {k k' r r' : List UInt8}, escL k ++ 34 :: r = escL k' ++ 34 :: r' → k = k' ∧ r = r'
  | [], [], _, _, h => by simpa [escL] using h
  | [], c :: k', _, _, h => by
    rw [escL_cons] at h
    by_cases hc : c.toNat = 34 ∨ c.toNat = 92
    · rw [esc_two hc] at h
      simp [escL] at h
    · rw [esc_one (by omega) (by omega)] at h
      simp only [escL, List.flatMap_nil, List.nil_append, List.cons_append, List.cons.injEq] at h
      exact absurd (show c.toNat = 34 by rw [← h.1]; rfl) (by omega)
  | c :: k, [], _, _, h => by
    rw [escL_cons] at h
    by_cases hc : c.toNat = 34 ∨ c.toNat = 92
    · rw [esc_two hc] at h
      simp [escL] at h
    · rw [esc_one (by omega) (by omega)] at h
      simp only [escL, List.flatMap_nil, List.nil_append, List.cons_append, List.cons.injEq] at h
      exact absurd (show c.toNat = 34 by rw [h.1]; rfl) (by omega)
  | c :: k, d :: k', r, r', h => by
    rw [escL_cons, escL_cons] at h
    have e92 : (92 : UInt8).toNat = 92 := rfl
    by_cases hc : c.toNat = 34 ∨ c.toNat = 92
    · by_cases hd : d.toNat = 34 ∨ d.toNat = 92
      · rw [esc_two hc, esc_two hd] at h
        simp only [List.cons_append, List.nil_append, List.cons.injEq, true_and] at h
        have := esc_inj h.2
        exact ⟨by rw [h.1, this.1], this.2⟩
      · rw [esc_two hc, esc_one (by omega) (by omega)] at h
        simp only [List.cons_append, List.nil_append, List.cons.injEq] at h
        exact absurd (show d.toNat = 92 by rw [← h.1]; rfl) (by omega)
    · by_cases hd : d.toNat = 34 ∨ d.toNat = 92
      · rw [esc_one (by omega) (by omega), esc_two hd] at h
        simp only [List.cons_append, List.nil_append, List.cons.injEq] at h
        exact absurd (show c.toNat = 92 by rw [h.1]; rfl) (by omega)
      · rw [esc_one (by omega) (by omega), esc_one (by omega) (by omega)] at h
        simp only [List.cons_append, List.nil_append, List.cons.injEq] at h
        have := esc_inj h.2
        exact ⟨by rw [h.1, this.1], this.2⟩
theorem canC_inj {c d : CT} {r r' : List UInt8} (hc : keyS c.kind.data.toList = true) (hd : keyS d.kind.data.toList = true) (h : canC c ++ r = canC d ++ r') :
    (c.kind.data.toList, c.key.data.toList) = (d.kind.data.toList, d.key.data.toList) ∧ r = r' := by
  unfold canC quoteS at h
  simp only [List.append_assoc, List.cons_append] at h
  obtain ⟨h1, h2⟩ := split_58 (key_58 hc) (key_58 hd) h
  simp only [List.cons.injEq, true_and, List.nil_append] at h2
  obtain ⟨h3, h4⟩ := esc_inj h2
  exact ⟨by rw [h1, h3], h4⟩
theorem canC_ne (c : CT) : canC c ≠ [] := by unfold canC; simp
theorem canL_inj : ∀ {l l' : List CT}, (∀ c ∈ l, keyS c.kind.data.toList = true) → (∀ c ∈ l', keyS c.kind.data.toList = true) → canL l = canL l' → namesL l = namesL l'
  | [], [], _, _, _ => rfl
  | [], [d], _, _, h => absurd h.symm (canC_ne d)
  | [], d :: e :: r, _, _, h => by
    rw [canL, canL] at h
    exact absurd (List.append_eq_nil_iff.1 h.symm).1 (canC_ne d)
  | [c], [], _, _, h => absurd h (canC_ne c)
  | c :: d :: r, [], _, _, h => by
    rw [canL, canL] at h
    exact absurd (List.append_eq_nil_iff.1 h).1 (canC_ne c)
  | [c], [d], h1, h2, h => by
    rw [canL, canL] at h
    have := (canC_inj (r := []) (r' := []) (h1 c (by simp)) (h2 d (by simp)) (by simpa using h)).1
    simp only [namesL, List.map_cons, List.map_nil, this]
  | [c], d :: e :: r, h1, h2, h => by
    rw [canL, canL] at h
    have := (canC_inj (r := []) (h1 c (by simp)) (h2 d (by simp)) (by simpa using h)).2
    exact absurd this (by simp)
  | c :: d :: r, [e], h1, h2, h => by
    rw [canL, canL] at h
    have := (canC_inj (r' := []) (h1 c (by simp)) (h2 e (by simp)) (by simpa using h)).2
    exact absurd this (by simp)
  | c :: d :: r, e :: f :: r', h1, h2, h => by
    rw [canL, canL] at h
    obtain ⟨e1, e2⟩ := canC_inj (h1 c (by simp)) (h2 e (by simp)) h
    simp only [List.cons.injEq, true_and] at e2
    have := canL_inj (l := d :: r) (l' := f :: r') (fun x hx => h1 x (List.mem_cons_of_mem _ hx)) (fun x hx => h2 x (List.mem_cons_of_mem _ hx)) e2
    have e3 : namesL (c :: d :: r) = (c.kind.data.toList, c.key.data.toList) :: namesL (d :: r) := rfl
    have e4 : namesL (e :: f :: r') = (e.kind.data.toList, e.key.data.toList) :: namesL (f :: r') := rfl
    rw [e3, e4, e1, this]
theorem canL_names : ∀ {l l' : List CT}, namesL l = namesL l' → canL l = canL l'
  | [], [], _ => rfl
  | [], _ :: _, h => by cases h
  | _ :: _, [], h => by cases h
  | [c], [d], h => by
    simp only [namesL, List.map_cons, List.map_nil, List.cons.injEq, Prod.mk.injEq, and_true] at h
    rw [canL, canL, canC, canC, h.1, h.2]
  | [c], d :: e :: r, h => by simp [namesL] at h
  | c :: d :: r, [e], h => by simp [namesL] at h
  | c :: d :: r, e :: f :: r', h => by
    have h' : (c.kind.data.toList, c.key.data.toList) :: namesL (d :: r) = (e.kind.data.toList, e.key.data.toList) :: namesL (f :: r') := h
    simp only [List.cons.injEq, Prod.mk.injEq] at h'
    rw [canL, canL, canC, canC, h'.1.1, h'.1.2, canL_names h'.2]
theorem subGo_keys : ∀ (l : List CT) (p : Option (List UInt8)), subGo p l = 0 → ∀ c ∈ l, keyS c.kind.data.toList = true
  | [], _, _, _, h => by cases h
  | c :: r, p, h, d, hd => by
    have hk : keyS c.kind.data.toList = true := by
      rcases Bool.eq_false_or_eq_true (keyS c.kind.data.toList) with h1 | h1
      · exact h1
      · rw [subGo.eq_def] at h; simp [h1] at h
    rcases List.mem_cons.1 hd with rfl | hd
    · exact hk
    · rw [subGo.eq_def] at h
      simp only [hk] at h
      split at h
      · rename_i hx; cases hx
      · split at h
        · cases h
        · split at h
          · cases h
          · split at h
            · rename_i hx; exact absurd h hx
            · exact subGo_keys r _ h d hd
theorem sub_keys {l : List CT} (h : subS l = 0) : ∀ c ∈ l, keyS c.kind.data.toList = true := by
  unfold subS at h
  split at h
  · cases h
  · exact subGo_keys l none h

end Go.Proofs.YthnjgbjckggjhaaGreatDoor.subj

