/- Bounds of a changed condition: how many parts, how long its lists. -/
import Derived.Test.YtlohdmghaeabjaaGreatDoorKJ7
namespace Go.Proofs.YtlohdmghaeabjaaGreatDoor.draw
open Go.RowKit Go.Proofs.YtlohdmghaeabjaaGreatDoor.schema

/- How many parts a condition has. -/
mutual
def cntE : ED → Nat
  | .mk _ _ _ _ ks => 1 + cntL ks
def cntL : List ED → Nat
  | [] => 0
  | k :: r => cntE k + cntL r
end
/- No list in a condition has more than N elements. -/
mutual
def fewE (N : Nat) : ED → Prop
  | .mk _ _ _ vals kids => vals.length ≤ N ∧ kids.length ≤ N ∧ fewL N kids
def fewL (N : Nat) : List ED → Prop
  | [] => True
  | k :: r => fewE N k ∧ fewL N r
end
mutual
theorem fewE_up {N M : Nat} (h : N ≤ M) : ∀ d : ED, fewE N d → fewE M d
  | .mk _ _ _ _ ks, hd => ⟨Nat.le_trans hd.1 h, Nat.le_trans hd.2.1 h, fewL_up h ks hd.2.2⟩
theorem fewL_up {N M : Nat} (h : N ≤ M) : ∀ l : List ED, fewL N l → fewL M l
  | [], _ => trivial
  | k :: r, hl => ⟨fewE_up h k hl.1, fewL_up h r hl.2⟩
end
mutual
theorem fewE_of_small {N M : Nat} (h : N ≤ M) : ∀ d : ED, smallE N d → fewE M d
  | .mk _ _ _ _ ks, hd => ⟨Nat.le_trans hd.1 h, Nat.le_trans hd.2.1 h, fewL_of_small h ks hd.2.2.2⟩
theorem fewL_of_small {N M : Nat} (h : N ≤ M) : ∀ l : List ED, smallL N l → fewL M l
  | [], _ => trivial
  | k :: r, hl => ⟨fewE_of_small h k hl.1, fewL_of_small h r hl.2⟩
end
theorem fewL_snoc {N : Nat} : ∀ {l : List ED} {d : ED}, fewL N l → fewE N d → fewL N (l ++ [d])
  | [], _, _, hd => ⟨hd, trivial⟩
  | _ :: r, _, hl, hd => ⟨hl.1, fewL_snoc (l := r) hl.2 hd⟩
theorem cntL_snoc : ∀ (l : List ED) (d : ED), cntL (l ++ [d]) = cntL l + cntE d
  | [], d => by simp [cntL]
  | x :: r, d => by rw [List.cons_append, cntL, cntL, cntL_snoc r d]; omega
theorem fewL_set {N : Nat} : ∀ {l : List ED} {k : Nat} {d : ED}, fewL N l → fewE N d → fewL N (l.set k d)
  | [], _, _, _, _ => trivial
  | _ :: _, 0, _, hl, hd => ⟨hd, hl.2⟩
  | _ :: r, k + 1, _, hl, hd => ⟨hl.1, fewL_set (l := r) (k := k) hl.2 hd⟩
theorem cntL_set : ∀ (l : List ED) (k : Nat) (x d : ED), l[k]? = some x → cntL (l.set k d) + cntE x = cntL l + cntE d
  | [], _, _, _, h => by simp at h
  | y :: r, 0, x, d, h => by
    simp at h; subst h
    rw [List.set_cons_zero, cntL, cntL]; omega
  | y :: r, k + 1, x, d, h => by
    have h1 := cntL_set r k x d (by simpa using h)
    rw [List.set_cons_succ, cntL, cntL]; omega

mutual
theorem cnt_small {N : Nat} : ∀ d : ED, smallE N d → cntE d ≤ (N + 1) ^ depE d
  | .mk op k n v ks, h => by
    rw [cntE, depE]
    cases hD : depL ks with
    | zero =>
      cases ks with
      | nil => simp [cntL]
      | cons x r => rw [depL] at hD; omega
    | succ D =>
      have h1 := cntL_small ks h.2.2.2 D (by omega)
      have h2 := h.2.1
      have h3 : 1 ≤ (N + 1) ^ D := Nat.one_le_pow _ _ (by omega)
      have h4 : ks.length * (N + 1) ^ D ≤ N * (N + 1) ^ D := Nat.mul_le_mul_right _ h2
      rw [Nat.pow_succ, Nat.mul_add, Nat.mul_one, Nat.mul_comm ((N + 1) ^ D) N]
      omega
theorem cntL_small {N : Nat} : ∀ l : List ED, smallL N l → ∀ D, depL l ≤ D + 1 → cntL l ≤ l.length * (N + 1) ^ D
  | [], _, _, _ => by simp [cntL]
  | x :: r, h, D, hD => by
    rw [depL] at hD
    have h1 := cnt_small x h.1
    have h2 := cntL_small r h.2 D (by omega)
    have h3 : (N + 1) ^ depE x ≤ (N + 1) ^ D := Nat.pow_le_pow_right (by omega) (by omega)
    rw [cntL, List.length_cons, Nat.add_mul, Nat.one_mul]
    omega
end
/-- A condition that has grown by k from one of K parts with lists of N. -/
def Gr (N K k : Nat) (d : ED) : Prop := cntE d ≤ K + k ∧ fewE (N + 10 + k) d
theorem Gr.up {N K k k' : Nat} {d : ED} (h : Gr N K k d) (hk : k ≤ k') : Gr N K k' d := ⟨by have := h.1; omega, fewE_up (by omega) d h.2⟩
theorem gr_start {N : Nat} {d : ED} (h : smallE N d) : Gr N (cntE d) 0 d := ⟨Nat.le_refl _, fewE_of_small (by omega) d h⟩
section
variable {N K k : Nat} {op : Int} {kind name : ByteArray} {vals : List VD} {kids : List ED}
theorem gr_head (h : Gr N K k (.mk op kind name vals kids)) (op' : Int) (kind' name' : ByteArray) : Gr N K k (.mk op' kind' name' vals kids) := h
theorem gr_vals (h : Gr N K k (.mk op kind name vals kids)) {vals' : List VD} (hl : vals'.length ≤ N + 10 + k) : Gr N K k (.mk op kind name vals' kids) := ⟨h.1, hl, h.2.2⟩
theorem few_test {M : Nat} (hM : 4 ≤ M) {o : Int} {ki na : ByteArray} {l : List VD} (hl : l.length ≤ 4) : fewE M (.mk o ki na l []) := ⟨Nat.le_trans hl hM, Nat.zero_le _, trivial⟩
theorem gr_snoc (h : Gr N K k (.mk op kind name vals kids)) {o : Int} {ki na : ByteArray} {l : List VD} (hl : l.length ≤ 4) : Gr N K (k + 1) (.mk op kind name vals (kids ++ [.mk o ki na l []])) := by
  obtain ⟨h1, h2, h3, h4⟩ := h
  rw [cntE] at h1
  refine ⟨?_, Nat.le_trans h2 (by omega), by rw [List.length_append]; show kids.length + 1 ≤ _; omega, fewL_snoc (fewL_up (by omega) kids h4) (few_test (by omega) hl)⟩
  rw [cntE, cntL_snoc, cntE, cntL]; omega
theorem gr_not {d : ED} (h : Gr N K k d) : Gr N K (k + 1) (.mk 4 ⟨#[]⟩ ⟨#[]⟩ [] [d]) := by
  obtain ⟨h1, h2⟩ := h
  refine ⟨by rw [cntE, cntL, cntL]; omega, Nat.zero_le _, by show 1 ≤ _; omega, fewE_up (by omega) d h2, trivial⟩
theorem gr_list {d : ED} (h : Gr N K k d) {o : Int} {ki na : ByteArray} {l : List VD} (hl : l.length ≤ 4) : Gr N K (k + 2) (.mk 2 ⟨#[]⟩ ⟨#[]⟩ [] [d, .mk o ki na l []]) := by
  obtain ⟨h1, h2⟩ := h
  refine ⟨by rw [cntE, cntL, cntL, cntL, cntE, cntL]; omega, Nat.zero_le _, by show 2 ≤ _; omega, fewE_up (by omega) d h2, few_test (by omega) hl, trivial⟩
theorem gr_set (h : Gr N (cntE (.mk op kind name vals kids)) 0 (.mk op kind name vals kids)) {i : Nat} {x d : ED} (hi : kids[i]? = some x) (hd : Gr N (cntE x) 20 d) : Gr N (cntE (.mk op kind name vals kids)) 20 (.mk op kind name vals (kids.set i d)) := by
  obtain ⟨-, h2, h3, h4⟩ := h
  have h5 := cntL_set kids i x d hi
  have h6 := hd.1
  refine ⟨by rw [cntE, cntE]; omega, Nat.le_trans h2 (by omega), by rw [List.length_set]; omega, fewL_set (fewL_up (by omega) kids h4) hd.2⟩
end
/-- CondIs, and the bound. -/
def CondG (M : Mem) (N : Nat) (d0 : ED) (b : Nat) (w : World) (e : Ending) (w' : World) : Prop :=
  ∃ (M' : Mem) (d : ED) (op : Int) (kind name : ByteArray) (va : Option Addr) (vn vc : Nat) (ka : Option Addr) (kn kc : Nat), e = .returned (.agg #[.int .i64 op, .string kind, .string name, .slice va vn vc, .slice ka kn kc]) ∧
    Ext M M' w.heap.size ∧ Sub M' w'.cell? ∧ Off b M' ∧ EAt M' d [.int .i64 op, .string kind, .string name, .slice va vn vc, .slice ka kn kc] ∧ Gr N (cntE d0) 20 d
theorem CondG.is {M : Mem} {N : Nat} {d0 : ED} {b : Nat} {w : World} {e : Ending} {w' : World} (h : CondG M N d0 b w e w') : CondIs M b w e w' := by
  obtain ⟨M', d, op, kind, name, va, vn, vc, ka, kn, kc, h1, h2, h3, h4, h5, -⟩ := h
  exact ⟨M', d, op, kind, name, va, vn, vc, ka, kn, kc, h1, h2, h3, h4, h5⟩
/-- The end. -/
theorem CX.doneG {w u : World} {b : Nat} {a : Option Addr} {n c : Nat} {A : Array Value} {M0 M : Mem} (h : CX w u b a n c A M0 M) {d : ED} {op : Int} {kind name : ByteArray} {va : Option Addr} {vn vc : Nat} {ka : Option Addr} {kn kc : Nat}
    (hE : EAt M d [.int .i64 op, .string kind, .string name, .slice va vn vc, .slice ka kn kc]) {N : Nat} {d0 : ED} (hGr : Gr N (cntE d0) 20 d) (x0 x1 x2 x3 x4 : Value) :
    Drawn b a n c w (fun e w' => CondG M0 N d0 b w e w') (.returned (.agg #[.int .i64 op, .string kind, .string name, .slice va vn vc, .slice ka kn kc]))
      (((((u.setCell ⟨w.heap.size + 1, 0, none⟩ x0).setCell ⟨w.heap.size + 1, 1, none⟩ x1).setCell ⟨w.heap.size + 1, 2, none⟩ x2).setCell ⟨w.heap.size + 1, 3, none⟩ x3).setCell ⟨w.heap.size + 1, 4, none⟩ x4) := by
  have hb := h.br
  have ho : Off (w.heap.size + 1) M := h.offs (by omega) (by omega)
  refine ⟨⟨M, d, op, kind, name, va, vn, vc, ka, kn, kc, rfl, h.ext.low (by omega), ?_, h.off, hE, hGr⟩, ?_, ?_⟩
  · exact sub_setCell (sub_setCell (sub_setCell (sub_setCell (sub_setCell h.sub ho _) ho _) ho _) ho _) ho _
  · exact (Head.set (Head.set (Head.set (Head.set (Head.set h.head (by simp <;> omega) _) (by simp <;> omega) _) (by simp <;> omega) _) (by simp <;> omega) _) (by simp <;> omega) _)
  · exact (g_setCell (g_setCell (g_setCell (g_setCell (g_setCell h.grown (by simp <;> omega) _) (by simp <;> omega) _) (by simp <;> omega) _) (by simp <;> omega) _) (by simp <;> omega) _)

end Go.Proofs.YtlohdmghaeabjaaGreatDoor.draw

