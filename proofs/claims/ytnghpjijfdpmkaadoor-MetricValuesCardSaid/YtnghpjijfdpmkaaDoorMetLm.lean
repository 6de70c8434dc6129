/- Plain: what the value of a metric holds: limits, order of the events, greater caps. -/
import Derived.Test.YtnghpjijfdpmkaaDoorMetY
import Derived.Test.YtnghpjijfdpmkaaDoorMetBA
namespace Go.Proofs.YtnghpjijfdpmkaaDoor.metric
open Go.RowKit Go.Proofs.YtnghpjijfdpmkaaDoor Go.Proofs.YtnghpjijfdpmkaaDoor.text

theorem tot_from (f : EV → Int) : ∀ (E : List EV) (a : Int), E.foldl (fun a e => a + f e) a = a + tot f E := by
  intro E
  induction E with
  | nil => intro a; show a = a + 0; omega
  | cons e r ih =>
    intro a
    show r.foldl (fun a e => a + f e) (a + f e) = a + r.foldl (fun a e => a + f e) (0 + f e)
    rw [ih, ih]
    omega
theorem tot_append (f : EV → Int) (A B : List EV) : tot f (A ++ B) = tot f A + tot f B := by
  show (A ++ B).foldl (fun a e => a + f e) 0 = _
  rw [List.foldl_append, tot_from f B]
  rfl
theorem msE_append (A B : List EV) : msE (A ++ B) = msE A ++ msE B := List.filter_append ..
/-- The events, turned by k: the first i of them. -/
def rotL (E : List EV) (k i : Nat) : List EV := (List.range i).map fun j => rowF E ((j + k) % E.length)
theorem rotL_succ (E : List EV) (k i : Nat) : rotL E k (i + 1) = rotL E k i ++ [rowF E ((i + k) % E.length)] := by
  unfold rotL
  rw [List.range_succ, List.map_append]
  rfl
theorem rotL_len (E : List EV) (k i : Nat) : (rotL E k i).length = i := by unfold rotL; simp
theorem rotL_all (E : List EV) (k : Nat) : rotL E k E.length = E.drop (k % E.length) ++ E.take (k % E.length) := by
  by_cases h0 : E.length = 0
  · have hE : E = [] := List.eq_nil_of_length_eq_zero h0
    subst hE
    unfold rotL
    simp
  have hr : k % E.length < E.length := Nat.mod_lt _ (by omega)
  apply List.ext_getElem
  · simp [rotL_len]; omega
  · intro i h1 h2
    have hi : i < E.length := by rw [rotL_len] at h1; exact h1
    have e1 : (rotL E k E.length)[i] = rowF E ((i + k) % E.length) := by
      apply Option.some.inj
      rw [← List.getElem?_eq_getElem h1]
      unfold rotL
      rw [List.getElem?_map, List.getElem?_range hi]
      rfl
    rw [e1]
    have hm : (i + k) % E.length = (i + k % E.length) % E.length := by rw [Nat.add_mod_mod]
    rw [hm]
    generalize k % E.length = r at hr h2 ⊢
    unfold rowF
    rw [List.getD_eq_getElem?_getD]
    by_cases h3 : i + r < E.length
    · rw [Nat.mod_eq_of_lt h3, List.getElem?_eq_getElem h3, List.getElem_append_left (by simp; omega), List.getElem_drop]
      simp only [Option.getD_some]
      congr 1
      omega
    · have e2 : (i + r) % E.length = i + r - E.length := by
        rw [Nat.mod_eq_sub_mod (by omega), Nat.mod_eq_of_lt (by omega)]
      rw [e2, List.getElem?_eq_getElem (show i + r - E.length < E.length by omega), List.getElem_append_right (by simp; omega), List.getElem_take]
      simp only [Option.getD_some]
      congr 1
      simp
      omega
theorem rot_sum (f : EV → Int) (E : List EV) (k : Nat) : tot f (msE (rotL E k E.length)) = tot f (msE E) := by
  rw [rotL_all, msE_append, tot_append, Int.add_comm, ← tot_append, ← msE_append, List.take_append_drop]
theorem val_rot (m : MV) (E : List EV) (k : Nat) : valM m (rotL E k E.length) = valM m E := by
  unfold valM
  rw [rot_sum, rot_sum]
theorem rot_mem {E : List EV} {k i : Nat} (h0 : 0 < E.length) : ∀ e ∈ rotL E k i, e ∈ E := by
  intro e he
  unfold rotL at he
  obtain ⟨j, -, rfl⟩ := List.mem_map.1 he
  have hj : (j + k) % E.length < E.length := Nat.mod_lt _ h0
  unfold rowF
  rw [List.getD_eq_getElem?_getD, List.getElem?_eq_getElem hj]
  exact List.getElem_mem _

theorem lim_lo (n cap : Int) : 0 ≤ limI n cap := by unfold limI; omega
theorem lim_hi (n : Int) {cap : Int} (h : 0 ≤ cap) : limI n cap ≤ cap := by unfold limI; omega
theorem lim_more (n : Int) {cap c : Int} (h : 0 ≤ cap) (hc : cap ≤ c) : limI n cap ≤ limI n c ∧ (limI n cap = limI n c ∨ limI n cap = cap) := by unfold limI; omega
theorem lim_zero {cap : Int} (h : 0 ≤ cap) : limI 0 cap = 0 := by unfold limI; omega
theorem tot_zero (f : EV → Int) (h : ∀ e, f e = 0) : ∀ E : List EV, tot f E = 0 := by
  intro E
  induction E with
  | nil => rfl
  | cons e r ih =>
    show r.foldl (fun a e => a + f e) (0 + f e) = 0
    rw [tot_from, ih, h]
    rfl
theorem bel_zero {m : MV} (h : m.k ≠ 4) (E : List EV) : tot (belM m) E = 0 := tot_zero _ (fun e => by unfold belM; rw [if_neg (fun g => h g.1)]) E
/-- A made metric with a greater cap is valid too. -/
theorem more_ok {k win cap least before : Int} {s t : ByteArray} (h : MadeM k win cap least before s t) (h3 : k ≠ 3) (q : Int) (h0 : 0 ≤ q) (h1 : q ≤ 255) : chkM (mvMade k win (cap + q) least before s t) = 0 := by
  obtain ⟨g1, g2, g3, g4, g5, g6, g7, g8, g9, g10, g11, g12, g13⟩ := h
  unfold chkM mvMade
  have hr : rangeM ⟨k, s.data.toList, t.data.toList, win, cap + q, least, before⟩ = true := by unfold rangeM; exact decide_eq_true (by simp only; omega)
  simp only at hr ⊢
  rw [if_neg (by omega), if_neg, if_neg (by rw [hr]; decide), if_neg]
  · rintro (⟨ha, hb⟩ | ⟨ha, hb⟩)
    · rw [g13 ha] at hb; exact hb rfl
    · exact h3 ha
  · rintro (ha | ⟨ha, hb⟩)
    · rw [(name_key g11).1] at ha; cases ha
    · rw [(name_key (g12 ha)).1] at hb; cases hb
/-- The two numbers. -/
theorem val_made {m : MV} (h : chkM m = 0) (E : List EV) : valM m E = .tuple #[.int .i64 (limI (tot (addM m) (msE E)) m.cap), .int .i64 (limI (tot (belM m) (msE E)) m.cap)] := by unfold valM; rw [if_pos h]

end Go.Proofs.YtnghpjijfdpmkaaDoor.metric

