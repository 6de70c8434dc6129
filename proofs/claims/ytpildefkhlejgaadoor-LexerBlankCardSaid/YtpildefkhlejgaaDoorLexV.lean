/- Two lists of drawn codes at once; a list of tokens whose lines are written. -/
import Derived.Test.YtpildefkhlejgaaDoorLexI
import Derived.Test.YtpildefkhlejgaaDoorLexH
namespace Go.Proofs.YtpildefkhlejgaaDoor.lex
open Go.RowKit Go.Proofs.YtpildefkhlejgaaDoor.text Go.Proofs.YtpildefkhlejgaaDoor.value Go.Proofs.YtpildefkhlejgaaDoor.draw

/-- New, said exactly: the list is the one that came in, cut. -/
def MadeAt (a : Option Addr) (n : Nat) (most : Int) (w : World) (e : Ending) (w' : World) : Prop :=
  e = .returned (.pointer (some ⟨w.heap.size, 0, none⟩)) ∧ (∃ n' c', n' ≤ n ∧ (n' : Int) ≤ most ∧ HeadK w.heap.size a n' c' w' 0) ∧ Below w.heap.size w w'
set_option maxHeartbeats 400000 in
theorem new_at (a : Option Addr) (n c : Nat) (most : Int) (w : World) (h0 : 0 ≤ most) (h1 : most ≤ 1000) (h : BytesAt w.cell? a n c) :
    Calls Tryd.prog 13 #[.slice a n c, .int .i64 most] w (MadeAt a n most w) := by
  obtain ⟨m, rfl⟩ := Int.eq_ofNat_of_zero_le h0
  obtain ⟨hn, hc, hr⟩ := h
  unfold maxLen at hc
  by_cases hm : m < n
  · rcases hr with hr | ⟨blk, off, rfl, hr⟩
    · omega
    clear hr
    go_enter Tryd.func13, Tryd.ntmps13
    go_wp2
    go_ret
    exact ⟨rfl, ⟨_, _, by omega, Int.le_refl _, heap_alloc_new w _, Nat.zero_le _⟩, (Below.refl _ _).alloc (Nat.le_refl _) _⟩
  · clear hr
    go_enter Tryd.func13, Tryd.ntmps13
    go_wp2
    go_ret
    exact ⟨rfl, ⟨_, _, Nat.le_refl _, by omega, heap_alloc_new w _, Nat.zero_le _⟩, (Below.refl _ _).alloc (Nat.le_refl _) _⟩
theorem codes_at {u w : World} {b : Nat} {a : Option Addr} {n n' c c' k : Nat} (hC : BytesAt u.cell? a n c) (hn : n' ≤ n) (h1 : n' ≤ 1000) (hb : u.heap.size ≤ b) (hB : Below u.heap.size u w) (hh : HeadK b a n' c' w k) : Codes b a n' c' w := by
  refine ⟨⟨k, hh⟩, h1, ?_⟩
  rcases hC.2.2 with h | ⟨blk, off, rfl, h⟩
  · exact Or.inl (by omega)
  · refine Or.inr ⟨blk, off, rfl, fun i hi => ?_⟩
    obtain ⟨x, x0, x1, x2⟩ := h i (by omega)
    have hlt : blk < u.heap.size := World.block_lt_of_cell? u _ x2
    refine ⟨x, x0, x1, ?_⟩
    unfold but
    rw [if_neg (by show ¬ blk = b; omega)]
    exact sub_of_below hB _ _ x2

theorem cell_set_ne {w : World} {g i j : Nat} (h : i ≠ j) (v : Value) : (w.setCell ⟨g, i, none⟩ v).cell? ⟨g, j, none⟩ = w.cell? ⟨g, j, none⟩ := by
  unfold World.cell? World.setCell
  simp only [Array.getElem?_modify]
  cases ho : w.heap[g]? with
  | none => simp
  | some o => cases o <;> simp [h]
theorem cell_set_eq {w : World} {g i : Nat} {x : Value} (h : w.cell? ⟨g, i, none⟩ = some x) (v : Value) : (w.setCell ⟨g, i, none⟩ v).cell? ⟨g, i, none⟩ = some v := by
  unfold World.cell? World.setCell at *
  simp only [Array.getElem?_modify]
  cases ho : w.heap[g]? with
  | none => simp [ho] at h
  | some o =>
    simp only [ho] at h
    cases o with
    | cells cs t fr =>
      simp at h
      have := (Array.getElem?_eq_some_iff.1 h).1
      simp [this]
    | _ => simp at h
theorem frozen_set {w : World} {p q : Addr} (v : Value) : (w.setCell p v).frozen? q = w.frozen? q := by
  unfold World.frozen? World.setCell
  simp only [Array.getElem?_modify]
  by_cases hpq : p.block = q.block
  · rw [if_pos hpq]
    cases ho : w.heap[q.block]? with
    | none => simp
    | some o => cases o <;> simp
  · rw [if_neg hpq]

/-- A list of tokens whose lines may be written. -/
def BAt (w : World) (g : Nat) (ts : List Tok) : Prop := ∀ k (h : k < ts.length), w.cell? ⟨g, k * 4, none⟩ = some (.int .i64 ts[k].k) ∧ w.cell? ⟨g, k * 4 + 1, none⟩ = some (.string ⟨ts[k].t.toArray⟩) ∧ w.cell? ⟨g, k * 4 + 2, none⟩ = some (.int .i64 ts[k].n) ∧
  (∃ l : Int, w.cell? ⟨g, k * 4 + 3, none⟩ = some (.int .i64 l)) ∧ w.frozen? ⟨g, k * 4 + 3, none⟩ = false
theorem BAt.set {w : World} {g : Nat} {ts : List Tok} (h : BAt w g ts) (j : Nat) (v : Int) : BAt (w.setCell ⟨g, j * 4 + 3, none⟩ (.int .i64 v)) g ts := by
  intro k hk
  obtain ⟨h0, h1, h2, ⟨l, h3⟩, h4⟩ := h k hk
  refine ⟨(cell_set_ne (by omega) _).trans h0, (cell_set_ne (by omega) _).trans h1, (cell_set_ne (by omega) _).trans h2, ?_, (frozen_set _).trans h4⟩
  by_cases e : j = k
  · subst e
    exact ⟨v, cell_set_eq h3 _⟩
  · exact ⟨l, (cell_set_ne (by omega) _).trans h3⟩
theorem bat_of {w : World} {base : Nat} {v : Value} {ts : List Tok} (h : w.ownsRow base 39 4 v ts.length (rowsT ts)) (hne : ts ≠ []) :
    ∃ g c N, N = ts.length ∧ v = .slice (some ⟨g, 0, none⟩) N c ∧ BAt w g ts ∧ base ≤ g ∧ g < w.heap.size ∧ N ≤ 9223372036854775807 := by
  rcases h.2 with ⟨rfl, h0⟩ | ⟨g, cap, cur, rfl, hb, hg, hnc, hcm, hcs, htake⟩
  · exact absurd (List.eq_nil_of_length_eq_zero h0) hne
  · have hlt : g < w.heap.size := (Array.getElem?_eq_some_iff.1 hg).1
    refine ⟨g, cap, _, rfl, rfl, fun k hk => ?_, hb, hlt, by unfold maxLen at hcm; omega⟩
    have key : ∀ j u, (Tok.row ts[k])[j]? = some u → w.cell? ⟨g, k * 4 + j, none⟩ = some u := by
      intro j u hj
      have h1 := rowsT_get ts k hk j u hj
      rw [← htake, List.getElem?_take] at h1
      have h2 : w.cell? ⟨g, k * 4 + j, none⟩ = cur[k * 4 + j]? := by simp [World.cell?, hg]
      rw [h2]
      split at h1
      · simpa using h1
      · cases h1
    exact ⟨key 0 _ rfl, key 1 _ rfl, key 2 _ rfl, ⟨_, key 3 _ rfl⟩, by simp [World.frozen?, hg]⟩

end Go.Proofs.YtpildefkhlejgaaDoor.lex
