/- The source of made data: Next. -/
import Derived.Test.YtnghpjijfdpmkaaDoorMetA
import Derived.Test.YtnghpjijfdpmkaaDoorBase
import Derived.WalkLawsBesides
import Derived.Deep.QuietTactic
import Derived.BigQuiet
import Derived.Lib.Hide
namespace Go.Proofs.YtnghpjijfdpmkaaDoor.metric
open Go.RowKit Go.Proofs.YtnghpjijfdpmkaaDoor

/-- The source's own block b: a list, and a place in it. -/
def SrcK (b : Nat) (a : Option Addr) (n c : Nat) (w : World) (k : Nat) : Prop := w.heap[b]? = some (.cells #[.slice a n c, .int .i64 k] 64 (0, 0)) ∧ k ≤ n
def SrcH (b : Nat) (a : Option Addr) (n c : Nat) (w : World) : Prop := ∃ k, SrcK b a n c w k
/-- The source: its own block, and the bytes of the list. -/
def Src (b : Nat) (a : Option Addr) (n c : Nat) (w : World) : Prop :=
  SrcH b a n c w ∧ n ≤ 9223372036854775807 ∧ (n = 0 ∨ ∃ blk off, a = some ⟨blk, off, none⟩ ∧ blk < b ∧ ∀ i, i < n → ∃ u : Int, 0 ≤ u ∧ u ≤ 255 ∧ but b w ⟨blk, off + i, none⟩ = some (.int .u8 u))
theorem SrcK.own {b : Nat} {a : Option Addr} {n c : Nat} {w : World} {k : Nat} (h : SrcK b a n c w k) : Own w b #[.slice a n c, .int .i64 k] 64 := h.1
theorem SrcH.lt {b : Nat} {a : Option Addr} {n c : Nat} {w : World} (h : SrcH b a n c w) : b < w.heap.size := by
  obtain ⟨k, h⟩ := h
  exact h.own.lt
theorem SrcH.kept {b : Nat} {a : Option Addr} {n c : Nat} {w u : World} {r : Option Nat} (h : SrcH b a n c w) (g : w.grownBy u r) (hr : r ≠ some b) : SrcH b a n c u := by
  obtain ⟨k, h⟩ := h
  exact ⟨k, h.own.kept g hr, h.2⟩
theorem Src.still {b : Nat} {a : Option Addr} {n c : Nat} {w u : World} (h : Src b a n c w) (g : w.grownBy u (some b)) (hh : SrcH b a n c u) : Src b a n c u := by
  refine ⟨hh, h.2.1, ?_⟩
  rcases h.2.2 with h4 | ⟨blk, off, ha, hb, h4⟩
  · exact Or.inl h4
  · refine Or.inr ⟨blk, off, ha, hb, fun i hi => ?_⟩
    obtain ⟨x, h0, h1, h2⟩ := h4 i hi
    exact ⟨x, h0, h1, sub_of_grown g _ _ h2⟩
theorem Src.other {b r : Nat} {a : Option Addr} {n c : Nat} {w u : World} (h : Src b a n c w) (g : w.grownBy u (some r)) (hr : b < r) : Src b a n c u := by
  refine ⟨h.1.kept g (by simp; omega), h.2.1, ?_⟩
  rcases h.2.2 with h4 | ⟨blk, off, ha, hb, h4⟩
  · exact Or.inl h4
  · refine Or.inr ⟨blk, off, ha, hb, fun i hi => ?_⟩
    obtain ⟨x, h0, h1, h2⟩ := h4 i hi
    refine ⟨x, h0, h1, ?_⟩
    have hne : ¬ blk = b := by omega
    unfold but at h2 ⊢
    rw [if_neg hne] at h2 ⊢
    exact g.cell h2 (by simp; omega)
theorem SrcK.step {b : Nat} {w : World} {a : Option Addr} {n c k : Nat} (h : SrcK b a n c w k) (hk : k < n) : SrcK b a n c (w.setCell ⟨b, 1, none⟩ (.int .i64 ((k : Int) + 1))) (k + 1) := by
  have := h.own.set 1 (.int .i64 ((k : Int) + 1))
  exact ⟨this, hk⟩
theorem grown_setS (w : World) (b o : Nat) (v : Value) : w.grownBy (w.setCell ⟨b, o, none⟩ v) (some b) :=
  ⟨rfl, rfl, rfl, by simp [World.setCell], fun k _ hne => Below.heap_setCell w ⟨b, o, none⟩ v k (by intro e; exact hne (by rw [e]))⟩
/-- What a draw does. -/
def DrawnS (b : Nat) (a : Option Addr) (n c : Nat) (w : World) (P : Ending → Prop) (e : Ending) (w' : World) : Prop := P e ∧ SrcH b a n c w' ∧ w.grownBy w' (some b)

set_option maxHeartbeats 800000 in
theorem src_next (b : Nat) (w : World) (m : Int) (h0 : 1 ≤ m) (h1 : m ≤ 256) (a : Option Addr) (n c : Nat) (hC : Src b a n c w) :
    Calls Tryd.prog 32 #[.pointer (some ⟨b, 0, none⟩), .int .i64 m] w (DrawnS b a n c w (IntIn 0 m)) := by
  obtain ⟨⟨k, h⟩, hn, hr⟩ := hC
  have hh := Lib.hid h
  have c0 := h.own.cell 0
  have c1 := h.own.cell 1
  have f1 := h.own.free 1
  simp at c0 c1
  obtain ⟨-, hk⟩ := h
  by_cases hlt : k < n
  · have hL : decide ((n : Int) ≤ (k : Int)) = false := by simp; omega
    rcases hr with hr | ⟨blk, off, rfl, -, hr⟩
    · omega
    obtain ⟨u, hu0, hu1, hu⟩ := hr k hlt
    clear hr
    have hne : ¬ blk = b := by
      intro e; unfold but at hu; rw [if_pos e] at hu; cases hu
    have c2 := but_sub _ _ _ _ hu
    clear hu
    go_enter Tryd.func32, Tryd.ntmps32
    go_wp2
    go_quiet (fail)
    go_wp2
    go_quiet (fail)
    go_wp2
    go_ret
    refine ⟨⟨_, rfl, Int.emod_nonneg _ (by omega), Int.emod_lt_of_pos _ (by omega)⟩, ⟨k + 1, SrcK.step (w := w) hh.out hlt⟩, ?_⟩
    exact grown_trans (grown_drewN w _ _) (grown_trans (grown_setS _ _ _ _) (grown_drewN _ _ _))
  · have hL : decide ((n : Int) ≤ (k : Int)) = true := by simp; omega
    clear hr
    go_enter Tryd.func32, Tryd.ntmps32
    go_wp2
    go_quiet (fail)
    go_wp2
    go_ret
    exact ⟨⟨_, rfl, by omega, by omega⟩, ⟨k, hh.out⟩, grown_drewN _ _ _⟩

end Go.Proofs.YtnghpjijfdpmkaaDoor.metric

