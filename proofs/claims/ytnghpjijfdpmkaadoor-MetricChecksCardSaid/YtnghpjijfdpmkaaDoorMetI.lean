/- The words of a metric's text as a row of the call's own: what the program's Print builds. -/
import Derived.Test.YtnghpjijfdpmkaaDoorMetG
import Derived.Test.YtnghpjijfdpmkaaDoorMetH
import Derived.Test.YtnghpjijfdpmkaaDoorMetD
import Derived.Deep.AppendLies
import Derived.Laws.OwnMore
namespace Go.Proofs.YtnghpjijfdpmkaaDoor.metric
open Go.RowKit Go.Proofs.YtnghpjijfdpmkaaDoor Go.Proofs.YtnghpjijfdpmkaaDoor.text Go.Proofs.YtnghpjijfdpmkaaDoor.value

theorem infoStrI : (Tryd.prog.info? 9).map (fun i => (i.zero, i.size, i.bytes)) = some (some (.string ⟨#[]⟩), 1, 16) := by kernel_rfl
theorem lookV_word {k : Int} (h1 : 1 ≤ k) (h4 : k ≤ 4) : ∃ F, lookV k = .agg #[.string ⟨(kindW k.toNat).toArray⟩, .func (Fn.func F) #[] #[]] := by
  rcases (show k = 1 ∨ k = 2 ∨ k = 3 ∨ k = 4 by omega) with rfl | rfl | rfl | rfl <;> exact ⟨_, rfl⟩
/-- A row of words of the call's own, the call's metric in its box beside it. -/
structure PRow (w : World) (B : Array Value) (l : List ByteArray) (v : Value) (u : World) : Prop where
  row : u.ownsRow (w.heap.size + 1) 9 1 v l.length (l.map Value.string)
  box : Own u w.heap.size B 29
  below : Below w.heap.size w u
theorem PRow.drew {w u : World} {B : Array Value} {l : List ByteArray} {v : Value} (h : PRow w B l v u) : PRow w B l v u.drew := ⟨h.row, h.box, bel_dr h.below 1⟩
theorem PRow.call {w u u' : World} {B : Array Value} {l : List ByteArray} {v : Value} (h : PRow w B l v u) (hb : Below u.heap.size u u') : PRow w B l v u' :=
  ⟨h.row.kept (grown_of_below hb none) (by cases v.ownBlock <;> simp), h.box.below hb h.box.lt, h.below.trans (hb.mono h.below.size)⟩
theorem PRow.size {w u : World} {B : Array Value} {l : List ByteArray} {v : Value} (h : PRow w B l v u) : w.heap.size + 1 ≤ u.heap.size := h.box.lt
theorem PRow.start {w u : World} {B : Array Value} {M : Obj} {a b c : ByteArray} (hO : Own u w.heap.size B 29) (hB : Below w.heap.size w u) :
    PRow w B [a, b, c] (.slice (some ⟨u.heap.size + 1, 0, none⟩) 3 3) ((u.alloc M).alloc (.cells #[.string a, .string b, .string c] 9)).drew := by
  have e : (u.alloc M).heap.size = u.heap.size + 1 := by simp
  have h1 := World.ownsRow_lit (base := w.heap.size + 1) (e := 9) (size := 1) (u.alloc M) #[.string a, .string b, .string c] 3 (by have := hO.lt; omega) (by decide) rfl
  rw [e] at h1
  have hs := hO.lt
  exact ⟨h1, ((hO.alloc _).alloc _).drew, bel_dr (below_two hB (by omega) _ _) 1⟩
theorem PRow.append {w u u' : World} {B : Array Value} {l news : List ByteArray} {v v' : Value} {k : Nat} {O : Obj} (h : PRow w B l v u) (hk : k = news.length)
    (ho : u'.ownsRow (w.heap.size + 1) 9 1 v' (l.length + k) (l.map Value.string ++ news.map Value.string)) (hg : (u.alloc O).grownBy u' v.ownBlock) : PRow w B (l ++ news) v' u' := by
  subst hk
  have hA : (u.alloc O).ownsRow (w.heap.size + 1) 9 1 v l.length (l.map Value.string) := h.row.alloc _
  have hs := h.size
  refine ⟨?_, (h.box.alloc _).kept hg ?_, ?_⟩
  · rw [List.length_append, List.map_append]; exact ho
  · intro e
    have := (hA.lt w.heap.size e).1
    omega
  · exact (h.below.alloc (by omega) _).grown hg (by simp; omega) (fun k hk => by have := (hA.lt k hk).1; omega)
theorem PRow.join {w u : World} {B : Array Value} {l : List ByteArray} {v : Value} (h : PRow w B l v u) (hl : 0 < l.length) :
    ∃ g c, v = .slice (some ⟨g, 0, none⟩) l.length c ∧ (∀ k (h : k < l.length), u.cell? ⟨g, 0 + k, none⟩ = some (.string l[k])) ∧ l.length ≤ c ∧ g < u.heap.size := by
  rcases h.row.2 with ⟨-, h0⟩ | ⟨g, c, cur, rfl, -, hg, hc, -⟩
  · omega
  · refine ⟨g, c, rfl, fun k hk => ?_, hc, ?_⟩
    · rw [Nat.zero_add, h.row.cellAt k (by omega)]
      simp [List.getElem?_eq_getElem hk]
    · exact (Array.getElem?_eq_some_iff.1 hg).1
theorem printM_len {m : MV} (h : MOk m) : (printM m).length ≤ 200 := by
  have h1 := kindW_len m.k.toNat
  have h2 := (key_len h.name).1
  have h3 := itoa_14 (n := m.win) (by have := h.win; omega) (by have := h.win; omega)
  have h4 := itoa_14 (n := m.cap) (by have := h.cap; omega) (by have := h.cap; omega)
  have h5 := itoa_14 h.least.1 h.least.2
  have h6 := itoa_14 (n := m.before) (by have := h.before; omega) (by have := h.before; omega)
  have h7 : m.below.length ≤ 32 := by
    by_cases hk : m.k = 4
    · exact (key_len (h.below hk)).1
    · rw [h.none hk]; simp
  unfold printM wordsM
  split <;> split <;> split <;> simp [joinW] <;> omega

end Go.Proofs.YtnghpjijfdpmkaaDoor.metric

