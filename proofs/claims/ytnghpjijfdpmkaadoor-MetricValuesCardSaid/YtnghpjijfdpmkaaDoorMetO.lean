/- Made metrics: the walk (under way). -/
import Derived.Test.YtnghpjijfdpmkaaDoorMetM
namespace Go.Proofs.YtnghpjijfdpmkaaDoor.metric
open Go.RowKit Go.Proofs.YtnghpjijfdpmkaaDoor

/-- A name of a measure. -/
def NameV (x : ByteArray) : Prop := x = ⟨#[98, 117, 121]⟩ ∨ x = ⟨#[118, 105, 115, 105, 116]⟩
abbrev N2 : Array Value := #[.string ⟨#[98, 117, 121]⟩, .string ⟨#[118, 105, 115, 105, 116]⟩]
theorem MkS.names {w u : World} {a : Option Addr} {n c : Nat} {L : List Blk} (h : MkS w a n c L u) :
    Calls Tryd.prog 17 #[] u fun e u' => ∃ g, e = .returned (.slice (some ⟨g, 0, none⟩) 2 2) ∧ MkS w a n c ((g, N2, 9) :: L) u' := by
  have hn := Lib.hid (h.alloc N2 9)
  go_enter Tryd.func17, Tryd.ntmps17
  go_wp2
  go_ret
  exact ⟨_, rfl, hn.out⟩
theorem MkS.nameAt {w u : World} {a : Option Addr} {n c g k : Nat} {L : List Blk} (h : MkS w a n c L u) (hm : (g, N2, 9) ∈ L) (hk : (k : Int) < 2) :
    ∃ x : ByteArray, u.cell? ⟨g, k, none⟩ = some (.string x) ∧ NameV x := by
  have h1 := (h.held _ hm).1.cell k
  rcases (show k = 0 ∨ k = 1 by omega) with rfl | rfl
  · exact ⟨_, h1, Or.inl rfl⟩
  · exact ⟨_, h1, Or.inr rfl⟩

end Go.Proofs.YtnghpjijfdpmkaaDoor.metric

