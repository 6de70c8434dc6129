/- The table of the pieces, as the row lists it. -/
import Derived.Test.YtpildefkhlejgaaDoorLexI
import Derived.Test.YtpildefkhlejgaaDoorTab
import Derived.Test.YtpildefkhlejgaaDoorRows
import Derived.MakeChecks
import Derived.Lib.LaidTab
import Derived.LaidMore
import Derived.Lib.LaidU8T
namespace Go.Proofs.YtpildefkhlejgaaDoor.lex
open Go.RowKit Go.Lib Go.Proofs.YtpildefkhlejgaaDoor

/-- The pieces. -/
def piecesL : List (List UInt8) := [[102, 108, 97, 103], [97, 45, 98, 95, 49], [110, 111, 116], [48], [45, 49, 55], [48, 48, 55], [49, 46, 50, 46, 51], [49, 46, 50], [49, 48, 57, 57, 53, 49, 49, 54, 50, 55, 55, 55, 54], [49, 48, 57, 57, 53, 49, 49, 54, 50, 55, 55, 55, 55], [34, 120, 34], [34, 97, 92, 34, 98, 34], [34, 111, 112, 101, 110], [123], [125], [40], [41], [91], [93], [44], [46], [60], [60, 61], [62], [62, 61], [35, 99], [9], [45], [65], [0], [34, 92, 110, 34], [195, 169]]
def PiecesX (m : Mem) : Prop := ∀ j (h : j < piecesL.length), m ⟨0, j, none⟩ = some (.string ⟨piecesL[j].toArray⟩)
theorem PiecesX.some {m : Mem} (h : PiecesX m) : Pieces m := by
  intro j hj
  have hl : j < piecesL.length := hj
  refine ⟨_, h j hl, ?_⟩
  have h1 : ∀ l ∈ piecesL, l.length ≤ 20 := by decide
  have := h1 _ (List.getElem_mem hl)
  show (piecesL[j].toArray).size ≤ 20
  simpa using this
theorem lits_inj : ∀ (L : List (List UInt8)) (ss : List ByteArray), L.map (fun l => (DataW.lit (.string l) : DataW Unit)) = ss.map (fun s => .lit (.string s.data.toList)) → ss = L.map (fun l => ⟨l.toArray⟩)
  | [], [], _ => rfl
  | [], _ :: _, h => by cases h
  | _ :: _, [], h => by cases h
  | l :: L, s :: ss, h => by
    rw [List.map_cons, List.map_cons] at h
    injection h with h1 h2
    injection h1 with h1
    injection h1 with h1
    rw [List.map_cons, ← lits_inj L ss h2, h1]
theorem pieces_of_reads {w : World} (hn : VarReads Tryd.prog w "flagstone/flagstonelaw7.pieces" Rows.laid_flagstone_flagstonelaw7_pieces) : PiecesX w.cell? := by
  obtain ⟨g', t', cs, fuel, p, hg', ht', hvar, hd⟩ := hn
  obtain rfl := Option.some.inj ((show Tryd.prog.globalNamed "flagstone/flagstonelaw7.pieces" = some 0 by kernel_rfl).symm.trans hg')
  obtain rfl := Option.some.inj ((show (Tryd.prog.globals[0]?).map (·.type) = some 36 by kernel_rfl).symm.trans ht')
  obtain ⟨ss, hl, hd2, hc⟩ := tab_strs hg' hvar Tryd.underlying36 Tryd.underlying9 (by kernel_rfl) hd
  have e : (Rows.laid_flagstone_flagstonelaw7_pieces : DataW Unit) = .agg (piecesL.map fun l => .lit (.string l)) := rfl
  rw [e] at hd2
  injection hd2 with hd2
  have hss := lits_inj piecesL ss hd2
  intro j hj
  refine hc j _ ?_
  rw [hss, List.getElem?_map, List.getElem?_eq_getElem hj]
  rfl

end Go.Proofs.YtpildefkhlejgaaDoor.lex
