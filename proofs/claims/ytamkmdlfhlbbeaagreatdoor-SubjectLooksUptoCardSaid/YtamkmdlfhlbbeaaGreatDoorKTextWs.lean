/- strings.Builder's WriteString, walked over this program: a builder that the call itself has made holds the text's bytes more. -/
import Derived.Test.YtamkmdlfhlbbeaaGreatDoorKJ3
import Derived.Lib.AppendStr
namespace Go.Proofs.YtamkmdlfhlbbeaaGreatDoor.text
open Go.RowKit

theorem cells_str (l : List UInt8) (s : ByteArray) : Lib.byteCells (l ++ s.data.toList) = Lib.byteCells l ++ Lib.strCells s := by simp [Lib.byteCells, Lib.strCells]

set_option maxRecDepth 100000 in
set_option maxHeartbeats 1000000 in
theorem writeString_any (B b : Nat) (l : List UInt8) (s : ByteArray) (w : World) (h : IsB B b l w) (hl : l.length + s.size ≤ 140737488355328) (hB : B ≤ w.heap.size) :
    Calls Tryz.prog 91 #[.pointer (some ⟨b, 0, none⟩), .string s] w fun e w' => e = .returned (.tuple #[.int .i64 s.size, .nilIface]) ∧ (IsB B b (l ++ s.data.toList) w' ∧ Below B w w') := by
  obtain ⟨i0, hi, hz0, hz1, hz2⟩ := info_parts infoByte
  go_enter Tryz.func91, Tryz.ntmps91
  go_wp2_with fail
  refine (copyCheck_any B b l _ h).mono ?_
  rintro e w1 ⟨rfl, h1, hb1⟩
  obtain ⟨hBb, v, hbk, hown, hne⟩ := h1
  obtain ⟨va, vc, rfl⟩ := owns_slice hown
  have hO := Lib.hid (show Own w1 b #[.pointer (some ⟨b, 0, none⟩), .slice va (Lib.byteCells l).length vc] 116 from hbk)
  have c0 := hO.out.cell 0
  have c1 := hO.out.cell 1
  simp at c0 c1
  have hlb : (Lib.byteCells l).length = l.length := by simp [Lib.byteCells]
  rw [hlb] at hown hne c1
  have hs1 := hb1.size
  have hb10 := Lib.hid hb1
  have hown0 := Lib.hid hown
  have hne0 := Lib.hid hne
  clear hown hbk hne hlb hb1
  go_wp2_with (at_builtin; refine Lib.wpList_append_own_string _ rfl _ _ _ _ rfl B 5 i0 Tryz.underlying25 Tryz.underlying9 hi hz0 hz1 hz2 (.slice va l.length vc) l.length (Lib.byteCells l) rfl hown0.out s rfl (by unfold maxLen; omega) (by omega) (by omega) ?_; intro v' w2 hown2 hgrow hnil; clear hnil; obtain ⟨g2, n2, hv2⟩ := owns_slice hown2; subst hv2; replace hown2 := Lib.hid hown2; have hO2 := hO.out.kept hgrow hne0.out; have d0 := hO2.cell 0; have d1 := hO2.cell 1; have d2 := hO2.free 1; simp at d0 d1)
  go_ret2
  refine ⟨rfl, Or.inr (Lib.BuilderAt.put hBb hO2 (bs' := Lib.byteCells (l ++ s.data.toList)) (by have := hown2.out; rw [cells_str, List.length_append, Lib.strCells_length, Lib.byteCells_length]; exact this) (by decide)), ?_⟩
  exact (((hb10.out).grown hgrow (by omega) (fun k hk => ((hown0.out).lt k hk).1)).setCell (p := ⟨b, 1, none⟩) hBb _)

end Go.Proofs.YtamkmdlfhlbbeaaGreatDoor.text

