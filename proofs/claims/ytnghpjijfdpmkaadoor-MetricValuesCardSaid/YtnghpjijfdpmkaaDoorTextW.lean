/- strings.Builder's copyCheck and WriteByte, walked over this program: a builder that the call itself has made holds one byte more. -/
import Derived.Test.YtnghpjijfdpmkaaDoorChecked
import Derived.Test.YtnghpjijfdpmkaaDoorBase
import Derived.WalkKit
import Derived.WalkSpells
import Derived.WalkLawsBesides
import Derived.Lib.Builder
import Derived.Lib.Hide
import Derived.Deep.AppendLies
import Derived.KernelRfl
namespace Go.Proofs.YtnghpjijfdpmkaaDoor.text
open Go.RowKit

theorem info47 : (Tryd.prog.info? 106).map (fun i => (i.size, i.bytes)) = some (2, 32) := by kernel_rfl
theorem infoByte : (Tryd.prog.info? 5).map (fun i => (i.zero, i.size, i.bytes)) = some (some (.int .u8 0), 1, 1) := by kernel_rfl

set_option maxHeartbeats 1000000 in
theorem copyCheck_fresh (b : Nat) (w : World) (v : Value) (h : Own w b #[.pointer none, v] 106) :
    Calls Tryd.prog 88 #[.pointer (some ⟨b, 0, none⟩)] w fun e w' => e = .returned (.tuple #[]) ∧ w' = w.setCell ⟨b, 0, none⟩ (.pointer (some ⟨b, 0, none⟩)) := by
  have c0 := h.cell 0
  have f0 := h.free 0
  simp at c0
  have hsh : w.shape? b = some (106, 2) := by unfold Own at h; simp [World.shape?, h]
  obtain ⟨i, hi⟩ : ∃ i, Tryd.prog.info? 106 = some i := by
    cases hq : Tryd.prog.info? 106 with
    | none => have := info47; rw [hq] at this; cases this
    | some i => exact ⟨i, rfl⟩
  have hsz : i.size ≠ 0 := by have := info47; rw [hi] at this; simp at this; omega
  have hu := Lib.run_to_unsafe (P := Tryd.prog) w (j := i) (e := 106) (cells := 2) ⟨b, 0, none⟩ Tryd.underlying104 Tryd.underlying130 hi hsz hsh (show (0 : Nat) < 2 from by omega)
  have hf := Lib.run_from_unsafe (P := Tryd.prog) w (j := i) (e := 106) (cells := 2) ⟨b, 0, none⟩ Tryd.underlying130 Tryd.underlying104 hi hsh (by kernel_rfl)
  have hn : (callFunc 102 #[.pointer (some ⟨b, 0, none⟩)]).run Tryd.prog w = .ok (.value (.pointer (some ⟨b, 0, none⟩))) w := by kernel_rfl
  go_enter Tryd.func88, Tryd.ntmps88
  go_wp2
  go_end0
  exact ⟨rfl, rfl⟩

set_option maxHeartbeats 1000000 in
theorem copyCheck_used (b : Nat) (w : World) (v : Value) (h : Own w b #[.pointer (some ⟨b, 0, none⟩), v] 106) :
    Calls Tryd.prog 88 #[.pointer (some ⟨b, 0, none⟩)] w fun e w' => e = .returned (.tuple #[]) ∧ w = w' := by
  have c0 := h.cell 0
  simp at c0
  obtain ⟨i, hi⟩ : ∃ i, Tryd.prog.info? 106 = some i := by
    cases hq : Tryd.prog.info? 106 with
    | none => have := info47; rw [hq] at this; cases this
    | some i => exact ⟨i, rfl⟩
  have hn := Lib.run_neq_ptr_same (P := Tryd.prog) w (tp := 104) (j := i) ⟨b, 0, none⟩ Tryd.underlying104 hi
  go_enter Tryd.func88, Tryd.ntmps88
  go_wp2
  go_end0
  exact ⟨rfl, rfl⟩

/-- A builder that the call has made, with these bytes. -/
abbrev IsB (B b : Nat) (l : List UInt8) (w : World) : Prop := Lib.IsBuilder 106 5 B b (Lib.byteCells l) w

theorem copyCheck_any (B b : Nat) (l : List UInt8) (w : World) (h : IsB B b l w) :
    Calls Tryd.prog 88 #[.pointer (some ⟨b, 0, none⟩)] w fun e w' => e = .returned (.tuple #[]) ∧ (Lib.BuilderAt 106 5 B b (.pointer (some ⟨b, 0, none⟩)) (Lib.byteCells l) w' ∧ Below B w w') := by
  rcases h with h | h
  · have h' := h
    obtain ⟨hB, v, hb, -, -⟩ := h
    refine (copyCheck_fresh b w v hb).mono ?_
    rintro e w' ⟨rfl, rfl⟩
    exact ⟨rfl, h'.used _, (Below.refl B w).setCell (p := ⟨b, 0, none⟩) hB _⟩
  · have h' := h
    obtain ⟨hB, v, hb, -, -⟩ := h
    refine (copyCheck_used b w v hb).mono ?_
    rintro e w' ⟨rfl, rfl⟩
    exact ⟨rfl, h', Below.refl B _⟩

set_option maxHeartbeats 1000000 in
theorem writeByte_any (B b : Nat) (l : List UInt8) (u : UInt8) (c : Int) (hc : c = u.toNat) (w : World) (h : IsB B b l w) (hl : l.length + 1 ≤ 140737488355328) (hB : B ≤ w.heap.size) :
    Calls Tryd.prog 90 #[.pointer (some ⟨b, 0, none⟩), .int .u8 c] w fun e w' => e = .returned .nilIface ∧ (IsB B b (l ++ [u]) w' ∧ Below B w w') := by
  obtain ⟨i0, hi, hz0, hz1, hz2⟩ := info_parts infoByte
  have hc0 := Lib.hid hc
  clear hc
  go_enter Tryd.func90, Tryd.ntmps90
  go_wp2_with fail
  refine (copyCheck_any B b l _ h).mono ?_
  rintro e w1 ⟨rfl, h1, hb1⟩
  obtain ⟨hBb, v, hbk, hown, hne⟩ := h1
  obtain ⟨va, vc, rfl⟩ := owns_slice hown
  have hO := Lib.hid (show Own w1 b #[.pointer (some ⟨b, 0, none⟩), .slice va (Lib.byteCells l).length vc] 106 from hbk)
  have c0 := hO.out.cell 0
  have c1 := hO.out.cell 1
  simp at c0 c1
  have hlb : (Lib.byteCells l).length = l.length := by simp [Lib.byteCells]
  rw [hlb] at hown hne c1
  have hs1 := hb1.size
  have hb10 := Lib.hid hb1
  have hown0 := Lib.hid hown
  have hne0 := Lib.hid hne
  clear hown hbk hne hlb hb1
  go_wp2_with (at_builtin; refine wpList_append_lies _ rfl _ _ _ rfl B 5 i0 (.int .u8 0) 1 1 Tryd.underlying22 hi hz0 hz1 hz2 rfl (by decide) (.slice va l.length vc) l.length (Lib.byteCells l) rfl (hown0.out.alloc _) ⟨w1.heap.size, 0, none⟩ 1 1 [.int .u8 c] rfl rfl (World.news_of_block (cs := #[.int .u8 c]) (t := 5) (fr := (0, 0)) (Own.new' rfl)) (by simp [Value.oneCell']) (by decide) (by unfold maxLen; omega) (by omega) (by simp; omega) (w1.heap.size + 1) (by simp) ?_; intro g cap w2 hown2 hgrow hat hlt; have hO2 := (hO.out.alloc _).kept hgrow hne0.out; have d0 := hO2.cell 0; have d1 := hO2.cell 1; have d2 := hO2.free 1; simp at d0 d1)
  go_ret
  have e1 : Lib.byteCells (l ++ [u]) = Lib.byteCells l ++ [Value.int .u8 c] := by rw [hc0.out]; simp [Lib.byteCells]
  have e2 : (Lib.byteCells (l ++ [u])).length = l.length + 1 := by simp [Lib.byteCells]
  refine ⟨rfl, Or.inr (Lib.BuilderAt.put hBb hO2 (bs' := Lib.byteCells (l ++ [u])) (by rw [e2, e1]; exact hown2) (by decide)), ?_⟩
  exact (((hb10.out.alloc (by omega) _).grown hgrow (by simp; omega) (fun k hk => ((hown0.out).lt k hk).1)).setCell (p := ⟨b, 1, none⟩) hBb _)

theorem fresh_any (w : World) : IsB w.heap.size w.heap.size [] (w.alloc (.cells #[.pointer none, .slice none 0 0] 106)) := Lib.fresh_isBuilder _ _ w

end Go.Proofs.YtnghpjijfdpmkaaDoor.text

