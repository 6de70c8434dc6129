/- A text with dots that is no version: the program's Parse gives no value. -/
import Derived.Test.YtnghpjijfdpmkaaDoorValK
namespace Go.Proofs.YtnghpjijfdpmkaaDoor.value
open Go.RowKit Go.Proofs.YtnghpjijfdpmkaaDoor.text

set_option maxRecDepth 100000 in
set_option maxHeartbeats 4000000 in
theorem guess_awake (w : World) :
    Calls Tryd.prog 78 #[.string ⟨#[49, 46, 48, 50, 46, 51]⟩] w fun e w' => e = .returned (.agg #[.int .i64 4, .int .i64 0, .string ⟨#[49, 46, 48, 50, 46, 51]⟩, .slice none 0 0]) ∧ Below w.heap.size w w' := by
  go_enter Tryd.func78, Tryd.ntmps78
  go_wp2_with fail
  refine (Tryd.strings_HasPrefix ⟨#[49, 46, 48, 50, 46, 51]⟩ ⟨#[34]⟩ _).mono ?_
  rintro e w1 ⟨rfl, rfl⟩
  rw [show Lib.hasPrefix (⟨#[49, 46, 48, 50, 46, 51]⟩ : ByteArray).data.toList (⟨#[34]⟩ : ByteArray).data.toList = false by kernel_rfl]
  go_wp2_with fail
  refine (Tryd.strings_HasPrefix ⟨#[49, 46, 48, 50, 46, 51]⟩ ⟨#[91]⟩ _).mono ?_
  rintro e w1 ⟨rfl, rfl⟩
  rw [show Lib.hasPrefix (⟨#[49, 46, 48, 50, 46, 51]⟩ : ByteArray).data.toList (⟨#[91]⟩ : ByteArray).data.toList = false by kernel_rfl]
  go_wp2_with fail
  refine (Tryd.strings_Contains_one ⟨#[49, 46, 48, 50, 46, 51]⟩ 46 _).mono ?_
  rintro e w1 ⟨rfl, rfl⟩
  rw [show decide (0 ≤ Lib.indexByte (⟨#[49, 46, 48, 50, 46, 51]⟩ : ByteArray).data.toList 46) = true by kernel_rfl]
  go_wp2
  have hO := Own.new w #[.int .i64 4, .int .i64 0, .string ⟨#[49, 46, 48, 50, 46, 51]⟩, .slice none 0 0] 59
  obtain ⟨c0, c1, c2, c3⟩ := box4 hO
  refine bodyPost_ret (v := .agg #[.int .i64 4, .int .i64 0, .string ⟨#[49, 46, 48, 50, 46, 51]⟩, .slice none 0 0]) (by simp [results, Tryd.results78, go_sem, c0, c1, c2, c3]) rfl ⟨rfl, (Below.refl _ _).alloc (Nat.le_refl _) _⟩

theorem form102 : formR ⟨4, 0, [49, 46, 48, 50, 46, 51], []⟩ = .tuple #[.string ⟨#[]⟩, .int .i64 1] := by kernel_rfl
def zero4 : Array Value := #[.int .i64 0, .int .i64 0, .string ⟨#[]⟩, .slice none 0 0]
theorem own4 {w : World} {n : Nat} {x0 x1 x2 x3 : Value} {t : TypeId} (h : Own w n #[x0, x1, x2, x3] t) :
    w.cell? ⟨n, 0, none⟩ = some x0 ∧ w.cell? ⟨n, 1, none⟩ = some x1 ∧ w.cell? ⟨n, 2, none⟩ = some x2 ∧ w.cell? ⟨n, 3, none⟩ = some x3 ∧
    w.frozen? ⟨n, 0, none⟩ = false ∧ w.frozen? ⟨n, 1, none⟩ = false ∧ w.frozen? ⟨n, 2, none⟩ = false ∧ w.frozen? ⟨n, 3, none⟩ = false :=
  ⟨h.cell 0, h.cell 1, h.cell 2, h.cell 3, h.free 0, h.free 1, h.free 2, h.free 3⟩

set_option maxRecDepth 100000 in
set_option maxHeartbeats 4000000 in
theorem parse_awake (w : World) (hT : Tabs w) :
    Calls Tryd.prog 58 #[.string ⟨#[49, 46, 48, 50, 46, 51]⟩] w fun e w' => e = .returned (.tuple #[.agg #[.int .i64 0, .int .i64 0, .string ⟨#[]⟩, .slice none 0 0], .int .i64 1]) ∧ Below w.heap.size w w' := by
  replace hT := Lib.hid hT
  go_enter Tryd.func58, Tryd.ntmps58
  go_wp2_with fail
  refine (guess_awake _).mono ?_
  rintro e w1 ⟨rfl, hb1⟩
  have hO := Lib.hid ((Own.new w zero4 59).below hb1 (by simp))
  have hB := Lib.hid (((Below.refl w.heap.size w).alloc (Nat.le_refl _) (.cells zero4 59)).trans (hb1.mono (by simp)))
  have hB2 := Lib.hid (hB.out.alloc hB.out.size (.cells #[.int .i64 4, .int .i64 0, .string ⟨#[49, 46, 48, 50, 46, 51]⟩, .slice none 0 0] 59))
  have hO2 := Lib.hid (hO.out.alloc (.cells #[.int .i64 4, .int .i64 0, .string ⟨#[49, 46, 48, 50, 46, 51]⟩, .slice none 0 0] 59))
  clear hb1 hO hB
  go_wp2_with fail
  refine (format_any ⟨4, 0, [49, 46, 48, 50, 46, 51], []⟩ ⟨#[49, 46, 48, 50, 46, 51]⟩ none 0 [] _ ⟨rfl, Or.inl rfl, rfl⟩ (by simp) (by decide) (hT.out.below hB2.out)).mono ?_
  rintro e w2 ⟨rfl, hb2⟩
  rw [form102]
  have hO3 := Lib.hid (hO2.out.below hb2 hO2.out.lt)
  have hB3 := Lib.hid (hB2.out.trans (hb2.mono hB2.out.size))
  clear hb2 hO2 hB2
  obtain ⟨c0, c1, c2, c3, f0, f1, f2, f3⟩ := own4 hO3.out
  go_wp2
  refine bodyPost_ret (v := .tuple #[.agg #[.int .i64 0, .int .i64 0, .string ⟨#[]⟩, .slice none 0 0], .int .i64 1]) (by simp [results, Tryd.results58, go_sem, c0, c1, c2, c3]) rfl ?_
  refine ⟨rfl, ?_⟩
  exact (((hB3.out.setCell (by simp) _).setCell (by simp) _).setCell (by simp) _).setCell (by simp) _

end Go.Proofs.YtnghpjijfdpmkaaDoor.value

