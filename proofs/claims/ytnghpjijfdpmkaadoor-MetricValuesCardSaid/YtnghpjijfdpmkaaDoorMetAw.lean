/- The example of the chapter, with which each law begins. -/
import Derived.Test.YtnghpjijfdpmkaaDoorMetY
namespace Go.Proofs.YtnghpjijfdpmkaaDoor.metric
open Go.RowKit Go.Proofs.YtnghpjijfdpmkaaDoor Go.Proofs.YtnghpjijfdpmkaaDoor.text

abbrev awS : ByteArray := ⟨#[115, 117, 109, 32, 111, 102, 32, 114, 101, 118, 101, 110, 117, 101, 32, 119, 105, 116, 104, 105, 110, 32, 54, 48, 52, 56, 48, 48, 32, 99, 97, 112, 32, 53, 48, 48, 32, 108, 101, 97, 115, 116, 32, 49]⟩
abbrev awR : ByteArray := ⟨#[114, 101, 118, 101, 110, 117, 101]⟩
def awE : List EV := [⟨⟨#[]⟩, 0, 2, 0, ⟨#[]⟩, ⟨#[114, 101, 118, 101, 110, 117, 101]⟩, ⟨#[]⟩, 0, 0, 7⟩, ⟨⟨#[]⟩, 0, 2, 0, ⟨#[]⟩, ⟨#[114, 101, 118, 101, 110, 117, 101]⟩, ⟨#[]⟩, 0, 0, (-2)⟩]
theorem aw_parse : parsePV awS = .tuple #[.agg #[.int .i64 1, .string awR, .string ⟨#[]⟩, .int .i64 604800, .int .i64 500, .int .i64 1, .int .i64 0], .int .i64 0] := by kernel_rfl
theorem aw_value : valM ⟨1, awR.data.toList, [], 604800, 500, 1, 0⟩ awE = .tuple #[.int .i64 7, .int .i64 0] := by kernel_rfl
theorem awE_at {g : Nat} (u : World) (h : Own u g #[.string ⟨#[]⟩, .int .i64 0, .int .i64 2, .int .i64 0, .string ⟨#[]⟩, .string ⟨#[114, 101, 118, 101, 110, 117, 101]⟩, .string ⟨#[]⟩, .int .i64 0, .int .i64 0, .int .i64 7, .string ⟨#[]⟩, .int .i64 0, .int .i64 2, .int .i64 0, .string ⟨#[]⟩, .string ⟨#[114, 101, 118, 101, 110, 117, 101]⟩, .string ⟨#[]⟩, .int .i64 0, .int .i64 0, .int .i64 (-2)] 40) : EvsAt u.cell? (some ⟨g, 0, none⟩) awE := by
  refine Or.inr ⟨g, 0, rfl, fun i e he j hj => ?_⟩
  have hi : i < 2 := (List.getElem?_eq_some_iff.1 he).1
  rw [Nat.zero_add, h.cell]
  rcases (show i = 0 ∨ i = 1 by omega) with rfl | rfl
  · injection he with he
    subst he
    match j, hj with
    | 0, _ => rfl
    | 1, _ => rfl
    | 2, _ => rfl
    | 3, _ => rfl
    | 4, _ => rfl
    | 5, _ => rfl
    | 6, _ => rfl
    | 7, _ => rfl
    | 8, _ => rfl
    | 9, _ => rfl
  · injection he with he
    subst he
    match j, hj with
    | 0, _ => rfl
    | 1, _ => rfl
    | 2, _ => rfl
    | 3, _ => rfl
    | 4, _ => rfl
    | 5, _ => rfl
    | 6, _ => rfl
    | 7, _ => rfl
    | 8, _ => rfl
    | 9, _ => rfl
theorem awE_small : Small awE := by
  intro e he
  simp only [awE, List.mem_cons, List.not_mem_nil, or_false] at he
  rcases he with rfl | rfl <;> exact ⟨by decide, by decide⟩

set_option maxRecDepth 100000 in
set_option maxHeartbeats 8000000 in
theorem awake_m (w : World) (hT : NTabs w) : Calls Tryd.prog 10 #[] w fun e w' => e = .returned (.bool true) ∧ Below w.heap.size w w' := by
  replace hT := Lib.hid hT
  go_enter Tryd.func10, Tryd.ntmps10
  go_wp2_with fail
  refine (parse_p awS _ (by decide) hT.out).mono ?_
  rintro e w1 ⟨rfl, hb1⟩
  rw [aw_parse]
  replace hb1 := Lib.hid hb1
  have hO := Lib.hid (Own.new' (w := w1.alloc (.cells #[.int .i64 1, .string awR, .string ⟨#[]⟩, .int .i64 604800, .int .i64 500, .int .i64 1, .int .i64 0] 29)) (A := #[.string ⟨#[]⟩, .int .i64 0, .int .i64 2, .int .i64 0, .string ⟨#[]⟩, .string ⟨#[114, 101, 118, 101, 110, 117, 101]⟩, .string ⟨#[]⟩, .int .i64 0, .int .i64 0, .int .i64 7, .string ⟨#[]⟩, .int .i64 0, .int .i64 2, .int .i64 0, .string ⟨#[]⟩, .string ⟨#[114, 101, 118, 101, 110, 117, 101]⟩, .string ⟨#[]⟩, .int .i64 0, .int .i64 0, .int .i64 (-2)]) (t := 40) (n := w1.heap.size + 1) (by simp))
  have hX := Lib.hid ((Own.new w1 #[.int .i64 1, .string awR, .string ⟨#[]⟩, .int .i64 604800, .int .i64 500, .int .i64 1, .int .i64 0] 29).alloc (.cells #[.string ⟨#[]⟩, .int .i64 0, .int .i64 2, .int .i64 0, .string ⟨#[]⟩, .string ⟨#[114, 101, 118, 101, 110, 117, 101]⟩, .string ⟨#[]⟩, .int .i64 0, .int .i64 0, .int .i64 7, .string ⟨#[]⟩, .int .i64 0, .int .i64 2, .int .i64 0, .string ⟨#[]⟩, .string ⟨#[114, 101, 118, 101, 110, 117, 101]⟩, .string ⟨#[]⟩, .int .i64 0, .int .i64 0, .int .i64 (-2)] 40))
  have hB := Lib.hid ((hb1.out.alloc hb1.out.size (.cells #[.int .i64 1, .string awR, .string ⟨#[]⟩, .int .i64 604800, .int .i64 500, .int .i64 1, .int .i64 0] 29)).alloc (by have := hb1.out.size; simp; omega) (.cells #[.string ⟨#[]⟩, .int .i64 0, .int .i64 2, .int .i64 0, .string ⟨#[]⟩, .string ⟨#[114, 101, 118, 101, 110, 117, 101]⟩, .string ⟨#[]⟩, .int .i64 0, .int .i64 0, .int .i64 7, .string ⟨#[]⟩, .int .i64 0, .int .i64 2, .int .i64 0, .string ⟨#[]⟩, .string ⟨#[114, 101, 118, 101, 110, 117, 101]⟩, .string ⟨#[]⟩, .int .i64 0, .int .i64 0, .int .i64 (-2)] 40))
  go_wp2_with fail
  refine (value_p ⟨1, awR.data.toList, [], 604800, 500, 1, 0⟩ awR ⟨#[]⟩ (some ⟨w1.heap.size + 1, 0, none⟩) 2 awE _ rfl rfl (awE_at _ hO.out) (by decide) (fun h => by cases h) (fun h => by cases h) awE_small (hT.out.below hB.out)).mono ?_
  rintro e w2 ⟨rfl, hb2⟩
  rw [aw_value]
  have hX2 := hX.out.below hb2 hX.out.lt
  have x3 := hX2.cell 3
  simp only [List.getElem?_toArray, List.getElem?_cons_zero, List.getElem?_cons_succ] at x3
  have hB2 := Lib.hid (hB.out.trans (hb2.mono hB.out.size))
  clear hX hX2 hb2 hB hO hb1
  go_wp2
  go_ret
  exact ⟨rfl, hB2.out⟩

end Go.Proofs.YtnghpjijfdpmkaaDoor.metric

