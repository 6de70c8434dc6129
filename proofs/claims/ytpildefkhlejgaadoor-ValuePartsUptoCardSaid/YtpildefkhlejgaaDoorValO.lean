/- The names of kinds: the reference's TypeName. -/
import Derived.Test.YtpildefkhlejgaaDoorValN
namespace Go.Proofs.YtpildefkhlejgaaDoor.value
open Go.RowKit Go.Proofs.YtpildefkhlejgaaDoor.text

/-- The name of a kind. -/
def typeS (k : Int) : ByteArray :=
  if k = 1 then ⟨#[98, 111, 111, 108]⟩ else if k = 2 then ⟨#[110, 117, 109, 98, 101, 114]⟩ else if k = 3 then ⟨#[116, 101, 120, 116]⟩ else if k = 4 then ⟨#[118, 101, 114, 115, 105, 111, 110]⟩ else if k = 5 then ⟨#[108, 105, 115, 116]⟩ else ⟨#[]⟩
theorem typeS_out {k : Int} (h : k < 1 ∨ 5 < k) : typeS k = ⟨#[]⟩ := by
  unfold typeS
  rw [if_neg (by omega), if_neg (by omega), if_neg (by omega), if_neg (by omega), if_neg (by omega)]

set_option maxRecDepth 100000 in
set_option maxHeartbeats 4000000 in
theorem type_ref (k : Int) (w : World) : Calls Tryd.prog 29 #[.int .i64 k] w fun e w' => e = .returned (.string (typeS k)) ∧ Below w.heap.size w w' := by
  have hB := Lib.hid (show Below w.heap.size w (w.alloc (.cells #[.string ⟨#[]⟩, .string ⟨#[98, 111, 111, 108]⟩, .string ⟨#[110, 117, 109, 98, 101, 114]⟩, .string ⟨#[116, 101, 120, 116]⟩, .string ⟨#[118, 101, 114, 115, 105, 111, 110]⟩, .string ⟨#[108, 105, 115, 116]⟩] 9)) from (Below.refl _ _).alloc (Nat.le_refl _) _)
  go_enter Tryd.func29, Tryd.ntmps29
  by_cases h0 : k < 0
  · rw [typeS_out (by omega)]
    go_wp2
    go_ret
    exact ⟨rfl, hB.out⟩
  by_cases h5 : 6 ≤ k
  · rw [typeS_out (by omega)]
    go_wp2
    go_ret
    exact ⟨rfl, hB.out⟩
  rcases (show k = 0 ∨ k = 1 ∨ k = 2 ∨ k = 3 ∨ k = 4 ∨ k = 5 by omega) with rfl | rfl | rfl | rfl | rfl | rfl
  all_goals
    go_wp2
    go_ret
    exact ⟨rfl, hB.out⟩

end Go.Proofs.YtpildefkhlejgaaDoor.value
