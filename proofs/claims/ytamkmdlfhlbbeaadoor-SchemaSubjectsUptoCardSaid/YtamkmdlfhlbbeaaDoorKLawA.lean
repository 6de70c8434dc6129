/- The sanity check with which each law begins. -/
import Derived.Test.YtamkmdlfhlbbeaaDoorKSchema4
import Derived.Test.YtamkmdlfhlbbeaaDoorKJ5
import Derived.KernelRfl
namespace Go.Proofs.YtamkmdlfhlbbeaaDoor.law
open Go.RowKit Go.Proofs.YtamkmdlfhlbbeaaDoor.schema Go.Proofs.YtamkmdlfhlbbeaaDoor.draw

def user : ByteArray := ⟨#[117, 115, 101, 114]⟩
def plan : ByteArray := ⟨#[112, 108, 97, 110]⟩
def age : ByteArray := ⟨#[97, 103, 101]⟩
theorem t1 : exprS [⟨user, plan, 3⟩] [] (.mk 12 user plan [⟨2, 3, ⟨#[]⟩, none, 0, 0, []⟩] []) = 8 := by kernel_rfl
theorem t2 : exprS [⟨user, plan, 3⟩] [] (.mk 7 user age [⟨2, 3, ⟨#[]⟩, none, 0, 0, []⟩] []) = 11 := by kernel_rfl
theorem t3 : typeOf user.toList plan.toList [⟨user, plan, 3⟩] = 3 := by kernel_rfl

def declA : Array Value := #[.string ⟨#[117, 115, 101, 114]⟩, .string ⟨#[112, 108, 97, 110]⟩, .int .i64 3]
def threeA : Array Value := #[.int .i64 2, .int .i64 3, .string ⟨#[]⟩, .slice none 0 0]
theorem declRows {w : World} {n : Nat} (h : Own w n declA 36) : RowsAt w.cell? 3 (.slice (some ⟨n, 0, none⟩) 1 1) ([(⟨user, plan, 3⟩ : DD)].map DD.row) :=
  rows_of_own h 3 [DD.row ⟨user, plan, 3⟩] (by simp [DD.row]) (by rfl) 1 (by decide) (by decide)
theorem threeRows {w : World} {n : Nat} (h : Own w n threeA 42) : RowsAt w.cell? 4 (.slice (some ⟨n, 0, none⟩) 1 1) ([(⟨2, 3, ⟨#[]⟩, none, 0, 0, []⟩ : VD)].map VD.row) :=
  rows_of_own h 4 [VD.row ⟨2, 3, ⟨#[]⟩, none, 0, 0, []⟩] (by simp [VD.row]) (by rfl) 1 (by decide) (by decide)

set_option maxHeartbeats 1000000 in
theorem awake_any (w : World) : Calls Tryd.prog 4 #[] w fun e w' => e = .returned (.bool true) ∧ Below w.heap.size w w' := by
  go_enter Tryd.func4, Tryd.ntmps4
  go_wp2_with fail
  have hO1 : Own ((w.alloc (.cells declA 36)).alloc (.cells threeA 42)) w.heap.size declA 36 := (Own.new w declA _).alloc _
  have hO2 : Own ((w.alloc (.cells declA 36)).alloc (.cells threeA 42)) (w.heap.size + 1) threeA 42 := by have := Own.new (w.alloc (.cells declA 36)) threeA 42; simpa using this
  have hB : Below w.heap.size w ((w.alloc (.cells declA 36)).alloc (.cells threeA 42)) := ((Below.refl _ _).alloc (Nat.le_refl _) _).alloc (by simp) _
  have hsz : ((w.alloc (.cells declA 36)).alloc (.cells threeA 42)).heap.size = w.heap.size + 2 := by simp
  refine (expr_any _ [] _ _ _ (declRows hO1) (rows_nil _ _) _ _ (EAt.mk (m := ((w.alloc (.cells declA 36)).alloc (.cells threeA 42)).cell?) (kids := []) (op := 12) (kind := user) (name := plan) [] (threeRows hO2) (rows_nil _ _) rfl (fun v hv => by obtain rfl := List.mem_singleton.1 hv; exact LAt.flat _ _ _ _ (by decide)) (fun i r k hi => by simp at hi)) _ (Sub.refl _)).mono ?_
  rintro e w1 ⟨rfl, hb1⟩
  rw [t1]
  rw [hsz] at hb1
  have hP1 := Lib.hid (hO1.below hb1 (by omega))
  have hP2 := Lib.hid (hO2.below hb1 (by omega))
  have hB1 := Lib.hid (hB.trans (hb1.mono (by omega)))
  have hz1 : w.heap.size + 2 ≤ w1.heap.size := by have := hb1.size; rw [hsz] at this; exact this
  clear hO1 hO2 hB hb1 hsz
  go_wp2_with fail
  refine (expr_any _ [] _ _ w1.cell? (declRows hP1.out) (rows_nil _ _) _ _ (EAt.mk (m := w1.cell?) (kids := []) (op := 7) (kind := user) (name := age) [] (threeRows hP2.out) (rows_nil _ _) rfl (fun v hv => by obtain rfl := List.mem_singleton.1 hv; exact LAt.flat _ _ _ _ (by decide)) (fun i r k hi => by simp at hi)) _ (Sub.refl _)).mono ?_
  rintro e w2 ⟨rfl, hb2⟩
  rw [t2]
  have hQ1 := Lib.hid (hP1.out.below hb2 (by omega))
  have hB2 := Lib.hid (hB1.out.trans (hb2.mono (by omega)))
  have hz2 : w.heap.size ≤ w2.heap.size := by have := hb2.size; omega
  clear hb2
  go_wp2_with fail
  refine (type_any _ [⟨user, plan, 3⟩] user plan _ (declRows hQ1.out)).mono ?_
  rintro e w3 ⟨rfl, hb3⟩
  rw [t3]
  have hB3 := Lib.hid (hB2.out.trans (hb3.mono hz2))
  clear hb3
  go_wp2
  go_ret
  exact ⟨rfl, hB3.out⟩

end Go.Proofs.YtamkmdlfhlbbeaaDoor.law

