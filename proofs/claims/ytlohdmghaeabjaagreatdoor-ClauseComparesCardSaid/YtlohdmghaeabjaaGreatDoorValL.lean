/- The drawing package's Mod. -/
import Derived.Test.YtlohdmghaeabjaaGreatDoorValH
namespace Go.Proofs.YtlohdmghaeabjaaGreatDoor.value
open Go.RowKit Go.Proofs.YtlohdmghaeabjaaGreatDoor.text

set_option maxHeartbeats 400000 in
theorem mod_eq (x n : Int) (w : World) (hn : 1 ≤ n) (hn2 : n ≤ 4294967296) (_hx : -9223372036854775808 ≤ x) (_hx2 : x ≤ 9223372036854775807) :
    Calls Tryz.prog 15 #[.int .i64 x, .int .i64 n] w fun e w' => e = .returned (.int .i64 (x % n)) ∧ w' = w := by
  have h1 : x.tmod n < n := Int.tmod_lt_of_pos x (by omega)
  have h2 : -n < x.tmod n := by have := Int.lt_tmod_of_pos x (show 0 < n by omega); omega
  have h3 : 0 ≤ x % n := Int.emod_nonneg _ (by omega)
  have h4 : x % n < n := Int.emod_lt_of_pos _ (by omega)
  have h5 := Int.tmod_eq_emod (a := x) (b := n)
  have hQ := Lib.hid (show (x.tmod n < 0 ∧ x.tmod n + n = x % n) ∨ (¬ x.tmod n < 0 ∧ x.tmod n = x % n) by
    split at h5
    · exact Or.inr (by omega)
    · have : ((n.natAbs : Nat) : Int) = n := by omega
      rw [this] at h5
      exact Or.inl (by omega))
  clear h3 h4 h5
  rcases hQ.out with ⟨h, hq⟩ | ⟨h, hq⟩
  · have hE := Lib.hid hq
    clear hq hQ
    go_enter Tryz.func15, Tryz.ntmps15
    go_wp2
    go_ret
    exact ⟨ret_i hE.out.symm, rfl⟩
  · have hE := Lib.hid hq
    clear hq hQ
    go_enter Tryz.func15, Tryz.ntmps15
    go_wp2
    go_ret
    exact ⟨ret_i hE.out.symm, rfl⟩

def zero4 : Array Value := #[.int .i64 0, .int .i64 0, .string ⟨#[]⟩, .slice none 0 0]
theorem own4 {w : World} {n : Nat} {x0 x1 x2 x3 : Value} {t : TypeId} (h : Own w n #[x0, x1, x2, x3] t) :
    w.cell? ⟨n, 0, none⟩ = some x0 ∧ w.cell? ⟨n, 1, none⟩ = some x1 ∧ w.cell? ⟨n, 2, none⟩ = some x2 ∧ w.cell? ⟨n, 3, none⟩ = some x3 ∧
    w.frozen? ⟨n, 0, none⟩ = false ∧ w.frozen? ⟨n, 1, none⟩ = false ∧ w.frozen? ⟨n, 2, none⟩ = false ∧ w.frozen? ⟨n, 3, none⟩ = false :=
  ⟨h.cell 0, h.cell 1, h.cell 2, h.cell 3, h.free 0, h.free 1, h.free 2, h.free 3⟩
theorem shape_of {v : VV} (h : checkS v = 0) : shapeS v = true := by
  have hk := kind_of h
  cases hs : shapeS v with
  | true => rfl
  | false => rw [c_shape (by omega) hs] at h; cases h

end Go.Proofs.YtlohdmghaeabjaaGreatDoor.value

