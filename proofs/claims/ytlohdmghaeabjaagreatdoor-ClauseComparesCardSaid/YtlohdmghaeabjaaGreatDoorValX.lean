/- Compare is a total order on the valid values of one kind, said plainly; the program's Equal of two values without lists. -/
import Derived.Test.YtlohdmghaeabjaaGreatDoorValW
import Derived.Test.YtlohdmghaeabjaaGreatDoorValV
namespace Go.Proofs.YtlohdmghaeabjaaGreatDoor.value
open Go.RowKit Go.Proofs.YtlohdmghaeabjaaGreatDoor.text

theorem cmpI_sign (a b : Int) : (cmpI a b < 0 ↔ a < b) ∧ (cmpI a b = 0 ↔ a = b) ∧ (0 < cmpI a b ↔ b < a) ∧ -1 ≤ cmpI a b ∧ cmpI a b ≤ 1 := by
  unfold cmpI
  by_cases h1 : a < b
  · rw [if_pos h1]; omega
  · by_cases h2 : b < a
    · rw [if_neg h1, if_pos h2]; omega
    · rw [if_neg h1, if_neg h2]; omega
theorem cmpV_sign (a b c x y z : Int) :
    (cmpV (some (a, b, c)) (some (x, y, z)) < 0 ↔ a < x ∨ (a = x ∧ (b < y ∨ (b = y ∧ c < z)))) ∧ (cmpV (some (a, b, c)) (some (x, y, z)) = 0 ↔ a = x ∧ b = y ∧ c = z) ∧
    (0 < cmpV (some (a, b, c)) (some (x, y, z)) ↔ x < a ∨ (a = x ∧ (y < b ∨ (b = y ∧ z < c)))) ∧ -1 ≤ cmpV (some (a, b, c)) (some (x, y, z)) ∧ cmpV (some (a, b, c)) (some (x, y, z)) ≤ 1 := by
  unfold cmpV
  simp only
  have h1 := cmpI_sign a x
  have h2 := cmpI_sign b y
  have h3 := cmpI_sign c z
  by_cases e1 : a = x
  · rw [if_neg (by simpa using e1)]
    by_cases e2 : b = y
    · rw [if_neg (by simpa using e2)]; omega
    · rw [if_pos e2]; omega
  · rw [if_pos e1]; omega
theorem cmpT_sign (a b : List UInt8) : (cmpT a b < 0 ↔ Op.bytesLess a b = true) ∧ (cmpT a b = 0 ↔ a = b) ∧ (0 < cmpT a b ↔ Op.bytesLess b a = true) ∧ -1 ≤ cmpT a b ∧ cmpT a b ≤ 1 := by
  have ht := less_tri a b
  unfold cmpT
  cases h1 : Op.bytesLess a b with
  | true =>
    rw [h1] at ht
    cases h2 : Op.bytesLess b a with
    | true => rw [h2] at ht; cases ht
    | false =>
      rw [if_pos rfl]
      refine ⟨by simp, ?_, by simp, by omega, by omega⟩
      constructor
      · intro h; omega
      · intro h; subst h; rw [less_irrefl] at h1; cases h1
  | false =>
    rw [h1] at ht
    cases h2 : Op.bytesLess b a with
    | true =>
      rw [if_neg (by simp), if_pos rfl]
      refine ⟨by simp, ?_, by simp, by omega, by omega⟩
      constructor
      · intro h; omega
      · intro h; subst h; rw [less_irrefl] at h2; cases h2
    | false =>
      rw [h2, Bool.false_or] at ht
      have e : b = a := by simpa using ht
      rw [if_neg (by simp), if_neg (by simp)]
      exact ⟨by simp, ⟨fun _ => e.symm, fun _ => rfl⟩, by simp, by omega, by omega⟩

/-- Are two values without lists equal. -/
def eqVB (n m : Int) (s t : ByteArray) : Bool := (n == m) && (s.toList == t.toList)
/-- What four comparisons of three values give. -/
structure OrdF (K n0 n1 n2 : Int) (t0 t1 t2 : ByteArray) (x y z u : Int) : Prop where
  h01 : cmpR ⟨K, n0, t0.data.toList, []⟩ ⟨K, n1, t1.data.toList, []⟩ = .tuple #[.int .i64 x, .int .i64 0]
  h12 : cmpR ⟨K, n1, t1.data.toList, []⟩ ⟨K, n2, t2.data.toList, []⟩ = .tuple #[.int .i64 y, .int .i64 0]
  h02 : cmpR ⟨K, n0, t0.data.toList, []⟩ ⟨K, n2, t2.data.toList, []⟩ = .tuple #[.int .i64 z, .int .i64 0]
  h10 : cmpR ⟨K, n1, t1.data.toList, []⟩ ⟨K, n0, t0.data.toList, []⟩ = .tuple #[.int .i64 u, .int .i64 0]
  neg : u = -x
  eq : (x == 0) = eqVB n0 n1 t0 t1
  tr : x ≤ 0 → y ≤ 0 → z < 0 ∨ (z = 0 ∧ x = 0 ∧ y = 0)
  bd : -1 ≤ x ∧ x ≤ 1 ∧ -1 ≤ y ∧ y ≤ 1 ∧ -1 ≤ z ∧ z ≤ 1
theorem lex_trans {a b c d e f g h i : Int} (h1 : a < d ∨ (a = d ∧ (b < e ∨ (b = e ∧ c < f)))) (h2 : d < g ∨ (d = g ∧ (e < h ∨ (e = h ∧ f < i)))) : a < g ∨ (a = g ∧ (b < h ∨ (b = h ∧ c < i))) := by
  rcases h1 with h1 | ⟨rfl, h1 | ⟨rfl, h1⟩⟩
  · rcases h2 with h2 | ⟨rfl, h2⟩
    · exact Or.inl (by omega)
    · exact Or.inl h1
  · rcases h2 with h2 | ⟨rfl, h2 | ⟨rfl, h2⟩⟩
    · exact Or.inl h2
    · exact Or.inr ⟨rfl, Or.inl (by omega)⟩
    · exact Or.inr ⟨rfl, Or.inl h1⟩
  · rcases h2 with h2 | ⟨rfl, h2 | ⟨rfl, h2⟩⟩
    · exact Or.inl h2
    · exact Or.inr ⟨rfl, Or.inl h2⟩
    · exact Or.inr ⟨rfl, Or.inr ⟨rfl, by omega⟩⟩
theorem ord_num {n0 n1 n2 : Int} {t0 t1 t2 : ByteArray} (h0 : checkS ⟨2, n0, t0.data.toList, []⟩ = 0) (h1 : checkS ⟨2, n1, t1.data.toList, []⟩ = 0) (h2 : checkS ⟨2, n2, t2.data.toList, []⟩ = 0) : ∃ x y z u, OrdF 2 n0 n1 n2 t0 t1 t2 x y z u := by
  have e : ∀ {n : Int} {t : ByteArray}, checkS ⟨2, n, t.data.toList, []⟩ = 0 → t.toList = [] := by
    intro n t h
    have := shape_of h
    rw [ByteArray.toList_eq]
    unfold shapeS at this
    simpa using this
  have e01 : (t0.toList == t1.toList) = true := by rw [e h0, e h1]; rfl
  have s1 := cmpI_sign n0 n1
  have s2 := cmpI_sign n1 n2
  have s3 := cmpI_sign n0 n2
  have s4 := cmpI_sign n1 n0
  refine ⟨cmpI n0 n1, cmpI n1 n2, cmpI n0 n2, cmpI n1 n0, cmpR_n h0 h1 rfl rfl, cmpR_n h1 h2 rfl rfl, cmpR_n h0 h2 rfl rfl, cmpR_n h1 h0 rfl rfl, by omega, ?_, by omega, by omega⟩
  show (cmpI n0 n1 == 0) = eqVB n0 n1 t0 t1
  unfold eqVB
  rw [e01, Bool.and_true, Bool.eq_iff_iff]
  simp [s1.2.1]
theorem ord_txt {n0 n1 n2 : Int} {t0 t1 t2 : ByteArray} (h0 : checkS ⟨3, n0, t0.data.toList, []⟩ = 0) (h1 : checkS ⟨3, n1, t1.data.toList, []⟩ = 0) (h2 : checkS ⟨3, n2, t2.data.toList, []⟩ = 0) : ∃ x y z u, OrdF 3 n0 n1 n2 t0 t1 t2 x y z u := by
  have e : ∀ {n : Int} {t : ByteArray}, checkS ⟨3, n, t.data.toList, []⟩ = 0 → n = 0 := by
    intro n t h
    have := shape_of h
    unfold shapeS at this
    simpa using this
  have e01 : (n0 == n1) = true := by rw [e h0, e h1]; rfl
  have s1 := cmpT_sign t0.data.toList t1.data.toList
  have s2 := cmpT_sign t1.data.toList t2.data.toList
  have s3 := cmpT_sign t0.data.toList t2.data.toList
  have s4 := cmpT_sign t1.data.toList t0.data.toList
  refine ⟨cmpT t0.data.toList t1.data.toList, cmpT t1.data.toList t2.data.toList, cmpT t0.data.toList t2.data.toList, cmpT t1.data.toList t0.data.toList, cmpR_t h0 h1 rfl rfl, cmpR_t h1 h2 rfl rfl, cmpR_t h0 h2 rfl rfl, cmpR_t h1 h0 rfl rfl, ?_, ?_, ?_, by omega⟩
  · show cmpT t1.data.toList t0.data.toList = -cmpT t0.data.toList t1.data.toList
    rcases (show cmpT t0.data.toList t1.data.toList < 0 ∨ cmpT t0.data.toList t1.data.toList = 0 ∨ 0 < cmpT t0.data.toList t1.data.toList by omega) with h | h | h
    · have := s4.2.2.1.2 (s1.1.1 h); omega
    · have := s4.2.1.2 (s1.2.1.1 h).symm; omega
    · have := s4.1.2 (s1.2.2.1.1 h); omega
  · show (cmpT t0.data.toList t1.data.toList == 0) = eqVB n0 n1 t0 t1
    unfold eqVB
    rw [e01, Bool.true_and, ByteArray.toList_eq, ByteArray.toList_eq, Bool.eq_iff_iff]
    simp [s1.2.1]
  · show cmpT t0.data.toList t1.data.toList ≤ 0 → cmpT t1.data.toList t2.data.toList ≤ 0 → _
    intro hx hy
    rcases (show cmpT t0.data.toList t1.data.toList < 0 ∨ cmpT t0.data.toList t1.data.toList = 0 by omega) with h | h
    · rcases (show cmpT t1.data.toList t2.data.toList < 0 ∨ cmpT t1.data.toList t2.data.toList = 0 by omega) with k | k
      · exact Or.inl (s3.1.2 (less_trans (s1.1.1 h) (s2.1.1 k)))
      · rw [← s2.2.1.1 k] at s3 ⊢; exact Or.inl h
    · rw [s1.2.1.1 h] at s3 ⊢
      rcases (show cmpT t1.data.toList t2.data.toList < 0 ∨ cmpT t1.data.toList t2.data.toList = 0 by omega) with k | k
      · exact Or.inl k
      · exact Or.inr ⟨k, by rw [(s1.2.1.1 h).symm] at *; exact h, k⟩
/-- A value that is a version of three numbers. -/
def IsVer (n : Int) (t : ByteArray) : Prop := n = 0 ∧ ∃ a b c : Int, t.data.toList = ver3 a b c ∧ (0 ≤ a ∧ a ≤ 999999) ∧ (0 ≤ b ∧ b ≤ 999999) ∧ (0 ≤ c ∧ c ≤ 999999)
theorem ord_ver {n0 n1 n2 : Int} {t0 t1 t2 : ByteArray} (h0 : IsVer n0 t0) (h1 : IsVer n1 t1) (h2 : IsVer n2 t2) : ∃ x y z u, OrdF 4 n0 n1 n2 t0 t1 t2 x y z u := by
  obtain ⟨rfl, a0, b0, c0, e0, p0, q0, r0⟩ := h0
  obtain ⟨rfl, a1, b1, c1, e1, p1, q1, r1⟩ := h1
  obtain ⟨rfl, a2, b2, c2, e2, p2, q2, r2⟩ := h2
  have k0 := check_ver3 p0 q0 r0
  have k1 := check_ver3 p1 q1 r1
  have k2 := check_ver3 p2 q2 r2
  have v0 := verS_ver3 p0 q0 r0
  have v1 := verS_ver3 p1 q1 r1
  have v2 := verS_ver3 p2 q2 r2
  have s1 := cmpV_sign a0 b0 c0 a1 b1 c1
  have s2 := cmpV_sign a1 b1 c1 a2 b2 c2
  have s3 := cmpV_sign a0 b0 c0 a2 b2 c2
  have s4 := cmpV_sign a1 b1 c1 a0 b0 c0
  refine ⟨cmpV (some (a0, b0, c0)) (some (a1, b1, c1)), cmpV (some (a1, b1, c1)) (some (a2, b2, c2)), cmpV (some (a0, b0, c0)) (some (a2, b2, c2)), cmpV (some (a1, b1, c1)) (some (a0, b0, c0)), ?_, ?_, ?_, ?_, ?_, ?_, ?_, ⟨s1.2.2.2.1, s1.2.2.2.2, s2.2.2.2.1, s2.2.2.2.2, s3.2.2.2.1, s3.2.2.2.2⟩⟩
  · rw [e0, e1, cmpR_v k0 k1 rfl rfl, v0, v1]
  · rw [e1, e2, cmpR_v k1 k2 rfl rfl, v1, v2]
  · rw [e0, e2, cmpR_v k0 k2 rfl rfl, v0, v2]
  · rw [e1, e0, cmpR_v k1 k0 rfl rfl, v1, v0]
  · clear s2 s3 e0 e1 e2 k0 k1 k2 v0 v1 v2
    generalize cmpV (some (a0, b0, c0)) (some (a1, b1, c1)) = x at s1
    generalize cmpV (some (a1, b1, c1)) (some (a0, b0, c0)) = u at s4
    rcases (show x < 0 ∨ x = 0 ∨ 0 < x by omega) with h | h | h
    · have h1 := s1.1.1 h
      have h2 : 0 < u := s4.2.2.1.2 (by rcases h1 with h1 | ⟨e, h1 | ⟨e2, h1⟩⟩; exact Or.inl h1; exact Or.inr ⟨e.symm, Or.inl h1⟩; exact Or.inr ⟨e.symm, Or.inr ⟨e2.symm, h1⟩⟩)
      omega
    · have h1 := s1.2.1.1 h
      have h2 : u = 0 := s4.2.1.2 ⟨h1.1.symm, h1.2.1.symm, h1.2.2.symm⟩
      omega
    · have h1 := s1.2.2.1.1 h
      have h2 : u < 0 := s4.1.2 (by rcases h1 with h1 | ⟨e, h1 | ⟨e2, h1⟩⟩; exact Or.inl h1; exact Or.inr ⟨e.symm, Or.inl h1⟩; exact Or.inr ⟨e.symm, Or.inr ⟨e2.symm, h1⟩⟩)
      omega
  · unfold eqVB
    rw [show ((0 : Int) == 0) = true from rfl, Bool.true_and, ByteArray.toList_eq, ByteArray.toList_eq, e0, e1, Bool.eq_iff_iff]
    simp only [beq_iff_eq]
    rw [s1.2.1]
    constructor
    · rintro ⟨rfl, rfl, rfl⟩; rfl
    · intro h
      rw [h, v1] at v0
      injection v0 with v0
      injection v0 with g1 g2
      injection g2 with g2 g3
      exact ⟨g1.symm, g2.symm, g3.symm⟩
  · clear s4 e0 e1 e2 k0 k1 k2 v0 v1 v2
    intro hx hy
    rcases (show cmpV (some (a0, b0, c0)) (some (a1, b1, c1)) < 0 ∨ cmpV (some (a0, b0, c0)) (some (a1, b1, c1)) = 0 by omega) with h | h
    · rcases (show cmpV (some (a1, b1, c1)) (some (a2, b2, c2)) < 0 ∨ cmpV (some (a1, b1, c1)) (some (a2, b2, c2)) = 0 by omega) with k | k
      · exact Or.inl (s3.1.2 (lex_trans (s1.1.1 h) (s2.1.1 k)))
      · obtain ⟨rfl, rfl, rfl⟩ := s2.2.1.1 k
        exact Or.inl h
    · obtain ⟨rfl, rfl, rfl⟩ := s1.2.1.1 h
      rcases (show cmpV (some (a0, b0, c0)) (some (a2, b2, c2)) < 0 ∨ cmpV (some (a0, b0, c0)) (some (a2, b2, c2)) = 0 by omega) with k | k
      · exact Or.inl k
      · exact Or.inr ⟨k, h, k⟩

set_option maxHeartbeats 1000000 in
theorem eqList_nil (w : World) : Calls Tryz.prog 67 #[.slice none 0 0, .slice none 0 0] w fun e w' => e = .returned (.bool true) ∧ w' = w := by
  go_enter Tryz.func67, Tryz.ntmps67
  go_wp2
  go_loopw [13] (fun i wr => i = .int .i64 0 ∧ wr = w) (fun _ _ => 0)
  case atStart => exact ⟨rfl, rfl⟩
  case round =>
    obtain ⟨rfl, rfl⟩ := hrel
    go_wp2
    go_ret
    exact ⟨rfl, rfl⟩
set_option maxHeartbeats 1000000 in
theorem equal_flat (K n m : Int) (s t : ByteArray) (w : World) : Calls Tryz.prog 40 #[.agg #[.int .i64 K, .int .i64 n, .string s, .slice none 0 0], .agg #[.int .i64 K, .int .i64 m, .string t, .slice none 0 0]] w fun e w' => e = .returned (.bool (eqVB n m s t)) ∧ Below w.heap.size w w' := by
  have hB := Lib.hid (show Below w.heap.size w ((w.alloc (.cells #[.int .i64 K, .int .i64 n, .string s, .slice none 0 0] 43)).alloc (.cells #[.int .i64 K, .int .i64 m, .string t, .slice none 0 0] 43)) from ((Below.refl _ _).alloc (Nat.le_refl _) _).alloc (by simp) _)
  go_enter Tryz.func40, Tryz.ntmps40
  cases hn : (n == m) with
  | false =>
    have hQ := Lib.hid (show false = eqVB n m s t by unfold eqVB; rw [hn]; rfl)
    go_wp2
    go_ret
    exact ⟨ret_b hQ.out, hB.out⟩
  | true =>
    cases ht : (s.toList == t.toList) with
    | false =>
      have hQ := Lib.hid (show false = eqVB n m s t by unfold eqVB; rw [hn, ht]; rfl)
      go_wp2
      go_ret
      exact ⟨ret_b hQ.out, hB.out⟩
    | true =>
      have hQ := Lib.hid (show true = eqVB n m s t by unfold eqVB; rw [hn, ht]; rfl)
      go_wp2_with fail
      refine (eqList_nil _).mono ?_
      rintro e w1 ⟨rfl, rfl⟩
      go_wp2
      go_ret
      exact ⟨ret_b hQ.out, hB.out⟩

end Go.Proofs.YtlohdmghaeabjaaGreatDoor.value

