/- How two values compare: the program's Compare. -/
import Derived.Test.YtlohdmghaeabjaaGreatDoorKValG
namespace Go.Proofs.YtlohdmghaeabjaaGreatDoor.value
open Go.RowKit Go.Proofs.YtlohdmghaeabjaaGreatDoor.text

theorem cmpI_lib (x y : Int) : Lib.compareInt x y = cmpI x y := rfl

set_option maxHeartbeats 2000000 in
theorem nan_any (s : ByteArray) (w : World) : Calls Tryz.prog 94 #[.string s] w fun e w' => e = .returned (.bool false) ∧ w' = w := by
  go_enter Tryz.func94, Tryz.ntmps94
  have e : (s.toList != s.toList) = false := by simp
  go_wp2
  go_ret
  exact ⟨rfl, rfl⟩

theorem cmpT_gt {a b : List UInt8} (h1 : Op.bytesLess a b = false) (h2 : Op.bytesLess b a = true) : cmpT a b = 1 := by rw [cmpT, h1, h2]; rfl
theorem cmpT_lt {a b : List UInt8} (h1 : Op.bytesLess a b = true) : cmpT a b = -1 := by rw [cmpT, h1]; rfl
theorem cmpT_eq {a b : List UInt8} (h1 : Op.bytesLess a b = false) (h2 : Op.bytesLess b a = false) : cmpT a b = 0 := by rw [cmpT, h1, h2]; rfl

set_option maxHeartbeats 2000000 in
theorem cmpT_any (s t : ByteArray) (w : World) : Calls Tryz.prog 74 #[.string s, .string t] w fun e w' => e = .returned (.int .i64 (cmpT s.data.toList t.data.toList)) ∧ w' = w := by
  go_enter Tryz.func74, Tryz.ntmps74
  go_wp2_with fail
  refine (nan_any s _).mono ?_
  rintro e w1 ⟨rfl, rfl⟩
  go_wp2_with fail
  refine (nan_any t _).mono ?_
  rintro e w1 ⟨rfl, rfl⟩
  cases h1 : Op.bytesLess s.data.toList t.data.toList with
  | true =>
    have hQ := Lib.hid (cmpT_lt h1)
    have hb : Op.bytesLess s.toList t.toList = true := by rw [ByteArray.toList_eq, ByteArray.toList_eq]; exact h1
    clear h1
    go_wp2
    go_ret
    exact ⟨ret_i hQ.out, rfl⟩
  | false =>
    have hb : Op.bytesLess s.toList t.toList = false := by rw [ByteArray.toList_eq, ByteArray.toList_eq]; exact h1
    have h3 := less_tri t.data.toList s.data.toList
    rw [h1, Bool.false_or] at h3
    cases h2 : (s.data.toList == t.data.toList) with
    | false =>
      have he : (!s.toList == t.toList) = true := by rw [ByteArray.toList_eq, ByteArray.toList_eq, h2]; rfl
      have hQ := Lib.hid (cmpT_gt h1 (by rw [h3, h2]; rfl))
      clear h1 h2 h3
      go_wp2
      go_ret
      exact ⟨ret_i hQ.out, rfl⟩
    | true =>
      have he : (!s.toList == t.toList) = false := by rw [ByteArray.toList_eq, ByteArray.toList_eq, h2]; rfl
      have hQ := Lib.hid (cmpT_eq h1 (by rw [h3, h2]; rfl))
      clear h1 h2 h3
      go_wp2
      go_ret
      exact ⟨ret_i hQ.out, rfl⟩

theorem cmpI_ne {x y : Int} (h : ¬ x = y) : (cmpI x y != 0) = true := by
  unfold cmpI
  by_cases h1 : x < y
  · rw [if_pos h1]; rfl
  · rw [if_neg h1, if_pos (by omega)]; rfl
theorem cmpI_eq (x : Int) : cmpI x x = 0 := by unfold cmpI; simp

set_option maxRecDepth 100000 in
set_option maxHeartbeats 4000000 in
theorem slices_cmp (m n : Nat) (x0 x1 x2 y0 y1 y2 : Int) (w : World)
    (hx : w.cell? ⟨m, 0, none⟩ = some (.int .i64 x0) ∧ w.cell? ⟨m, 1, none⟩ = some (.int .i64 x1) ∧ w.cell? ⟨m, 2, none⟩ = some (.int .i64 x2))
    (hy : w.cell? ⟨n, 0, none⟩ = some (.int .i64 y0) ∧ w.cell? ⟨n, 1, none⟩ = some (.int .i64 y1) ∧ w.cell? ⟨n, 2, none⟩ = some (.int .i64 y2)) :
    Calls Tryz.prog 76 #[.slice (some ⟨m, 0, none⟩) 3 3, .slice (some ⟨n, 0, none⟩) 3 3] w fun e w' => e = .returned (.int .i64 (cmpV (some (x0, x1, x2)) (some (y0, y1, y2)))) ∧ w' = w := by
  obtain ⟨a0, a1, a2⟩ := hx
  obtain ⟨b0, b1, b2⟩ := hy
  go_enter Tryz.func76, Tryz.ntmps76
  go_wp2
  go_loopw [11] (fun i wr => wr = w ∧ (i = .int .i64 0 ∨ (i = .int .i64 1 ∧ x0 = y0) ∨ (i = .int .i64 2 ∧ x0 = y0 ∧ x1 = y1) ∨ (i = .int .i64 3 ∧ x0 = y0 ∧ x1 = y1 ∧ x2 = y2))) (fun i _ => 3 - (intOf i).toNat)
  case atStart => exact ⟨rfl, Or.inl rfl⟩
  case round =>
    obtain ⟨rfl, hrel⟩ := hrel
    rcases hrel with rfl | ⟨rfl, rfl⟩ | ⟨rfl, rfl, rfl⟩ | ⟨rfl, rfl, rfl, rfl⟩
    · go_wp2_with fail
      refine (Tryz.cmp_Compare_int x0 y0 _).mono ?_
      rintro e w1 ⟨rfl, rfl⟩
      rw [cmpI_lib]
      by_cases h : x0 = y0
      · subst h
        rw [cmpI_eq]
        go_wp2
        go_roundw
        case rel => simp
        case measure => simp [intOf]
      · have hn := cmpI_ne h
        have hQ := Lib.hid (show cmpV (some (x0, x1, x2)) (some (y0, y1, y2)) = cmpI x0 y0 by simp [cmpV, h])
        clear h
        generalize cmpI x0 y0 = z at hn hQ ⊢
        go_wp2
        go_ret
        exact ⟨ret_i hQ.out, rfl⟩
    · go_wp2_with fail
      refine (Tryz.cmp_Compare_int x1 y1 _).mono ?_
      rintro e w1 ⟨rfl, rfl⟩
      rw [cmpI_lib]
      by_cases h : x1 = y1
      · subst h
        rw [cmpI_eq]
        go_wp2
        go_roundw
        case rel => simp
        case measure => simp [intOf]
      · have hn := cmpI_ne h
        have hQ := Lib.hid (show cmpV (some (x0, x1, x2)) (some (x0, y1, y2)) = cmpI x1 y1 by simp [cmpV, h])
        clear h
        generalize cmpI x1 y1 = z at hn hQ ⊢
        go_wp2
        go_ret
        exact ⟨ret_i hQ.out, rfl⟩
    · go_wp2_with fail
      refine (Tryz.cmp_Compare_int x2 y2 _).mono ?_
      rintro e w1 ⟨rfl, rfl⟩
      rw [cmpI_lib]
      by_cases h : x2 = y2
      · subst h
        rw [cmpI_eq]
        go_wp2
        go_roundw
        case rel => simp
        case measure => simp [intOf]
      · have hn := cmpI_ne h
        have hQ := Lib.hid (show cmpV (some (x0, x1, x2)) (some (x0, x1, y2)) = cmpI x2 y2 by simp [cmpV])
        clear h
        generalize cmpI x2 y2 = z at hn hQ ⊢
        go_wp2
        go_ret
        exact ⟨ret_i hQ.out, rfl⟩
    · go_wp2
      go_ret
      exact ⟨by simp [cmpV, cmpI_eq], rfl⟩

/-- What Compare gives. -/
def cmpR (a b : VV) : Value := .tuple #[.int .i64 (compareS a b).1, .int .i64 (compareS a b).2]
theorem cmpR_a {a b : VV} (h : ¬ checkS a = 0) : cmpR a b = .tuple #[.int .i64 0, .int .i64 (checkS a)] := by unfold cmpR compareS; rw [if_pos h]
theorem cmpR_b {a b : VV} (h : checkS a = 0) (h2 : ¬ checkS b = 0) : cmpR a b = .tuple #[.int .i64 0, .int .i64 (checkS b)] := by unfold cmpR compareS; rw [if_neg (by simp [h]), if_pos h2]
theorem cmpR_k {a b : VV} (h : checkS a = 0) (h2 : checkS b = 0) (h3 : a.k ≠ b.k ∨ a.k = 1 ∨ a.k = 5) : cmpR a b = .tuple #[.int .i64 0, .int .i64 8] := by
  unfold cmpR compareS; rw [if_neg (by simp [h]), if_neg (by simp [h2]), if_pos h3]
theorem cmpR_n {a b : VV} (h : checkS a = 0) (h2 : checkS b = 0) (h3 : a.k = 2) (h4 : b.k = 2) : cmpR a b = .tuple #[.int .i64 (cmpI a.n b.n), .int .i64 0] := by
  unfold cmpR compareS; simp [h, h2, h3, h4]
theorem cmpR_t {a b : VV} (h : checkS a = 0) (h2 : checkS b = 0) (h3 : a.k = 3) (h4 : b.k = 3) : cmpR a b = .tuple #[.int .i64 (cmpT a.t b.t), .int .i64 0] := by
  unfold cmpR compareS; simp [h, h2, h3, h4]
theorem cmpR_v {a b : VV} (h : checkS a = 0) (h2 : checkS b = 0) (h3 : a.k = 4) (h4 : b.k = 4) : cmpR a b = .tuple #[.int .i64 (cmpV (verS a.t) (verS b.t)), .int .i64 0] := by
  unfold cmpR compareS; simp [h, h2, h3, h4]
theorem kind_of {a : VV} (h : checkS a = 0) : 1 ≤ a.k ∧ a.k ≤ 5 := by
  by_cases hk : a.k < 1 ∨ 5 < a.k
  · rw [c_kind hk] at h; cases h
  · omega
theorem ver_of {a : VV} (h : checkS a = 0) (hk : a.k = 4) : ∃ x y z, verS a.t = some (x, y, z) := by
  by_cases hs : shapeS a = true
  · rw [c_4 hs hk] at h
    cases hv : verS a.t with
    | none => rw [hv] at h; cases h
    | some p => obtain ⟨x, y, z⟩ := p; exact ⟨x, y, z, rfl⟩
  · rw [c_shape (by omega) (by simpa using hs)] at h; cases h
theorem verV_of {l : List UInt8} {x y z : Int} (h : verS l = some (x, y, z)) : verV l = .tuple #[.agg #[.int .i64 x, .int .i64 y, .int .i64 z], .bool true] := by rw [verV, h]
/-- Which ways two valid values go. -/
theorem two_ways {a b : VV} (ha : checkS a = 0) (hb : checkS b = 0) :
    (a.k ≠ b.k ∧ Hid (cmpR a b = .tuple #[.int .i64 0, .int .i64 8])) ∨ (a.k = 1 ∧ b.k = 1 ∧ Hid (cmpR a b = .tuple #[.int .i64 0, .int .i64 8])) ∨ (a.k = 5 ∧ b.k = 5 ∧ Hid (cmpR a b = .tuple #[.int .i64 0, .int .i64 8])) ∨
    (a.k = 2 ∧ b.k = 2 ∧ Hid (cmpR a b = .tuple #[.int .i64 (cmpI a.n b.n), .int .i64 0])) ∨ (a.k = 3 ∧ b.k = 3 ∧ Hid (cmpR a b = .tuple #[.int .i64 (cmpT a.t b.t), .int .i64 0])) ∨
    (a.k = 4 ∧ b.k = 4 ∧ ∃ x y z x' y' z', Hid (verV a.t = .tuple #[.agg #[.int .i64 x, .int .i64 y, .int .i64 z], .bool true]) ∧ Hid (verV b.t = .tuple #[.agg #[.int .i64 x', .int .i64 y', .int .i64 z'], .bool true]) ∧ Hid (cmpR a b = .tuple #[.int .i64 (cmpV (some (x, y, z)) (some (x', y', z'))), .int .i64 0])) := by
  have h := kind_of ha
  by_cases he : a.k = b.k
  · rcases (show a.k = 1 ∨ a.k = 2 ∨ a.k = 3 ∨ a.k = 4 ∨ a.k = 5 by omega) with h | h | h | h | h
    · exact Or.inr (Or.inl ⟨h, he ▸ h, cmpR_k ha hb (Or.inr (Or.inl h))⟩)
    · exact Or.inr (Or.inr (Or.inr (Or.inl ⟨h, he ▸ h, cmpR_n ha hb h (he ▸ h)⟩)))
    · exact Or.inr (Or.inr (Or.inr (Or.inr (Or.inl ⟨h, he ▸ h, cmpR_t ha hb h (he ▸ h)⟩))))
    · obtain ⟨x, y, z, hx⟩ := ver_of ha h
      obtain ⟨x', y', z', hy⟩ := ver_of hb (he ▸ h)
      refine Or.inr (Or.inr (Or.inr (Or.inr (Or.inr ⟨h, he ▸ h, x, y, z, x', y', z', verV_of hx, verV_of hy, ?_⟩))))
      show _ = _
      rw [cmpR_v ha hb h (he ▸ h), hx, hy]
    · exact Or.inr (Or.inr (Or.inl ⟨h, he ▸ h, cmpR_k ha hb (Or.inr (Or.inr h))⟩))
  · exact Or.inl ⟨he, cmpR_k ha hb (Or.inl he)⟩

theorem ret_v {a b : Value} (h : a = b) : Ending.returned b = .returned a := by rw [h]

set_option maxRecDepth 100000 in
set_option maxHeartbeats 4000000 in
theorem compare_any (a b : VV) (ta tb : ByteArray) (la lb : Option Addr) (ca cb : Nat) (xs ys : List ByteArray) (w : World) (hA : VOk w a ta la xs) (hB : VOk w b tb lb ys)
    (ma : xs.length ≤ 9223372036854775807) (mb : ys.length ≤ 9223372036854775807) (sa : ta.size < 4294967281) (sb : tb.size < 4294967281) (hT : Tabs w) :
    Calls Tryz.prog 45 #[.agg #[.int .i64 a.k, .int .i64 a.n, .string ta, .slice la xs.length ca], .agg #[.int .i64 b.k, .int .i64 b.n, .string tb, .slice lb ys.length cb]] w
      fun e w' => e = .returned (cmpR a b) ∧ Below w.heap.size w w' := by
  have eA := Lib.hid hA.text
  have eB := Lib.hid hB.text
  replace hT := Lib.hid hT
  replace hA := Lib.hid hA
  replace hB := Lib.hid hB
  have hOA := Lib.hid (show Own ((w.alloc (.cells #[.int .i64 a.k, .int .i64 a.n, .string ta, .slice la xs.length ca] 43)).alloc (.cells #[.int .i64 b.k, .int .i64 b.n, .string tb, .slice lb ys.length cb] 43)) w.heap.size #[.int .i64 a.k, .int .i64 a.n, .string ta, .slice la xs.length ca] 43 from (Own.new w _ _).alloc _)
  have hOB := Lib.hid (show Own ((w.alloc (.cells #[.int .i64 a.k, .int .i64 a.n, .string ta, .slice la xs.length ca] 43)).alloc (.cells #[.int .i64 b.k, .int .i64 b.n, .string tb, .slice lb ys.length cb] 43)) (w.heap.size + 1) #[.int .i64 b.k, .int .i64 b.n, .string tb, .slice lb ys.length cb] 43 from Own.new' (by simp))
  have hW := Lib.hid (show Below w.heap.size w ((w.alloc (.cells #[.int .i64 a.k, .int .i64 a.n, .string ta, .slice la xs.length ca] 43)).alloc (.cells #[.int .i64 b.k, .int .i64 b.n, .string tb, .slice lb ys.length cb] 43)) from ((Below.refl _ _).alloc (Nat.le_refl _) _).alloc (by simp) _)
  go_enter Tryz.func45, Tryz.ntmps45
  go_wp2_with fail
  refine (check_any a ta la ca xs _ (hA.out.below hW.out) ma sa (hT.out.below hW.out)).mono ?_
  rintro e w1 ⟨rfl, hb1⟩
  have hOA1 := Lib.hid (hOA.out.below hb1 hOA.out.lt)
  have hOB1 := Lib.hid (hOB.out.below hb1 hOB.out.lt)
  have hW1 := Lib.hid (hW.out.trans (hb1.mono hW.out.size))
  clear hOA hOB hW hb1
  obtain ⟨a0, a1, a2, a3⟩ := box4 hOA1.out
  obtain ⟨b0, b1, b2, b3⟩ := box4 hOB1.out
  by_cases ea : checkS a = 0
  case neg =>
    have hQ := Lib.hid (cmpR_a (b := b) ea)
    have e1 : (checkS a != 0) = true := by simp [ea]
    clear ea
    generalize checkS a = ca at e1 hQ ⊢
    go_wp2
    go_ret2
    exact ⟨ret_v hQ.out, hW1.out⟩
  rw [ea]
  go_wp2_with fail
  refine (check_any b tb lb cb ys _ (hB.out.below hW1.out) mb sb (hT.out.below hW1.out)).mono ?_
  rintro e w2 ⟨rfl, hb2⟩
  have hOA2 := Lib.hid (hOA1.out.below hb2 hOA1.out.lt)
  have hOB2 := Lib.hid (hOB1.out.below hb2 hOB1.out.lt)
  have hW2 := Lib.hid (hW1.out.trans (hb2.mono hW1.out.size))
  clear hOA1 hOB1 hW1 hb2 a0 a1 a2 a3 b0 b1 b2 b3
  obtain ⟨a0, a1, a2, a3⟩ := box4 hOA2.out
  obtain ⟨b0, b1, b2, b3⟩ := box4 hOB2.out
  by_cases eb : checkS b = 0
  case neg =>
    have hQ := Lib.hid (cmpR_b (b := b) ea eb)
    have e1 : (checkS b != 0) = true := by simp [eb]
    clear eb ea
    generalize checkS b = cb at e1 hQ ⊢
    go_wp2
    go_ret2
    exact ⟨ret_v hQ.out, hW2.out⟩
  rw [eb]
  have hways := two_ways ea eb
  clear ea eb
  rcases hways with ⟨hk, hQ⟩ | ⟨hk, hk2, hQ⟩ | ⟨hk, hk2, hQ⟩ | ⟨hk, hk2, hQ⟩ | ⟨hk, hk2, hQ⟩ | ⟨hk, hk2, x, y, z, x', y', z', hX, hY, hQ⟩
  · have e1 : (a.k != b.k) = true := by simp [hk]
    go_wp2
    go_ret2
    exact ⟨ret_v hQ.out, hW2.out⟩
  · rw [hk] at a0
    rw [hk2] at b0
    go_wp2
    go_ret2
    exact ⟨ret_v hQ.out, hW2.out⟩
  · rw [hk] at a0
    rw [hk2] at b0
    go_wp2
    go_ret2
    exact ⟨ret_v hQ.out, hW2.out⟩
  · rw [hk] at a0
    rw [hk2] at b0
    go_wp2_with fail
    refine (Tryz.cmp_Compare_int a.n b.n _).mono ?_
    rintro e w3 ⟨rfl, rfl⟩
    rw [cmpI_lib]
    go_wp2
    go_ret2
    exact ⟨ret_v hQ.out, hW2.out⟩
  · rw [hk] at a0
    rw [hk2] at b0
    go_wp2_with fail
    refine (cmpT_any ta tb _).mono ?_
    rintro e w3 ⟨rfl, rfl⟩
    rw [eA.out, eB.out]
    go_wp2
    go_ret2
    exact ⟨ret_v hQ.out, hW2.out⟩
  · rw [hk] at a0
    rw [hk2] at b0
    go_wp2_with fail
    refine (parts_any ta _ sa (hT.out.below hW2.out)).mono ?_
    rintro e w3 ⟨rfl, hb3⟩
    rw [eA.out, hX.out]
    have hOB3 := Lib.hid ((hOB2.out.below hb3 hOB2.out.lt).alloc (.cells #[.int .i64 x, .int .i64 y, .int .i64 z] 104))
    have hP3 := Lib.hid (Own.new w3 #[.int .i64 x, .int .i64 y, .int .i64 z] 104)
    have hW3 := Lib.hid ((hW2.out.trans (hb3.mono hW2.out.size)).alloc (by have := hb3.size; have := hW2.out.size; omega) (.cells #[.int .i64 x, .int .i64 y, .int .i64 z] 104))
    have hn := Lib.hid (show w.heap.size ≤ w3.heap.size by have := hb3.size; have := hW2.out.size; omega)
    clear hOA2 hOB2 hW2 a0 a1 a2 a3 b0 b1 b2 b3 hb3
    obtain ⟨b0, b1, b2, b3⟩ := box4 hOB3.out
    go_wp2_with fail
    refine (parts_any tb _ sb (hT.out.below hW3.out)).mono ?_
    rintro e w4 ⟨rfl, hb4⟩
    rw [eB.out, hY.out]
    obtain ⟨n, hn2⟩ : ∃ n, Hid (n = w3.heap.size) := ⟨_, rfl⟩
    have hP4 := Lib.hid ((hP3.out.below hb4 hP3.out.lt).alloc (.cells #[.int .i64 x', .int .i64 y', .int .i64 z'] 104))
    have hR4 := Lib.hid (Own.new w4 #[.int .i64 x', .int .i64 y', .int .i64 z'] 104)
    have hW4 := Lib.hid ((hW3.out.trans (hb4.mono hW3.out.size)).alloc (by have := hb4.size; have := hW3.out.size; omega) (.cells #[.int .i64 x', .int .i64 y', .int .i64 z'] 104))
    clear hOB3 hP3 hW3 b0 b1 b2 b3 hb4 hn2
    obtain ⟨p0, p1, p2, -, -, -⟩ := own3 hP4.out
    obtain ⟨q0, q1, q2, -, -, -⟩ := own3 hR4.out
    have cK := Lib.hid (fun n => slices_cmp w3.heap.size w4.heap.size x y z x' y' z' ((w4.alloc (.cells #[.int .i64 x', .int .i64 y', .int .i64 z'] 104)).drewN n) ⟨p0, p1, p2⟩ ⟨q0, q1, q2⟩)
    clear p0 p1 p2 q0 q1 q2 hP4 hR4
    go_wp2_with fail
    go_quiet (exact Calls.quiet_of_same (cK.out _))
    go_wp2
    go_ret2
    exact ⟨ret_v hQ.out, bel_drew hW4.out _⟩

end Go.Proofs.YtlohdmghaeabjaaGreatDoor.value

