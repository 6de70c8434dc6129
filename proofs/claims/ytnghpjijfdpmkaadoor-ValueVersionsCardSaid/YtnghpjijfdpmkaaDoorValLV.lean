/- The law ValueVersions: versions compare by their parts, the first one first, and what the parts are. -/
import Derived.Test.YtnghpjijfdpmkaaDoorValL
import Derived.Test.YtnghpjijfdpmkaaDoorValV
import Derived.Test.YtnghpjijfdpmkaaDoorValM
import Derived.Deep.RegionLaw
import Derived.Deep.DrawnRows
import Derived.Deep.DeepCutAuto
import Derived.Deep.CutBlock
namespace Go.Proofs.YtnghpjijfdpmkaaDoor.law
open Go.RowKit Go.Proofs.YtnghpjijfdpmkaaDoor.text Go.Proofs.YtnghpjijfdpmkaaDoor.value
attribute [local go_sem ↓] Go.wp_at_zero Go.wp_at_succ

/-- Another value at place k. -/
def upd (X : Nat → Int) (k : Nat) (v : Int) : Nat → Int := fun j => if j = k then v else X j
def arr3 (X : Nat → Int) : Array Value := #[.int .i64 (X 0), .int .i64 (X 1), .int .i64 (X 2)]
theorem arr3_set (X : Nat → Int) (k : Nat) (hk : k < 3) (v : Int) : (arr3 X).setIfInBounds k (.int .i64 v) = arr3 (upd X k v) := by
  rcases (show k = 0 ∨ k = 1 ∨ k = 2 by omega) with rfl | rfl | rfl <;> simp [arr3, upd]
theorem arr3_get (X : Nat → Int) (k : Nat) (hk : k < 3) : (arr3 X)[k]? = some (.int .i64 (X k)) := by
  rcases (show k = 0 ∨ k = 1 ∨ k = 2 by omega) with rfl | rfl | rfl <;> rfl
/-- The first k numbers with periods. -/
def preV (X : Nat → Int) : Nat → List UInt8
  | 0 => []
  | 1 => Lib.itoa (X 0)
  | 2 => Lib.itoa (X 0) ++ 46 :: Lib.itoa (X 1)
  | _ => ver3 (X 0) (X 1) (X 2)
/-- How the first k numbers compare. -/
def cmpK (X Y : Nat → Int) : Nat → Int
  | 0 => 0
  | k + 1 => if cmpK X Y k = 0 then cmpI (X k) (Y k) else cmpK X Y k
theorem cmpI_01 (a b : Int) : cmpI a b = 0 ↔ a = b := by
  unfold cmpI
  by_cases h1 : a < b
  · rw [if_pos h1]; omega
  · by_cases h2 : b < a
    · rw [if_neg h1, if_pos h2]; omega
    · rw [if_neg h1, if_neg h2]; omega
theorem cmpK_three (X Y : Nat → Int) : cmpK X Y 3 = cmpV (some (X 0, X 1, X 2)) (some (Y 0, Y 1, Y 2)) := by
  simp only [cmpK, cmpV]
  by_cases h0 : X 0 = Y 0
  · have e0 := (cmpI_01 _ _).2 h0
    by_cases h1 : X 1 = Y 1
    · have e1 := (cmpI_01 _ _).2 h1
      simp [h0, h1, cmpI_eq]
    · have e1 : ¬ cmpI (X 1) (Y 1) = 0 := fun e => h1 ((cmpI_01 _ _).1 e)
      simp [h0, h1, cmpI_eq, e1]
  · have e0 : ¬ cmpI (X 0) (Y 0) = 0 := fun e => h0 ((cmpI_01 _ _).1 e)
    simp [h0, e0]
theorem preV_next (X : Nat → Int) (k : Nat) (h0 : 0 < k) (h3 : k < 3) : preV X (k + 1) = preV X k ++ 46 :: Lib.itoa (X k) := by
  rcases (show k = 1 ∨ k = 2 by omega) with rfl | rfl
  · rfl
  · simp [preV, ver3]

theorem preV_upd (X : Nat → Int) (k : Nat) (hk : k < 3) (v : Int) : preV (upd X k v) k = preV X k := by
  rcases (show k = 0 ∨ k = 1 ∨ k = 2 by omega) with rfl | rfl | rfl <;> simp [preV, upd]
theorem cmpK_upd (X Y : Nat → Int) (k : Nat) (hk : k < 3) (v u : Int) : cmpK (upd X k v) (upd Y k u) k = cmpK X Y k := by
  rcases (show k = 0 ∨ k = 1 ∨ k = 2 by omega) with rfl | rfl | rfl <;> simp [cmpK, upd]
theorem upd_self (X : Nat → Int) (k : Nat) (v : Int) : upd X k v k = v := by simp [upd]
theorem upd_ne (X : Nat → Int) (k j : Nat) (v : Int) (h : j ≠ k) : upd X k v j = X j := by simp [upd, h]
theorem upd_same (X : Nat → Int) (k : Nat) : upd X k (X k) = X := by
  funext j
  by_cases h : j = k
  · subst h; simp [upd]
  · simp [upd, h]

theorem blw_drewN {B : Nat} {a w : World} (h : Below B a w) (q : Nat) : Below B a (w.drewN q) := ⟨h.os, h.tape, h.output, h.size, h.block⟩
/-- What holds at the head of a round, and (m = k + 1) behind its first statement. -/
structure VRel (w wr : World) (n k m : Nat) (X Y : Nat → Int) (S T : ByteArray) (c : Int) : Prop where
  base : w.heap.size ≤ n
  ox : Own wr n (arr3 X) 53
  oy : Own wr (n + 1) (arr3 Y) 53
  below : Below w.heap.size w wr
  big : ∀ j, (-9223372036854775808 ≤ X j ∧ X j ≤ 9223372036854775807) ∧ (-9223372036854775808 ≤ Y j ∧ Y j ≤ 9223372036854775807)
  low : ∀ j, j < m → (0 ≤ X j ∧ X j ≤ 999999) ∧ (0 ≤ Y j ∧ Y j ≤ 999999)
  s : S.data.toList = preV X k
  t : T.data.toList = preV Y k
  c : c = cmpK X Y k
theorem VRel.world {w wr wu : World} {n k m : Nat} {X Y : Nat → Int} {S T : ByteArray} {c : Int} (h : VRel w wr n k m X Y S T c) (hb : Below w.heap.size w wu) (hx : wu.heap = wr.heap) : VRel w wu n k m X Y S T c :=
  ⟨h.base, by have := h.ox; unfold Own at *; rw [hx]; exact this, by have := h.oy; unfold Own at *; rw [hx]; exact this, hb, h.big, h.low, h.s, h.t, h.c⟩
theorem VRel.drewN {w wr : World} {n k m : Nat} {X Y : Nat → Int} {S T : ByteArray} {c : Int} (h : VRel w wr n k m X Y S T c) (d : Nat) : VRel w (wr.drewN d) n k m X Y S T c :=
  h.world (blw_drewN h.below d) rfl
theorem VRel.put {w wr : World} {n k : Nat} {X Y : Nat → Int} {S T : ByteArray} {c : Int} (h : VRel w wr n k k X Y S T c) (hk : k < 3) (x y : Int) (hx : 0 ≤ x ∧ x ≤ 999999) (hy : 0 ≤ y ∧ y ≤ 999999) :
    VRel w ((wr.setCell ⟨n, k, none⟩ (.int .i64 x)).setCell ⟨n + 1, k, none⟩ (.int .i64 y)) n k (k + 1) (upd X k x) (upd Y k y) S T c := by
  refine ⟨h.base, ?_, ?_, (h.below.setCell h.base _).setCell (by have := h.base; show w.heap.size ≤ n + 1; omega) _, ?_, ?_, ?_, ?_, ?_⟩
  · rw [← arr3_set X k hk x]
    exact (h.ox.set k _).setOther (by show n ≠ n + 1; omega) _
  · rw [← arr3_set Y k hk y]
    exact (h.oy.setOther (by show n + 1 ≠ n; omega) _).set k _
  · intro j
    by_cases e : j = k
    · subst e; rw [upd_self, upd_self]; omega
    · rw [upd_ne _ _ _ _ e, upd_ne _ _ _ _ e]; exact h.big j
  · intro j hj
    by_cases e : j = k
    · subst e; rw [upd_self, upd_self]; exact ⟨hx, hy⟩
    · rw [upd_ne _ _ _ _ e, upd_ne _ _ _ _ e]; exact h.low j (by omega)
  · rw [preV_upd _ _ hk]; exact h.s
  · rw [preV_upd _ _ hk]; exact h.t
  · rw [cmpK_upd _ _ _ hk]; exact h.c
theorem VRel.putY {w wr : World} {n k : Nat} {X Y : Nat → Int} {S T : ByteArray} {c : Int} (h : VRel w wr n k (k + 1) X Y S T c) (hk : k < 3) :
    VRel w (wr.setCell ⟨n + 1, k, none⟩ (.int .i64 (X k))) n k (k + 1) X (upd Y k (X k)) S T c := by
  refine ⟨h.base, h.ox.setOther (by show n ≠ n + 1; omega) _, ?_, h.below.setCell (by have := h.base; show w.heap.size ≤ n + 1; omega) _, ?_, ?_, h.s, ?_, ?_⟩
  · rw [← arr3_set Y k hk]
    exact h.oy.set k _
  · intro j
    by_cases e : j = k
    · subst e; rw [upd_self]; exact ⟨(h.big j).1, (h.big j).1⟩
    · rw [upd_ne _ _ _ _ e]; exact h.big j
  · intro j hj
    by_cases e : j = k
    · subst e; rw [upd_self]; exact ⟨(h.low j hj).1, (h.low j hj).1⟩
    · rw [upd_ne _ _ _ _ e]; exact h.low j hj
  · rw [preV_upd _ _ hk]; exact h.t
  · have := cmpK_upd X Y k hk (X k) (X k)
    rw [upd_same] at this
    rw [this]; exact h.c
/-- The texts grow by a number. -/
theorem VRel.next {w wr : World} {n k : Nat} {X Y : Nat → Int} {S T S' T' : ByteArray} {c c' : Int} (h : VRel w wr n k (k + 1) X Y S T c)
    (hS : S'.data.toList = preV X (k + 1)) (hT : T'.data.toList = preV Y (k + 1)) (hc : c' = cmpK X Y (k + 1)) : VRel w wr n (k + 1) (k + 1) X Y S' T' c' :=
  ⟨h.base, h.ox, h.oy, h.below, h.big, h.low, hS, hT, hc⟩
theorem preV_len (X : Nat → Int) (k : Nat) (hk : k ≤ 3) (h : ∀ j, j < k → 0 ≤ X j ∧ X j ≤ 999999) : (preV X k).length ≤ 7 * k := by
  rcases (show k = 0 ∨ k = 1 ∨ k = 2 ∨ k = 3 by omega) with rfl | rfl | rfl | rfl
  · simp [preV]
  · have := itoa_short (h 0 (by omega)).1 (h 0 (by omega)).2
    simp [preV]; omega
  · have h0 := itoa_short (h 0 (by omega)).1 (h 0 (by omega)).2
    have h1 := itoa_short (h 1 (by omega)).1 (h 1 (by omega)).2
    simp [preV]; omega
  · have h0 := itoa_short (h 0 (by omega)).1 (h 0 (by omega)).2
    have h1 := itoa_short (h 1 (by omega)).1 (h 1 (by omega)).2
    have h2 := itoa_short (h 2 (by omega)).1 (h 2 (by omega)).2
    simp [preV, ver3]; omega
theorem VRel.sizes {w wr : World} {n k m : Nat} {X Y : Nat → Int} {S T : ByteArray} {c : Int} (h : VRel w wr n k m X Y S T c) (hk : k ≤ 3) (hm : k ≤ m) : S.size ≤ 21 ∧ T.size ≤ 21 := by
  have h1 := preV_len X k hk (fun j hj => (h.low j (by omega)).1)
  have h2 := preV_len Y k hk (fun j hj => (h.low j (by omega)).2)
  rw [← h.s] at h1
  rw [← h.t] at h2
  have e1 : S.size = S.data.toList.length := by show S.data.size = _; rw [Array.length_toList]
  have e2 : T.size = T.data.toList.length := by show T.data.size = _; rw [Array.length_toList]
  omega

theorem VRel.close0 {w wr : World} {n : Nat} {X Y : Nat → Int} {S T : ByteArray} {c c' : Int} (h : VRel w wr n 0 1 X Y S T c) (d : Nat) (hc : c' = cmpK X Y 1) :
    VRel w (wr.drewN d) n 1 1 X Y (S ++ ⟨(Lib.itoa (X 0)).toArray⟩) (T ++ ⟨(Lib.itoa (Y 0)).toArray⟩) c' := by
  refine (h.drewN d).next ?_ ?_ hc
  · have := h.s; simp only [preV] at this; simp [ByteArray.data_append, this, preV]
  · have := h.t; simp only [preV] at this; simp [ByteArray.data_append, this, preV]
theorem VRel.closeS {w wr : World} {n k : Nat} {X Y : Nat → Int} {S T : ByteArray} {c c' : Int} (h : VRel w wr n k (k + 1) X Y S T c) (h0 : 0 < k) (h3 : k < 3) (d : Nat) (hc : c' = cmpK X Y (k + 1)) :
    VRel w (wr.drewN d) n (k + 1) (k + 1) X Y (S ++ ⟨#[46]⟩ ++ ⟨(Lib.itoa (X k)).toArray⟩) (T ++ ⟨#[46]⟩ ++ ⟨(Lib.itoa (Y k)).toArray⟩) c' := by
  refine (h.drewN d).next ?_ ?_ hc
  · rw [preV_next X k h0 h3, ← h.s]; simp [ByteArray.data_append]
  · rw [preV_next Y k h0 h3, ← h.t]; simp [ByteArray.data_append]
/-- What Compare and Part give of the texts in the end. -/
theorem VRel.cmpR {w wr : World} {n m : Nat} {X Y : Nat → Int} {S T : ByteArray} {c : Int} (h : VRel w wr n 3 m X Y S T c) (hm : 3 ≤ m) :
    value.cmpR ⟨4, 0, S.data.toList, []⟩ ⟨4, 0, T.data.toList, []⟩ = .tuple #[.int .i64 c, .int .i64 0] := by
  have h0 := h.low 0 (by omega)
  have h1 := h.low 1 (by omega)
  have h2 := h.low 2 (by omega)
  unfold value.cmpR
  rw [h.s, h.t, h.c]
  show Value.tuple #[.int .i64 (compareS ⟨4, 0, ver3 (X 0) (X 1) (X 2), []⟩ ⟨4, 0, ver3 (Y 0) (Y 1) (Y 2), []⟩).1, .int .i64 (compareS ⟨4, 0, ver3 (X 0) (X 1) (X 2), []⟩ ⟨4, 0, ver3 (Y 0) (Y 1) (Y 2), []⟩).2] = _
  rw [compare_ver3 h0.1 h1.1 h2.1 h0.2 h1.2 h2.2, cmpK_three]
theorem VRel.partR {w wr : World} {n m : Nat} {X Y : Nat → Int} {S T : ByteArray} {c : Int} (h : VRel w wr n 3 m X Y S T c) (hm : 3 ≤ m) (i : Int) :
    ((i < 0 ∨ 3 ≤ i) ∧ Hid (value.partR S.data.toList i = .tuple #[.int .i64 0, .int .i64 3])) ∨ ∃ j : Nat, j < 3 ∧ i = (j : Int) ∧ Hid (value.partR S.data.toList i = .tuple #[.int .i64 (X j), .int .i64 0]) := by
  have h0 := h.low 0 (by omega)
  have h1 := h.low 1 (by omega)
  have h2 := h.low 2 (by omega)
  have e : verS S.data.toList = some (X 0, X 1, X 2) := by
    rw [h.s]
    exact verS_ver3 h0.1 h1.1 h2.1
  by_cases hi : i < 0 ∨ 3 ≤ i
  · refine Or.inl ⟨hi, Lib.hid ?_⟩
    unfold value.partR partS
    rw [e]
    simp only [if_pos hi]
  · refine Or.inr ⟨i.toNat, by omega, by omega, Lib.hid ?_⟩
    unfold value.partR partS
    rw [e]
    simp only [if_neg hi]
    rcases (show i = 0 ∨ i = 1 ∨ i = 2 by omega) with rfl | rfl | rfl <;> rfl

/-- What becomes of the comparison in a round. -/
theorem c_ways (X Y : Nat → Int) (k : Nat) (z : Int) (h : z = cmpK X Y k) :
    ((z == 0) = false ∧ Hid (z = cmpK X Y (k + 1))) ∨ (z = 0 ∧ X k < Y k ∧ Hid (-1 = cmpK X Y (k + 1))) ∨ (z = 0 ∧ Y k < X k ∧ Hid (1 = cmpK X Y (k + 1))) ∨ (z = 0 ∧ ¬ X k < Y k ∧ ¬ Y k < X k ∧ Hid (0 = cmpK X Y (k + 1))) := by
  by_cases hz : z = 0
  · have e : cmpK X Y (k + 1) = cmpI (X k) (Y k) := by rw [cmpK, if_pos (by rw [← h]; exact hz)]
    rw [e]
    unfold cmpI
    by_cases h1 : X k < Y k
    · exact Or.inr (Or.inl ⟨hz, h1, by rw [if_pos h1]; exact Lib.hid rfl⟩)
    · by_cases h2 : Y k < X k
      · exact Or.inr (Or.inr (Or.inl ⟨hz, h2, by rw [if_neg h1, if_pos h2]; exact Lib.hid rfl⟩))
      · exact Or.inr (Or.inr (Or.inr ⟨hz, h1, h2, by rw [if_neg h1, if_neg h2]; exact Lib.hid rfl⟩))
  · have e : cmpK X Y (k + 1) = cmpK X Y k := by rw [cmpK, if_neg (by rw [← h]; exact hz)]
    exact Or.inl ⟨by simpa using hz, Lib.hid (by rw [e]; exact h)⟩

set_option maxRecDepth 100000 in
set_option maxHeartbeats 8000000 in
theorem versions_walk (X0 Y0 : Nat → Int) (at' : Int) (w : World) (hX : ∀ j, (-9223372036854775808 ≤ X0 j ∧ X0 j ≤ 9223372036854775807) ∧ (-9223372036854775808 ≤ Y0 j ∧ Y0 j ≤ 9223372036854775807)) (hT : Tabs w) :
    Calls Tryd.prog 9 #[.agg #[.int .i64 (X0 0), .int .i64 (X0 1), .int .i64 (X0 2)], .agg #[.int .i64 (Y0 0), .int .i64 (Y0 1), .int .i64 (Y0 2)], .int .i64 at'] w fun e w' => e = .returned (.bool true) ∧ Below w.heap.size w w' := by
  replace hT := Lib.hid hT
  replace hX := Lib.hid hX
  have hB0 := Lib.hid (show Below w.heap.size w ((w.alloc (.cells (arr3 X0) 53)).alloc (.cells (arr3 Y0) 53)) from ((Below.refl _ _).alloc (Nat.le_refl _) _).alloc (by simp) _)
  have hOX := Lib.hid (show Own ((w.alloc (.cells (arr3 X0) 53)).alloc (.cells (arr3 Y0) 53)) w.heap.size (arr3 X0) 53 from (Own.new w _ _).alloc _)
  have hOY := Lib.hid (show Own ((w.alloc (.cells (arr3 X0) 53)).alloc (.cells (arr3 Y0) 53)) (w.heap.size + 1) (arr3 Y0) 53 from Own.new' (by simp))
  go_enter Tryd.func9, Tryd.ntmps9
  go_wp2_with fail
  refine (awake_any _ (hT.out.below hB0.out)).mono ?_
  rintro e w1 ⟨rfl, hb1⟩
  have hV := Lib.hid (show VRel w w1 w.heap.size 0 0 X0 Y0 ⟨#[]⟩ ⟨#[]⟩ 0 from ⟨Nat.le_refl _, hOX.out.below hb1 (by simp; omega), hOY.out.below hb1 (by simp), hB0.out.trans (hb1.mono (by simp; omega)), hX.out, fun j hj => by omega, rfl, rfl, rfl⟩)
  clear hB0 hOX hOY hb1 hX
  go_wp2
  generalize w.heap.size = n at hV ⊢
  go_loopw [7, 8, 9, 10] (fun s t c i wr => ∃ (k : Nat) (X Y : Nat → Int) (S T : ByteArray) (z : Int), k ≤ 3 ∧ i = .int .i64 k ∧ s = .string S ∧ t = .string T ∧ c = .int .i64 z ∧ Hid (VRel w wr n k k X Y S T z)) (fun _ _ _ i _ => 3 - (intOf i).toNat)
  case atStart => exact ⟨0, X0, Y0, _, _, 0, by omega, rfl, rfl, rfl, rfl, hV.out⟩
  case round =>
    clear hV
    obtain ⟨k, X, Y, S, T, z, hk, rfl, rfl, rfl, rfl, hV⟩ := hrel
    by_cases hlt : k < 3
    · have x0 := hV.out.ox.cell k
      rw [arr3_get X k hlt] at x0
      have y0 := hV.out.oy.cell k
      rw [arr3_get Y k hlt] at y0
      have fx := hV.out.ox.free k
      have fy := hV.out.oy.free k
      have cX := Lib.hid (fun u : World => mod_eq (X k) 1000000 u (by omega) (by omega) (hV.out.big k).1.1 (hV.out.big k).1.2)
      have cY := Lib.hid (fun u : World => mod_eq (Y k) 1000000 u (by omega) (by omega) (hV.out.big k).2.1 (hV.out.big k).2.2)
      have n1 : (0 : Int) ≤ (k : Int) := Int.natCast_nonneg _
      have n2 : (k : Int) < 3 := by omega
      go_upto_region 8 with fail
      go_cut [] (fun wx => Hid (VRel w wx n k (k + 1) (upd X k (X k % 1000000)) (upd Y k (Y k % 1000000)) S T z))
      case first =>
        go_region_law ((go_simp; go_at_call 27; (first | with_reducible refine Calls.mono (cX.out _) ?_ | with_reducible refine Calls.mono (cY.out _) ?_); (rintro e w' ⟨rfl, rfl⟩)))
        all_goals
          go_wp2_with fail
          go_meet
          refine Lib.hid ((hV.out.put hlt (X k % 1000000) (Y k % 1000000) (by omega) (by omega)).world ?_ rfl)
          exact (((blw_drewN hV.out.below 1).setCell hV.out.base _).setCell (by have := hV.out.base; show w.heap.size ≤ n + 1; omega) _)
      case rest =>
        clear hV x0 y0 fx fy cX cY
        generalize upd X k (X k % 1000000) = X at hcut
        generalize upd Y k (Y k % 1000000) = Y at hcut
        have hV := hcut
        clear hcut
        have x0 := hV.out.ox.cell k
        rw [arr3_get X k hlt] at x0
        have fy := hV.out.oy.free k
        have yy := hV.out.oy.cell k
        rw [arr3_get Y k hlt] at yy
        have x1 := (hV.out.low k (by omega)).1.1
        have x2 := (hV.out.low k (by omega)).1.2
        go_upto_if 37 with fail
        go_cut [] (fun wx => ∃ Y', Hid (VRel w wx n k (k + 1) X Y' S T z))
        case first =>
          go_wp2
          · go_meet
            exact ⟨_, Lib.hid (hV.out.putY hlt)⟩
          · go_meet
            exact ⟨_, hV⟩
        case rest =>
          clear hV x0 fy yy x1 x2
          obtain ⟨Y', hV⟩ := hcut
          have x0 := hV.out.ox.cell k
          rw [arr3_get X k hlt] at x0
          have y0 := hV.out.oy.cell k
          rw [arr3_get Y' k hlt] at y0
          obtain ⟨⟨x1, x2⟩, y1, y2⟩ := hV.out.low k (by omega)
          obtain ⟨hs1, hs2⟩ := hV.out.sizes hk (by omega)
          have hways := c_ways X Y' k z hV.out.c
          rcases hways with ⟨e, hc⟩ | ⟨rfl, e, hc⟩ | ⟨rfl, e, hc⟩ | ⟨rfl, e, e', hc⟩
          all_goals
            go_wp2_with fail
            go_quiet (fail)
            go_wp2_with fail
            go_quiet (fail)
            go_upto_region 15 with fail
            generalize hw9 : World.drewN (World.drewN _ _) _ = w9
            obtain ⟨zz, hV9⟩ : ∃ zz, Hid (VRel w w9 n k (k + 1) X Y' S T zz) := ⟨_, by rw [← hw9]; exact Lib.hid ((hV.out.drewN _).drewN _)⟩
            clear hw9 hV x0 y0
            have x0 := hV9.out.ox.cell k
            rw [arr3_get X k hlt] at x0
            have y0 := hV9.out.oy.cell k
            rw [arr3_get Y' k hlt] at y0
            have cX := Lib.hid (fun u : World => (number_ref (X k) u (by omega) (by omega)).mono (fun e w' (h : e = _ ∧ u = w') => (⟨h.1, h.2.symm⟩ : e = .returned (.string ⟨(Lib.itoa (X k)).toArray⟩) ∧ w' = u)))
            have cY := Lib.hid (fun u : World => (number_ref (Y' k) u (by omega) (by omega)).mono (fun e w' (h : e = _ ∧ u = w') => (⟨h.1, h.2.symm⟩ : e = .returned (.string ⟨(Lib.itoa (Y' k)).toArray⟩) ∧ w' = u)))
            have lx := itoa_short x1 x2
            have ly := itoa_short y1 y2
            rcases Nat.eq_zero_or_pos k with rfl | hk0
          all_goals
            try have hk2 : decide ((0 : Int) < (k : Int)) = true := by simp; omega
            go_upto_region 17 with fail
            go_quiet ((go_at_call 28; (first | with_reducible exact Calls.quiet_of_same (cX.out _) | with_reducible exact Calls.quiet_of_same (cY.out _))))
          all_goals
            go_wp2
            go_roundw
            case rel =>
              first
                | exact ⟨1, X, Y', _, _, _, by omega, rfl, rfl, rfl, rfl, Lib.hid (hV9.out.close0 _ hc.out)⟩
                | exact ⟨k + 1, X, Y', _, _, _, by omega, by go_num, rfl, rfl, rfl, Lib.hid (hV9.out.closeS hk0 hlt _ hc.out)⟩
            case measure => (first | (simp [intOf]; omega) | simp [intOf])
    · obtain rfl : k = 3 := by omega
      have hC := Lib.hid (hV.out.cmpR (Nat.le_refl _))
      have hP := hV.out.partR (Nat.le_refl _) at'
      obtain ⟨hs1, hs2⟩ := hV.out.sizes (Nat.le_refl _) (Nat.le_refl _)
      go_wp2_with fail
      refine (compare_any ⟨4, 0, S.data.toList, []⟩ ⟨4, 0, T.data.toList, []⟩ S T none none 0 0 [] [] _ ⟨rfl, Or.inl rfl, rfl⟩ ⟨rfl, Or.inl rfl, rfl⟩ (by simp) (by simp) (by omega) (by omega) (hT.out.below hV.out.below)).mono ?_
      rintro e w3 ⟨rfl, hb3⟩
      rw [hC.out]
      have hO3 := Lib.hid (hV.out.ox.below hb3 hV.out.ox.lt)
      have hB3 := Lib.hid (hV.out.below.trans (hb3.mono hV.out.below.size))
      clear hV hb3 hC
      go_wp2_with fail
      refine (part_any S at' _ (by omega) (hT.out.below hB3.out)).mono ?_
      rintro e w4 ⟨rfl, hb4⟩
      have hO4 := Lib.hid (hO3.out.below hb4 hO3.out.lt)
      have hB4 := Lib.hid (hB3.out.trans (hb4.mono hB3.out.size))
      clear hB3 hb4 hO3
      rcases hP with ⟨hi, hP⟩ | ⟨j, hj, rfl, hP⟩
      · rw [hP.out]
        rcases hi with hi | hi
        · go_wp2
          go_ret
          exact ⟨rfl, hB4.out⟩
        · have hi2 : ¬ at' < 0 := by omega
          go_wp2
          go_ret
          exact ⟨rfl, hB4.out⟩
      · rw [hP.out]
        have x0 := hO4.out.cell j
        rw [arr3_get X j hj] at x0
        have n1 : (0 : Int) ≤ (j : Int) := Int.natCast_nonneg _
        have n2 : (j : Int) < 3 := by omega
        go_wp2
        go_ret
        exact ⟨rfl, hB4.out⟩

end Go.Proofs.YtnghpjijfdpmkaaDoor.law

