/- The parts of a version: the program's and the reference's. -/
import Derived.Test.YthnjgbjckggjhaaGreatDoorKJ3
import Derived.Test.YthnjgbjckggjhaaGreatDoorKTextH
import Derived.Lib.Split
namespace Go.Proofs.YthnjgbjckggjhaaGreatDoor.value
open Go.RowKit Go.Proofs.YthnjgbjckggjhaaGreatDoor.text

/-- What both give: the three numbers and whether there are three. -/
def verV (l : List UInt8) : Value :=
  match verS l with
  | some (x, y, z) => .tuple #[.agg #[.int .i64 x, .int .i64 y, .int .i64 z], .bool true]
  | none => .tuple #[.agg #[.int .i64 0, .int .i64 0, .int .i64 0], .bool false]

theorem split_cases (s : ByteArray) (ps : List ByteArray) (h : ps.map (·.data.toList) = Lib.split s.data.toList [46]) :
    (ps.length ≠ 3 ∧ verS s.data.toList = none) ∨ ∃ a b c : ByteArray, ps = [a, b, c] ∧ a.size ≤ s.size ∧ b.size ≤ s.size ∧ c.size ≤ s.size ∧
      verS s.data.toList = (match partN a.data.toList, partN b.data.toList, partN c.data.toList with
        | some x, some y, some z => some (x, y, z)
        | _, _, _ => none) := by
  have hlen := congrArg List.length h
  rw [List.length_map] at hlen
  unfold verS
  cases h1 : cutD s.data.toList with
  | none => exact Or.inl ⟨by rw [hlen, split_none h1]; simp, rfl⟩
  | some x =>
    obtain ⟨la, r⟩ := x
    simp only
    rw [split_some h1] at h hlen
    have e1 := congrArg List.length (cutD_eq h1)
    simp only [List.length_append, List.length_cons, Array.length_toList] at e1
    cases h2 : cutD r with
    | none => exact Or.inl ⟨by rw [hlen, split_none h2]; simp, rfl⟩
    | some y =>
      obtain ⟨lb, lc⟩ := y
      simp only
      rw [split_some h2] at h hlen
      have e2 := congrArg List.length (cutD_eq h2)
      simp only [List.length_append, List.length_cons] at e2
      cases h3 : cutD lc with
      | some z =>
        obtain ⟨d, q⟩ := z
        refine Or.inl ⟨?_, rfl⟩
        rw [hlen, split_some h3]
        have : (Lib.split q [46]).length ≠ 0 := by
          cases h4 : cutD q with
          | none => rw [split_none h4]; simp
          | some w => obtain ⟨f, g⟩ := w; rw [split_some h4]; simp
        simp only [List.length_cons]
        omega
      | none =>
        rw [split_none h3] at h
        match ps, h with
        | [a, b, c], h =>
          simp only [List.map_cons, List.map_nil, List.cons.injEq, and_true] at h
          obtain ⟨ha, hb, hc⟩ := h
          have sa : a.size = la.length := by rw [← ha]; simp
          have sb : b.size = lb.length := by rw [← hb]; simp
          have sc : c.size = lc.length := by rw [← hc]; simp
          have hs : s.data.size = s.size := rfl
          exact Or.inr ⟨a, b, c, rfl, by omega, by omega, by omega, by simp only [ha, hb, hc]; rfl⟩
        | [], h => simp at h
        | [_], h => simp at h
        | [_, _], h => simp at h
        | _ :: _ :: _ :: _ :: _, h => simp at h

/-- What ParseNumber gives at a part. -/
theorem part_ways (p : List UInt8) : (∃ x : Int, Hid (partN p = some x) ∧ Hid (parseV p = .tuple #[.int .i64 x, .int .i64 0]) ∧ 0 ≤ x ∧ x ≤ 999999) ∨
    ∃ n e : Int, Hid (partN p = none) ∧ Hid (parseV p = .tuple #[.int .i64 n, .int .i64 e]) ∧ ((e != 0) = true ∨ (e = 0 ∧ n < 0) ∨ (e = 0 ∧ 0 ≤ n ∧ 999999 < n)) := by
  unfold partN parseV
  by_cases h : (parseS p).2 = 0 ∧ 0 ≤ (parseS p).1 ∧ (parseS p).1 ≤ 999999
  · rw [if_pos h]
    exact Or.inl ⟨_, rfl, by rw [h.1]; rfl, h.2.1, h.2.2⟩
  · rw [if_neg h]
    refine Or.inr ⟨_, _, rfl, rfl, ?_⟩
    by_cases h0 : (parseS p).2 = 0
    · right
      by_cases h1 : (parseS p).1 < 0
      · exact Or.inl ⟨h0, h1⟩
      · exact Or.inr ⟨h0, by omega, by omega⟩
    · exact Or.inl (by simp [h0])

theorem split_any (s p : ByteArray) (hp : p = ⟨#[46]⟩) (w : World) (hs : s.size < 4294967281) (hT : Tabs w) :
    Calls Tryz.prog 58 #[.string s, .string p] w fun e w' => ∃ ps : List ByteArray, e = .returned (.slice (some ⟨w.heap.size, 0, none⟩) ps.length ps.length) ∧ ps.map (·.data.toList) = Lib.split s.data.toList [46] ∧ w' = w.alloc (.cells (ps.map Value.string).toArray 9) := by
  subst hp
  obtain ⟨m, hm⟩ := hT.lim
  refine (Tryz.strings_Split s ⟨#[46]⟩ m w hs hm (by decide)).mono ?_
  rintro e w' ⟨rfl, rfl⟩
  have hlen := Lib.splitB_all ⟨#[46]⟩ (by decide) 0 _ s rfl
  refine ⟨Lib.splitB ⟨#[46]⟩ 0 (Lib.countB s ⟨#[46]⟩) s, by rw [hlen], ?_, rfl⟩
  rw [Lib.splitB_data]
  rfl

theorem box_zero (w : World) (t : TypeId) (n : Nat) (h : n = w.heap.size) : Own (w.alloc (.cells #[.int .i64 0, .int .i64 0, .int .i64 0] t)) n #[.int .i64 0, .int .i64 0, .int .i64 0] t := Own.new' h

theorem own3 {w : World} {n : Nat} {x0 x1 x2 : Value} {t : TypeId} (h : Own w n #[x0, x1, x2] t) :
    w.cell? ⟨n, 0, none⟩ = some x0 ∧ w.cell? ⟨n, 1, none⟩ = some x1 ∧ w.cell? ⟨n, 2, none⟩ = some x2 ∧ w.frozen? ⟨n, 0, none⟩ = false ∧ w.frozen? ⟨n, 1, none⟩ = false ∧ w.frozen? ⟨n, 2, none⟩ = false :=
  ⟨h.cell 0, h.cell 1, h.cell 2, h.free 0, h.free 1, h.free 2⟩

/-- What the loop over the parts knows at the head of round k. -/
def PartRel (w wr : World) (a b c : ByteArray) (k : Nat) (x y z : Int) : Prop :=
  Own wr w.heap.size #[.int .i64 0, .int .i64 0, .int .i64 0] 102 ∧ Own wr (w.heap.size + 1) #[.int .i64 x, .int .i64 y, .int .i64 z] 102 ∧
  Own wr (w.heap.size + 1 + 1) #[.string a, .string b, .string c] 9 ∧ Below w.heap.size w wr ∧
  (1 ≤ k → partN a.data.toList = some x) ∧ (2 ≤ k → partN b.data.toList = some y) ∧ (3 ≤ k → partN c.data.toList = some z)
theorem PartRel.call {w wr wx : World} {a b c : ByteArray} {k : Nat} {x y z : Int} (h : PartRel w wr a b c k x y z) (hb : Below wr.heap.size wr wx) : PartRel w wx a b c k x y z := by
  obtain ⟨h0, h1, h2, h4, h5⟩ := h
  exact ⟨h0.below hb h0.lt, h1.below hb h1.lt, h2.below hb h2.lt, h4.trans (hb.mono h4.size), h5⟩
theorem PartRel.zero {w wr : World} {a b c : ByteArray} {x y z n : Int} (h : PartRel w wr a b c 0 x y z) (hn : partN a.data.toList = some n) : PartRel w (wr.setCell ⟨w.heap.size + 1, 0, none⟩ (.int .i64 n)) a b c 1 n y z := by
  obtain ⟨h0, h1, h2, h4, h5, h6, h7⟩ := h
  exact ⟨h0.setOther (by simp) _, h1.set 0 _, h2.setOther (by simp) _, h4.setCell (by simp) _, fun _ => hn, fun hk => by omega, fun hk => by omega⟩
theorem PartRel.one {w wr : World} {a b c : ByteArray} {x y z n : Int} (h : PartRel w wr a b c 1 x y z) (hn : partN b.data.toList = some n) : PartRel w (wr.setCell ⟨w.heap.size + 1, 1, none⟩ (.int .i64 n)) a b c 2 x n z := by
  obtain ⟨h0, h1, h2, h4, h5, h6, h7⟩ := h
  exact ⟨h0.setOther (by simp) _, h1.set 1 _, h2.setOther (by simp) _, h4.setCell (by simp) _, fun _ => h5 (Nat.le_refl _), fun _ => hn, fun hk => by omega⟩
theorem PartRel.two {w wr : World} {a b c : ByteArray} {x y z n : Int} (h : PartRel w wr a b c 2 x y z) (hn : partN c.data.toList = some n) : PartRel w (wr.setCell ⟨w.heap.size + 1, 2, none⟩ (.int .i64 n)) a b c 3 x y n := by
  obtain ⟨h0, h1, h2, h4, h5, h6, h7⟩ := h
  exact ⟨h0.setOther (by simp) _, h1.set 2 _, h2.setOther (by simp) _, h4.setCell (by simp) _, fun _ => h5 (by omega), fun _ => h6 (Nat.le_refl _), fun _ => hn⟩

theorem verV_none {l : List UInt8} (h : verS l = none) : Ending.returned (.tuple #[.agg #[.int .i64 0, .int .i64 0, .int .i64 0], .bool false]) = .returned (verV l) := by rw [verV, h]
theorem verV_some {l : List UInt8} {x y z : Int} (h : verS l = some (x, y, z)) : Ending.returned (.tuple #[.agg #[.int .i64 x, .int .i64 y, .int .i64 z], .bool true]) = .returned (verV l) := by rw [verV, h]
/-- Three stores to the box of the result. -/
theorem store3 {w wr : World} (h : Below w.heap.size w wr) (a b c : Value) : Below w.heap.size w (((wr.setCell ⟨w.heap.size, 0, none⟩ a).setCell ⟨w.heap.size, 1, none⟩ b).setCell ⟨w.heap.size, 2, none⟩ c) :=
  ((h.setCell (p := ⟨w.heap.size, 0, none⟩) (Nat.le_refl _) _).setCell (p := ⟨w.heap.size, 1, none⟩) (Nat.le_refl _) _).setCell (p := ⟨w.heap.size, 2, none⟩) (Nat.le_refl _) _

set_option maxRecDepth 100000 in
set_option maxHeartbeats 4000000 in
theorem parts_any (s : ByteArray) (w : World) (hs : s.size < 4294967281) (hT : Tabs w) :
    Calls Tryz.prog 54 #[.string s] w fun e w' => e = .returned (verV s.data.toList) ∧ Below w.heap.size w w' := by
  replace hT := Lib.hid hT
  go_enter Tryz.func54, Tryz.ntmps54
  go_wp2_with fail
  refine (split_any s _ rfl _ hs (hT.out.below (((Below.refl _ _).alloc (Nat.le_refl _) _).alloc (by simp) _))).mono ?_
  rintro e w1 ⟨ps, rfl, hps, hw1⟩
  have hO0 := Lib.hid (show Own w1 w.heap.size #[.int .i64 0, .int .i64 0, .int .i64 0] 102 by rw [hw1]; exact ((Own.new w _ _).alloc _).alloc _)
  have hO1 := Lib.hid (show Own w1 (w.heap.size + 1) #[.int .i64 0, .int .i64 0, .int .i64 0] 102 by rw [hw1]; exact (Own.new' (by simp)).alloc _)
  have hO2 := Lib.hid (show Own w1 (w.heap.size + 1 + 1) (ps.map Value.string).toArray 9 by rw [hw1]; exact Own.new' (by simp))
  have hB1 := Lib.hid (show Below w.heap.size w w1 by rw [hw1]; exact (((Below.refl _ _).alloc (Nat.le_refl _) _).alloc (by simp) _).alloc (by simp; omega) _)
  clear hw1
  rcases split_cases s ps hps with ⟨hl, hv⟩ | ⟨a, b, c, rfl, ha, hb, hc, hv⟩
  · have hQ := Lib.hid (verV_none hv)
    have hl2 : ((ps.length : Int) != 3) = true := by simp; omega
    obtain ⟨c0, c1, c2, f0, f1, f2⟩ := own3 hO0.out
    obtain ⟨d0, d1, d2, -, -, -⟩ := own3 hO1.out
    clear hv hl hps
    go_wp2
    refine bodyPost_ret (v := .tuple #[.agg #[.int .i64 0, .int .i64 0, .int .i64 0], .bool false]) (by simp [results, Tryz.results54, go_sem, c0, c1, c2]) rfl ⟨hQ.out, store3 hB1.out _ _ _⟩
  · replace hv := Lib.hid hv
    have hS := Lib.hid (show PartRel w w1 a b c 0 0 0 0 from ⟨hO0.out, hO1.out, hO2.out, hB1.out, fun h => by omega, fun h => by omega, fun h => by omega⟩)
    clear hps hO0 hO1 hO2 hB1
    go_wp2
    go_loopw [18] (fun i wr => ∃ k : Nat, k ≤ 3 ∧ i = .int .i64 k ∧ ∃ x y z, Hid (PartRel w wr a b c k x y z)) (fun i _ => 3 - (intOf i).toNat)
    case atStart => exact ⟨0, by omega, rfl, 0, 0, 0, hS.out⟩
    case round =>
      clear hS
      obtain ⟨k, hk, rfl, x, y, z, hR⟩ := hrel
      rcases (show k = 0 ∨ k = 1 ∨ k = 2 ∨ k = 3 by omega) with rfl | rfl | rfl | rfl
      · have cl := (hR.out.2.2.1).cell 0
        simp at cl
        rw [show ((0 : Nat) : Int) = 0 from rfl]
        rcases part_ways a.data.toList with ⟨n, hN, hP, hn0, hn1⟩ | ⟨n, e, hN, hP, hne⟩
        · go_wp2_with fail
          refine (parse_any a _ (by omega) (hT.out.below hR.out.2.2.2.1)).mono ?_
          rintro e w3 ⟨rfl, hb3⟩
          rw [hP.out]
          have hR3 := Lib.hid (hR.out.call hb3)
          clear hb3 cl hR
          obtain ⟨d0, d1, d2, g0, g1, g2⟩ := own3 hR3.out.2.1
          have hX := Lib.hid (hR3.out.zero hN.out)
          go_wp2
          go_roundw
          case rel => exact ⟨1, by omega, rfl, _, _, _, hX.out⟩
          case measure => simp [intOf]
        · have hQ := Lib.hid (verV_none (l := s.data.toList) (by rw [hv.out]; rw [hN.out]))
          go_wp2_with fail
          refine (parse_any a _ (by omega) (hT.out.below hR.out.2.2.2.1)).mono ?_
          rintro e' w3 ⟨rfl, hb3⟩
          rw [hP.out]
          have hR3 := Lib.hid (hR.out.call hb3)
          clear hb3 cl hR
          obtain ⟨c0, c1, c2, f0, f1, f2⟩ := own3 hR3.out.1
          rcases hne with hne | ⟨rfl, hne⟩ | ⟨rfl, hne, hne2⟩
          all_goals
            go_wp2
            refine bodyPost_ret (v := .tuple #[.agg #[.int .i64 0, .int .i64 0, .int .i64 0], .bool false]) (by simp [results, Tryz.results54, go_sem, c0, c1, c2]) rfl ⟨hQ.out, store3 hR3.out.2.2.2.1 _ _ _⟩
      · have cl := (hR.out.2.2.1).cell 1
        simp at cl
        rw [show ((1 : Nat) : Int) = 1 from rfl]
        rcases part_ways b.data.toList with ⟨n, hN, hP, hn0, hn1⟩ | ⟨n, e, hN, hP, hne⟩
        · go_wp2_with fail
          refine (parse_any b _ (by omega) (hT.out.below hR.out.2.2.2.1)).mono ?_
          rintro e w3 ⟨rfl, hb3⟩
          rw [hP.out]
          have hR3 := Lib.hid (hR.out.call hb3)
          clear hb3 cl hR
          obtain ⟨d0, d1, d2, g0, g1, g2⟩ := own3 hR3.out.2.1
          have hX := Lib.hid (hR3.out.one hN.out)
          go_wp2
          go_roundw
          case rel => exact ⟨2, by omega, rfl, _, _, _, hX.out⟩
          case measure => simp [intOf]
        · have hQ := Lib.hid (verV_none (l := s.data.toList) (by rw [hv.out]; rw [hN.out]; cases partN a.data.toList <;> rfl))
          go_wp2_with fail
          refine (parse_any b _ (by omega) (hT.out.below hR.out.2.2.2.1)).mono ?_
          rintro e' w3 ⟨rfl, hb3⟩
          rw [hP.out]
          have hR3 := Lib.hid (hR.out.call hb3)
          clear hb3 cl hR
          obtain ⟨c0, c1, c2, f0, f1, f2⟩ := own3 hR3.out.1
          rcases hne with hne | ⟨rfl, hne⟩ | ⟨rfl, hne, hne2⟩
          all_goals
            go_wp2
            refine bodyPost_ret (v := .tuple #[.agg #[.int .i64 0, .int .i64 0, .int .i64 0], .bool false]) (by simp [results, Tryz.results54, go_sem, c0, c1, c2]) rfl ⟨hQ.out, store3 hR3.out.2.2.2.1 _ _ _⟩
      · have cl := (hR.out.2.2.1).cell 2
        simp at cl
        rw [show ((2 : Nat) : Int) = 2 from rfl]
        rcases part_ways c.data.toList with ⟨n, hN, hP, hn0, hn1⟩ | ⟨n, e, hN, hP, hne⟩
        · go_wp2_with fail
          refine (parse_any c _ (by omega) (hT.out.below hR.out.2.2.2.1)).mono ?_
          rintro e w3 ⟨rfl, hb3⟩
          rw [hP.out]
          have hR3 := Lib.hid (hR.out.call hb3)
          clear hb3 cl hR
          obtain ⟨d0, d1, d2, g0, g1, g2⟩ := own3 hR3.out.2.1
          have hX := Lib.hid (hR3.out.two hN.out)
          go_wp2
          go_roundw
          case rel => exact ⟨3, by omega, rfl, _, _, _, hX.out⟩
          case measure => simp [intOf]
        · have hQ := Lib.hid (verV_none (l := s.data.toList) (by rw [hv.out]; rw [hN.out]; cases partN a.data.toList <;> cases partN b.data.toList <;> rfl))
          go_wp2_with fail
          refine (parse_any c _ (by omega) (hT.out.below hR.out.2.2.2.1)).mono ?_
          rintro e' w3 ⟨rfl, hb3⟩
          rw [hP.out]
          have hR3 := Lib.hid (hR.out.call hb3)
          clear hb3 cl hR
          obtain ⟨c0, c1, c2, f0, f1, f2⟩ := own3 hR3.out.1
          rcases hne with hne | ⟨rfl, hne⟩ | ⟨rfl, hne, hne2⟩
          all_goals
            go_wp2
            refine bodyPost_ret (v := .tuple #[.agg #[.int .i64 0, .int .i64 0, .int .i64 0], .bool false]) (by simp [results, Tryz.results54, go_sem, c0, c1, c2]) rfl ⟨hQ.out, store3 hR3.out.2.2.2.1 _ _ _⟩
      · rw [show ((3 : Nat) : Int) = 3 from rfl]
        obtain ⟨c0, c1, c2, f0, f1, f2⟩ := own3 hR.out.1
        obtain ⟨d0, d1, d2, g0, g1, g2⟩ := own3 hR.out.2.1
        have hQ := Lib.hid (verV_some (l := s.data.toList) (x := x) (y := y) (z := z) (by
          obtain ⟨-, -, -, -, h5, h6, h7⟩ := hR.out
          rw [hv.out, h5 (by omega), h6 (by omega), h7 (by omega)]))
        have hB := Lib.hid (store3 hR.out.2.2.2.1 (.int .i64 x) (.int .i64 y) (.int .i64 z))
        go_wp2
        refine bodyPost_ret (v := .tuple #[.agg #[.int .i64 x, .int .i64 y, .int .i64 z], .bool true]) (by simp [results, Tryz.results54, go_sem, c0, c1, c2]) rfl ⟨hQ.out, hB.out⟩

end Go.Proofs.YthnjgbjckggjhaaGreatDoor.value

