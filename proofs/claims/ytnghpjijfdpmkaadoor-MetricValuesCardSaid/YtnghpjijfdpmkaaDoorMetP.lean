/- Made metrics: the walk of the first statement (under way, not building). -/
import Derived.Test.YtnghpjijfdpmkaaDoorMetO
import Derived.Deep.DrawnRows
import Derived.IntWalk
namespace Go.Proofs.YtnghpjijfdpmkaaDoor.metric
open Go.RowKit Go.Proofs.YtnghpjijfdpmkaaDoor

attribute [local go_sem ↓] Go.wp_at_zero Go.wp_at_succ

theorem box7p {w : World} {n : Nat} {x0 x1 x2 x3 x4 x5 x6 : Value} {t : TypeId} (h : Own w n #[x0, x1, x2, x3, x4, x5, x6] t) :
    w.cell? ⟨n, 0, none⟩ = some x0 ∧ w.cell? ⟨n, 1, none⟩ = some x1 ∧ w.cell? ⟨n, 2, none⟩ = some x2 ∧ w.cell? ⟨n, 3, none⟩ = some x3 ∧ w.cell? ⟨n, 4, none⟩ = some x4 ∧ w.cell? ⟨n, 5, none⟩ = some x5 ∧ w.cell? ⟨n, 6, none⟩ = some x6 :=
  ⟨h.cell 0, h.cell 1, h.cell 2, h.cell 3, h.cell 4, h.cell 5, h.cell 6⟩
theorem cells14 {w : World} {n : Nat} {x0 x1 x2 x3 x4 x5 x6 : Value} {t : TypeId} (h : Own w n #[x0, x1, x2, x3, x4, x5, x6] t) :
    (w.cell? ⟨n, 0, none⟩ = some x0 ∧ w.cell? ⟨n, 1, none⟩ = some x1 ∧ w.cell? ⟨n, 2, none⟩ = some x2 ∧ w.cell? ⟨n, 3, none⟩ = some x3 ∧ w.cell? ⟨n, 4, none⟩ = some x4 ∧ w.cell? ⟨n, 5, none⟩ = some x5 ∧ w.cell? ⟨n, 6, none⟩ = some x6) ∧
    w.frozen? ⟨n, 0, none⟩ = false ∧ w.frozen? ⟨n, 1, none⟩ = false ∧ w.frozen? ⟨n, 2, none⟩ = false ∧ w.frozen? ⟨n, 3, none⟩ = false ∧ w.frozen? ⟨n, 4, none⟩ = false ∧ w.frozen? ⟨n, 5, none⟩ = false ∧ w.frozen? ⟨n, 6, none⟩ = false :=
  ⟨box7p h, h.free 0, h.free 1, h.free 2, h.free 3, h.free 4, h.free 5, h.free 6⟩

/-- Some cells of a metric that is being made. -/
def Reg2 (w : World) (a : Option Addr) (n c : Nat) (s4 : Value) (u : World) : Prop :=
  ∃ (b : Nat) (k win cap : Int) (s : ByteArray), s4 = .pointer (some ⟨b, 0, none⟩) ∧ w.heap.size + 2 ≤ b ∧ MkS w a n c [(b, #[.int .i64 k, .string s, .string ⟨#[]⟩, .int .i64 win, .int .i64 cap, .int .i64 (-1099511627776), .int .i64 0], 29), (w.heap.size, Z7, 29)] u ∧
    1 ≤ k ∧ k ≤ 4 ∧ 1 ≤ win ∧ win ≤ 30 ∧ 1 ≤ cap ∧ cap ≤ 50 ∧ NameV s
theorem reg2_alloc {w u : World} {a : Option Addr} {n c g : Nat} {s : ByteArray} {k4 k30 k50 : Nat} (h : MkS w a n c [(g, N2, 9), (w.heap.size, Z7, 29)] u) (h4 : (k4 : Int) < 4) (h30 : (k30 : Int) < 30) (h50 : (k50 : Int) < 50) (hs : NameV s) :
    Reg2 w a n c (.pointer (some ⟨u.heap.size, 0, none⟩)) (u.alloc (.cells #[.int .i64 (IntKind.i64.wrap (1 + (k4 : Int))), .string s, .string ⟨#[]⟩, .int .i64 (IntKind.i64.wrap (1 + (k30 : Int))), .int .i64 (IntKind.i64.wrap (1 + (k50 : Int))), .int .i64 (-1099511627776), .int .i64 0] 29)) := by
  have e4 : IntKind.i64.wrap (1 + (k4 : Int)) = 1 + (k4 : Int) := IntWalk.i64_in _ (by omega)
  have e30 : IntKind.i64.wrap (1 + (k30 : Int)) = 1 + (k30 : Int) := IntWalk.i64_in _ (by omega)
  have e50 : IntKind.i64.wrap (1 + (k50 : Int)) = 1 + (k50 : Int) := IntWalk.i64_in _ (by omega)
  rw [e4, e30, e50]
  clear e4 e30 e50
  exact ⟨_, 1 + (k4 : Int), 1 + (k30 : Int), 1 + (k50 : Int), s, rfl, h.size, (h.alloc _ _).sub (by intro p hp; simp only [List.mem_cons, List.not_mem_nil, or_false] at hp ⊢; rcases hp with rfl | rfl <;> simp), by omega, by omega, by omega, by omega, by omega, by omega, hs⟩
theorem reg2_set {w u : World} {a : Option Addr} {n c b : Nat} {L : List Blk} {s : ByteArray} {k4 k30 k50 : Nat} (h : MkS w a n c L u) (hb : w.heap.size + 2 ≤ b) (h1 : (b, Z7, 29) ∈ L) (h2 : (w.heap.size, Z7, 29) ∈ L) (h4 : (k4 : Int) < 4) (h30 : (k30 : Int) < 30) (h50 : (k50 : Int) < 50) (hs : NameV s) :
    Reg2 w a n c (.pointer (some ⟨b, 0, none⟩)) (((((((u.setCell ⟨b, 0, none⟩ (.int .i64 (IntKind.i64.wrap (1 + (k4 : Int))))).setCell ⟨b, 1, none⟩ (.string s)).setCell ⟨b, 2, none⟩ (.string ⟨#[]⟩)).setCell ⟨b, 3, none⟩ (.int .i64 (IntKind.i64.wrap (1 + (k30 : Int))))).setCell ⟨b, 4, none⟩ (.int .i64 (IntKind.i64.wrap (1 + (k50 : Int))))).setCell ⟨b, 5, none⟩ (.int .i64 (-1099511627776))).setCell ⟨b, 6, none⟩ (.int .i64 0)) := by
  have e4 : IntKind.i64.wrap (1 + (k4 : Int)) = 1 + (k4 : Int) := IntWalk.i64_in _ (by omega)
  have e30 : IntKind.i64.wrap (1 + (k30 : Int)) = 1 + (k30 : Int) := IntWalk.i64_in _ (by omega)
  have e50 : IntKind.i64.wrap (1 + (k50 : Int)) = 1 + (k50 : Int) := IntWalk.i64_in _ (by omega)
  rw [e4, e30, e50]
  clear e4 e30 e50
  have hM : MkS w a n c [(b, Z7, 29), (w.heap.size, Z7, 29)] u := h.sub (by intro p hp; simp only [List.mem_cons, List.not_mem_nil, or_false] at hp; rcases hp with rfl | rfl <;> assumption)
  have hL : ∀ p ∈ [((w.heap.size, Z7, 29) : Blk)], p.1 ≠ b := by intro p hp; simp only [List.mem_cons, List.not_mem_nil, or_false] at hp; subst hp; show w.heap.size ≠ b; omega
  exact ⟨_, 1 + (k4 : Int), 1 + (k30 : Int), 1 + (k50 : Int), s, rfl, hb, ((((((hM.set hb hL 0 _).set hb hL 1 _).set hb hL 2 _).set hb hL 3 _).set hb hL 4 _).set hb hL 5 _).set hb hL 6 _, by omega, by omega, by omega, by omega, by omega, by omega, hs⟩

/-- What a made metric is. -/
def MadeM (k win cap least before : Int) (s t : ByteArray) : Prop :=
  1 ≤ k ∧ k ≤ 4 ∧ 1 ≤ win ∧ win ≤ 30 ∧ 1 ≤ cap ∧ cap ≤ 50 ∧ (k = 3 → cap = 1) ∧ (least = -1099511627776 ∨ (-3 ≤ least ∧ least ≤ 6)) ∧ 0 ≤ before ∧ before ≤ 19 ∧ NameV s ∧ (k = 4 → NameV t) ∧ (k ≠ 4 → t = ⟨#[]⟩)
def MadeIs (w : World) (e : Ending) (w' : World) : Prop :=
  ∃ (k win cap least before : Int) (s t : ByteArray), e = .returned (.agg #[.int .i64 k, .string s, .string t, .int .i64 win, .int .i64 cap, .int .i64 least, .int .i64 before]) ∧ MadeM k win cap least before s t ∧ Below w.heap.size w w'
/-- The metric's own block b while it is changed. -/
abbrev Mk (w : World) (a : Option Addr) (n c b : Nat) (A : Array Value) (u : World) : Prop := MkS w a n c [(b, A, 29), (w.heap.size, Z7, 29)] u
theorem Mk.put {w u : World} {a : Option Addr} {n c b : Nat} {A : Array Value} (h : Mk w a n c b A u) (hb : w.heap.size + 2 ≤ b) (i : Nat) (v : Value) : Mk w a n c b (A.setIfInBounds i v) (u.setCell ⟨b, i, none⟩ v) :=
  MkS.set h hb (by intro p hp; simp only [List.mem_cons, List.not_mem_nil, or_false] at hp; subst hp; show w.heap.size ≠ b; omega) i v
theorem Mk.cells {w u : World} {a : Option Addr} {n c b : Nat} {x0 x1 x2 x3 x4 x5 x6 : Value} (h : Mk w a n c b #[x0, x1, x2, x3, x4, x5, x6] u) :
    ((u.cell? ⟨b, 0, none⟩ = some x0 ∧ u.cell? ⟨b, 1, none⟩ = some x1 ∧ u.cell? ⟨b, 2, none⟩ = some x2 ∧ u.cell? ⟨b, 3, none⟩ = some x3 ∧ u.cell? ⟨b, 4, none⟩ = some x4 ∧ u.cell? ⟨b, 5, none⟩ = some x5 ∧ u.cell? ⟨b, 6, none⟩ = some x6) ∧
    u.frozen? ⟨b, 0, none⟩ = false ∧ u.frozen? ⟨b, 1, none⟩ = false ∧ u.frozen? ⟨b, 2, none⟩ = false ∧ u.frozen? ⟨b, 3, none⟩ = false ∧ u.frozen? ⟨b, 4, none⟩ = false ∧ u.frozen? ⟨b, 5, none⟩ = false ∧ u.frozen? ⟨b, 6, none⟩ = false) ∧ Own u w.heap.size Z7 29 ∧ b < u.heap.size :=
  ⟨cells14 (h.held _ (List.mem_cons_self)).1, (h.held (w.heap.size, Z7, 29) (by simp)).1, (h.held _ (List.mem_cons_self)).1.lt⟩

set_option maxRecDepth 100000 in
set_option maxHeartbeats 40000000 in
theorem made_any (a : Option Addr) (n c : Nat) (w : World) (h : BytesIn w.cell? a n) :
    Calls Tryd.prog 12 #[.slice a n c] w (MadeIs w) := by
  have hS0 := MkS.start (c := c) h
  clear h
  go_enter Tryd.func12, Tryd.ntmps12
  go_upto_region 2 with fail
  unfold Z7 at hS0
  generalize (w.alloc (.cells _ 29)).alloc (.cells _ 64) = w0 at hS0 ⊢
  go_cut [4] (fun s4 wx => Reg2 w a n c s4 wx)
  case first =>
    go_region_law ((first
      | (go_simp; go_at_call 17; refine (MkS.names (w := w) (a := a) (n := n) (c := c) (by first | assumption | exact MkS.drew (by assumption) | exact MkS.alloc (by assumption) _ _ | exact MkS.drew (MkS.alloc (by assumption) _ _))).mono ?_; rintro e xn ⟨gn, rfl, hSn⟩)
      | (go_simp; with_reducible refine Calls.mono (MkS.draw (w := w) (a := a) (n := n) (c := c) (by first | assumption | exact MkS.drew (by assumption) | exact MkS.alloc (by assumption) _ _ | exact MkS.drew (MkS.alloc (by assumption) _ _)) 4 (by decide) (by decide)) ?_; rintro e x4 ⟨⟨k4, rfl, hk4⟩, hS4⟩)
      | (go_simp; with_reducible refine Calls.mono (MkS.draw (w := w) (a := a) (n := n) (c := c) (by first | assumption | exact MkS.drew (by assumption) | exact MkS.alloc (by assumption) _ _ | exact MkS.drew (MkS.alloc (by assumption) _ _)) 2 (by decide) (by decide)) ?_; rintro e x2 ⟨⟨k2, rfl, hk2⟩, hS2⟩; obtain ⟨nm, hnm, hnv⟩ := hS2.nameAt (g := gn) (by simp) hk2; have l2 : gn < x2.heap.size := World.block_lt_of_cell? _ _ hnm; have m0 : (0 : Int) ≤ (k2 : Int) := Int.natCast_nonneg _)
      | (go_simp; with_reducible refine Calls.mono (MkS.draw (w := w) (a := a) (n := n) (c := c) (by first | assumption | exact MkS.drew (by assumption) | exact MkS.alloc (by assumption) _ _ | exact MkS.drew (MkS.alloc (by assumption) _ _)) 30 (by decide) (by decide)) ?_; rintro e x30 ⟨⟨k30, rfl, hk30⟩, hS30⟩; obtain ⟨nm3, hnm3, hnv3⟩ := hS30.nameAt (g := gn) (by simp) hk2; have l3 : gn < x30.heap.size := World.block_lt_of_cell? _ _ hnm3)
      | (go_simp; with_reducible refine Calls.mono (MkS.draw (w := w) (a := a) (n := n) (c := c) (by first | assumption | exact MkS.drew (by assumption) | exact MkS.alloc (by assumption) _ _ | exact MkS.drew (MkS.alloc (by assumption) _ _)) 50 (by decide) (by decide)) ?_; rintro e x50 ⟨⟨k50, rfl, hk50⟩, hS50⟩; obtain ⟨nm5, hnm5, hnv5⟩ := hS50.nameAt (g := gn) (by simp) hk2; have l5 : gn < x50.heap.size := World.block_lt_of_cell? _ _ hnm5; (try (have hL := hS50.held; simp only [List.forall_mem_cons] at hL; obtain ⟨⟨y1, -⟩, ⟨y2, -⟩, ⟨y3, -⟩, -⟩ := hL; (first | (obtain ⟨⟨p0, p1, p2, p3, p4, p5, p6⟩, f0, f1, f2, f3, f4, f5, f6⟩ := cells14 y1) | (obtain ⟨⟨p0, p1, p2, p3, p4, p5, p6⟩, f0, f1, f2, f3, f4, f5, f6⟩ := cells14 y2)); clear y1 y2 y3)))))
    all_goals
      go_wp2_with fail
      go_meet
      first
        | (with_reducible exact reg2_alloc hS50 hk4 hk30 hk50 hnv)
        | (with_reducible exact reg2_alloc hS50 hk4 hk30 hk50 hnv3)
        | (with_reducible exact reg2_alloc hS50 hk4 hk30 hk50 hnv5)
        | (with_reducible refine reg2_set hS50 ?_ ?_ ?_ hk4 hk30 hk50 hnv; (first | exact hS30.size | exact hS2.size | exact hSn.size | exact hS4.size | exact hS0.size); (simp); (simp))
        | (with_reducible refine reg2_set hS50 ?_ ?_ ?_ hk4 hk30 hk50 hnv3; (first | exact hS30.size | exact hS2.size | exact hSn.size | exact hS4.size | exact hS0.size); (simp); (simp))
        | (with_reducible refine reg2_set hS50 ?_ ?_ ?_ hk4 hk30 hk50 hnv5; (first | exact hS30.size | exact hS2.size | exact hSn.size | exact hS4.size | exact hS0.size); (simp); (simp))
  case rest =>
    obtain ⟨b, k, win, cap, s, rfl, hb, hM, hk1, hk4, hw1, hw2, hc1, hc2, hs⟩ := hcut
    clear hS0
    replace hM := Lib.hid hM
    replace hs := Lib.hid hs
    have hbw : ¬ w.heap.size = b := by omega
    have hwb : ¬ b = w.heap.size := by omega
    obtain ⟨⟨⟨p0, p1, p2, p3, p4, p5, p6⟩, f0, f1, f2, f3, f4, f5, f6⟩, -, hbu⟩ := Mk.cells hM.out
    go_upto_if 25 with fail
    go_cut [] (fun wx => ∃ cap' : Int, Hid (Mk w a n c b #[.int .i64 k, .string s, .string ⟨#[]⟩, .int .i64 win, .int .i64 cap', .int .i64 (-1099511627776), .int .i64 0] wx) ∧ Hid (1 ≤ cap' ∧ cap' ≤ 50 ∧ (k = 3 → cap' = 1)))
    case first =>
      by_cases h3 : k = 3
      · subst h3
        go_wp2
        go_meet
        exact ⟨1, Lib.hid (Mk.put hM.out hb 4 _), Lib.hid ⟨by omega, by omega, fun _ => rfl⟩⟩
      · go_wp2
        go_meet
        exact ⟨cap, hM, Lib.hid ⟨hc1, hc2, fun h => absurd h h3⟩⟩
    clear hM p0 p1 p2 p3 p4 p5 p6 f0 f1 f2 f3 f4 f5 f6 hbu hc1 hc2
    obtain ⟨cap', hM, hc⟩ := hcut
    obtain ⟨⟨⟨p0, p1, p2, p3, p4, p5, p6⟩, f0, f1, f2, f3, f4, f5, f6⟩, -, hbu⟩ := Mk.cells hM.out
    go_upto_if 29 with fail
    go_cut [] (fun wx => ∃ t : ByteArray, Hid (Mk w a n c b #[.int .i64 k, .string s, .string t, .int .i64 win, .int .i64 cap', .int .i64 (-1099511627776), .int .i64 0] wx) ∧ Hid ((k = 4 → NameV t) ∧ (k ≠ 4 → t = ⟨#[]⟩)))
    case first =>
      by_cases h4 : k = 4
      · subst h4
        go_wp2_with fail
        refine (MkS.names (w := w) (a := a) (n := n) (c := c) hM.out).mono ?_
        rintro e xn ⟨gn, rfl, hSn⟩
        clear hM p0 p1 p2 p3 p4 p5 p6 f0 f1 f2 f3 f4 f5 f6 hbu
        replace hSn := Lib.hid hSn
        go_wp2_with fail
        refine Calls.mono (MkS.draw (w := w) (a := a) (n := n) (c := c) hSn.out 2 (by decide) (by decide)) ?_
        rintro e x2 ⟨⟨k2, rfl, hk2⟩, hS2⟩
        obtain ⟨nm, hnm, hnv⟩ := hS2.nameAt (g := gn) (by simp) hk2
        have hS3 : Mk w a n c b #[.int .i64 4, .string s, .string ⟨#[]⟩, .int .i64 win, .int .i64 cap', .int .i64 (-1099511627776), .int .i64 0] x2 := hS2.sub (by intro p hp; exact List.mem_cons_of_mem _ hp)
        obtain ⟨⟨⟨p0, p1, p2, p3, p4, p5, p6⟩, f0, f1, f2, f3, f4, f5, f6⟩, -, hbu⟩ := Mk.cells hS3
        replace hS3 := Lib.hid hS3
        clear hS2 hSn
        replace hnv := Lib.hid hnv
        have m0 : (0 : Int) ≤ (k2 : Int) := Int.natCast_nonneg _
        go_wp2
        go_meet
        exact ⟨nm, Lib.hid (Mk.put hS3.out hb 2 _), Lib.hid ⟨fun _ => hnv.out, fun h => absurd rfl h⟩⟩
      · go_wp2
        go_meet
        exact ⟨_, hM, Lib.hid ⟨fun h => absurd h h4, fun _ => rfl⟩⟩
    clear hM p0 p1 p2 p3 p4 p5 p6 f0 f1 f2 f3 f4 f5 f6 hbu
    obtain ⟨t, hM, ht⟩ := hcut
    go_wp2_with fail
    refine Calls.mono (MkS.draw (w := w) (a := a) (n := n) (c := c) hM.out 3 (by decide) (by decide)) ?_
    rintro e x3 ⟨⟨k3, rfl, hk3⟩, hS3⟩
    clear hM
    have hM := Lib.hid hS3
    clear hS3
    obtain ⟨⟨⟨p0, p1, p2, p3, p4, p5, p6⟩, f0, f1, f2, f3, f4, f5, f6⟩, -, hbu⟩ := Mk.cells hM.out
    go_upto_if 38 with fail
    go_cut [] (fun wx => ∃ least : Int, Hid (Mk w a n c b #[.int .i64 k, .string s, .string t, .int .i64 win, .int .i64 cap', .int .i64 least, .int .i64 0] wx) ∧ Hid (least = -1099511627776 ∨ (-3 ≤ least ∧ least ≤ 6)))
    case first =>
      by_cases h0 : k3 = 0
      · subst h0
        clear p0 p1 p2 p3 p4 p5 p6 f0 f1 f2 f3 f4 f5 f6 hbu
        go_wp2_with fail
        refine Calls.mono (MkS.draw (w := w) (a := a) (n := n) (c := c) hM.out 10 (by decide) (by decide)) ?_
        rintro e x4 ⟨⟨k4, rfl, hk4'⟩, hS4⟩
        clear hM
        have hM := Lib.hid hS4
        clear hS4
        obtain ⟨⟨⟨p0, p1, p2, p3, p4, p5, p6⟩, f0, f1, f2, f3, f4, f5, f6⟩, -, hbu⟩ := Mk.cells hM.out
        go_wp2
        go_meet
        exact ⟨(k4 : Int) - 3, Lib.hid (Mk.put hM.out hb 5 _), Lib.hid (Or.inr ⟨by omega, by omega⟩)⟩
      · have h00 : ((k3 : Int) == 0) = false := by simpa using h0
        go_wp2
        go_meet
        exact ⟨_, hM, Lib.hid (Or.inl rfl)⟩
    clear hM p0 p1 p2 p3 p4 p5 p6 f0 f1 f2 f3 f4 f5 f6 hbu
    obtain ⟨least, hM, hl⟩ := hcut
    go_wp2_with fail
    refine Calls.mono (MkS.draw (w := w) (a := a) (n := n) (c := c) hM.out 2 (by decide) (by decide)) ?_
    rintro e x5 ⟨⟨k5, rfl, hk5⟩, hS5⟩
    clear hM
    have hM := Lib.hid hS5
    clear hS5
    obtain ⟨⟨⟨p0, p1, p2, p3, p4, p5, p6⟩, f0, f1, f2, f3, f4, f5, f6⟩, -, hbu⟩ := Mk.cells hM.out
    go_upto_if 45 with fail
    go_cut [] (fun wx => ∃ before : Int, Hid (Mk w a n c b #[.int .i64 k, .string s, .string t, .int .i64 win, .int .i64 cap', .int .i64 least, .int .i64 before] wx) ∧ Hid (0 ≤ before ∧ before ≤ 19))
    case first =>
      by_cases h0 : k5 = 0
      · subst h0
        clear p0 p1 p2 p3 p4 p5 p6 f0 f1 f2 f3 f4 f5 f6 hbu
        go_wp2_with fail
        refine Calls.mono (MkS.draw (w := w) (a := a) (n := n) (c := c) hM.out 20 (by decide) (by decide)) ?_
        rintro e x6 ⟨⟨k6, rfl, hk6'⟩, hS6⟩
        clear hM
        have hM := Lib.hid hS6
        clear hS6
        obtain ⟨⟨⟨p0, p1, p2, p3, p4, p5, p6⟩, f0, f1, f2, f3, f4, f5, f6⟩, -, hbu⟩ := Mk.cells hM.out
        go_wp2
        go_meet
        exact ⟨(k6 : Int), Lib.hid (Mk.put hM.out hb 6 _), Lib.hid ⟨by omega, by omega⟩⟩
      · have h00 : ((k5 : Int) == 0) = false := by simpa using h0
        go_wp2
        go_meet
        exact ⟨_, hM, Lib.hid ⟨by omega, by omega⟩⟩
    clear hM p0 p1 p2 p3 p4 p5 p6 f0 f1 f2 f3 f4 f5 f6 hbu
    obtain ⟨before, hM, hbe⟩ := hcut
    obtain ⟨⟨⟨p0, p1, p2, p3, p4, p5, p6⟩, f0, f1, f2, f3, f4, f5, f6⟩, hZ, hbu⟩ := Mk.cells hM.out
    obtain ⟨⟨z0, z1, z2, z3, z4, z5, z6⟩, y0, y1, y2, y3, y4, y5, y6⟩ := cells14 hZ
    clear hZ
    go_wp2
    refine bodyPost_ret (v := .agg #[.int .i64 k, .string s, .string t, .int .i64 win, .int .i64 cap', .int .i64 least, .int .i64 before]) (by simp [results, Tryd.results12, go_sem, z0, z1, z2, z3, z4, z5, z6]) rfl ?_
    refine ⟨k, win, cap', least, before, s, t, rfl, ⟨hk1, hk4, hw1, hw2, hc.out.1, hc.out.2.1, hc.out.2.2, hl.out, hbe.out.1, hbe.out.2, hs.out, ht.out.1, ht.out.2⟩, ?_⟩
    exact (((((((hM.out.below.setCell (Nat.le_refl _) _).setCell (Nat.le_refl _) _).setCell (Nat.le_refl _) _).setCell (Nat.le_refl _) _).setCell (Nat.le_refl _) _).setCell (Nat.le_refl _) _).setCell (Nat.le_refl _) _)

end Go.Proofs.YtnghpjijfdpmkaaDoor.metric

