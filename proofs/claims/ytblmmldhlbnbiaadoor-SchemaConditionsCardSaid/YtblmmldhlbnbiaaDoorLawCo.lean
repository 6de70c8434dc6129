/- SchemaConditions: the walk (under way). -/
import Derived.Test.YtblmmldhlbnbiaaDoorLawMr
import Derived.Lib.QuietBelow
namespace Go.Proofs.YtblmmldhlbnbiaaDoor.law
open Go.RowKit Go.Sort Go.Proofs.YtblmmldhlbnbiaaDoor.schema Go.Proofs.YtblmmldhlbnbiaaDoor.draw

theorem seg_rows {w : World} {g : Nat} {x y : ByteArray} (h : Own w g #[.string x, .string y] 9) (k : Nat) (hk : k ≤ 2) : RowsAt w.cell? 1 (.slice (some ⟨g, 0, none⟩) k 2) ((([x, y] : List ByteArray).take k).map strRow) := by
  obtain ⟨a, c, h1, h2, h3, h4⟩ := rows_of_own h 1 (([x, y] : List ByteArray).map strRow) (by simp [strRow]) rfl 2 (by simp) (by decide)
  rcases (show k = 0 ∨ k = 1 ∨ k = 2 by omega) with rfl | rfl | rfl
  · exact ⟨some ⟨g, 0, none⟩, 2, rfl, by simp, by decide, Or.inl rfl⟩
  · refine ⟨some ⟨g, 0, none⟩, 2, rfl, by simp, by decide, ?_⟩
    rcases h4 with h4 | ⟨blk, off, h5, h6⟩
    · cases h4
    · refine Or.inr ⟨g, 0, rfl, fun i r hi j v hj => ?_⟩
      match i, j with
      | 0, 0 => 
        rw [h.cell]
        simp [strRow] at hi
        subst hi
        simp at hj
        subst hj
        rfl
      | 0, j + 1 => simp [strRow] at hi; subst hi; simp at hj
      | i + 1, _ => simp at hi
  · exact rows_of_own h 1 (([x, y] : List ByteArray).map strRow) (by simp [strRow]) rfl 2 (by simp) (by decide)

/-- What the walk holds till the second condition is drawn. -/
structure Held (b : Nat) (a : Option Addr) (n c : Nat) (w : World) (D S R : Nat) (sA rA : Array Value) (M : Mem) (u : World) : Prop where
  codes : Codes b a n c u
  glob : Glob (but b u)
  low : Below w.heap.size w u
  hb : w.heap.size ≤ b
  d : Own u D declArr 41
  nd : D ≠ b
  s : Own u S sA 9
  ns : S ≠ b
  r : Own u R rA 26
  nr : R ≠ b
  sub : Sub M u.cell?
  off : Off b M
theorem Held.call {b : Nat} {a : Option Addr} {n c : Nat} {w u v : World} {D S R : Nat} {sA rA : Array Value} {M : Mem} (h : Held b a n c w D S R sA rA M u) (g : u.grownBy v (some b)) (hh : Head b a n c v) : Held b a n c w D S R sA rA M v :=
  ⟨h.codes.still g hh, h.glob.mono (sub_of_grown g), h.low.trans (below_of_grown g h.low.size h.hb), h.hb, h.d.kept g (fun e => h.nd (Option.some.inj e).symm), h.nd, h.s.kept g (fun e => h.ns (Option.some.inj e).symm), h.ns,
    h.r.kept g (fun e => h.nr (Option.some.inj e).symm), h.nr, sub_grow h.sub g (fun k e => by injection e with e; subst e; exact h.off), h.off⟩
theorem Held.more {b : Nat} {a : Option Addr} {n c : Nat} {w u v : World} {D S R : Nat} {sA rA : Array Value} {M : Mem} (h : Held b a n c w D S R sA rA M u) (g : u.grownBy v none) : Held b a n c w D S R sA rA M v :=
  h.call (grown_none g _) (h.codes.1.kept g (by simp))
theorem Held.below {b : Nat} {a : Option Addr} {n c : Nat} {w u v : World} {D S R : Nat} {sA rA : Array Value} {M : Mem} (h : Held b a n c w D S R sA rA M u) (g : Below u.heap.size u v) : Held b a n c w D S R sA rA M v := h.more (grown_of_below g none)

theorem rows3 (l : List DD) : ∀ r ∈ l.map DD.row, r.length = 3 := by
  intro r hr; obtain ⟨d, -, rfl⟩ := List.mem_map.1 hr; rfl
theorem flat3_one (l : List DD) : ∀ v ∈ (l.map DD.row).flatten, v.oneCell' = true := by
  intro v hv
  obtain ⟨r, hr, hv⟩ := List.mem_flatten.1 hv
  obtain ⟨d, -, rfl⟩ := List.mem_map.1 hr
  simp only [DD.row, List.mem_cons, List.not_mem_nil, or_false] at hv
  rcases hv with rfl | rfl | rfl <;> rfl
theorem decl_at {w : World} {D : Nat} (h : Own w D declArr 41) (i : Nat) (r : List Value) (hr : (declD.map DD.row)[i]? = some r) (j : Nat) (x : Value) (hx : r[j]? = some x) : w.cell? ⟨D, i * 3 + j, none⟩ = some x := by
  rw [h.cell]
  have := flat_get 3 (declD.map DD.row) (rows3 _) i r hr j x hx
  unfold declArr
  rw [List.getElem?_toArray]
  exact this
theorem decl_low {w : World} {D : Nat} (h : Own w D declArr 41) (k : Nat) (hk : k ≤ 8) : RowsAt w.cell? 3 (.slice (some ⟨D, 0, none⟩) k 8) ((declD.take k).map DD.row) := by
  have hl : declD.length = 8 := rfl
  refine ⟨some ⟨D, 0, none⟩, 8, by simp [hl] <;> omega, by simp <;> omega, by decide, Or.inr ⟨D, 0, rfl, fun i r hi j x hj => ?_⟩⟩
  rw [Nat.zero_add]
  refine decl_at h i r ?_ j x hj
  rw [List.map_take, List.getElem?_take] at hi
  split at hi
  · exact hi
  · cases hi
theorem decl_high {w : World} {D al : Nat} (h : Own w D declArr 41) (k : Nat) (hk : k < 8) (ha : al = if k = 7 then 0 else (k + 1) * 3) : RowsAt w.cell? 3 (.slice (some ⟨D, al, none⟩) (7 - k) (7 - k)) ((declD.drop (k + 1)).map DD.row) := by
  have hl : declD.length = 8 := rfl
  refine ⟨some ⟨D, al, none⟩, 7 - k, by simp [hl] <;> omega, by simp [hl] <;> omega, by unfold maxLen; omega, ?_⟩
  by_cases h7 : k = 7
  · subst h7
    exact Or.inl rfl
  · rw [if_neg h7] at ha
    refine Or.inr ⟨D, al, rfl, fun i r hi j x hj => ?_⟩
    rw [List.map_drop, List.getElem?_drop] at hi
    have := decl_at h (k + 1 + i) r hi j x hj
    rw [show al + i * 3 + j = (k + 1 + i) * 3 + j by omega]
    exact this
/-- The three conditions, as they lie in a row. -/
theorem three_rows {w : World} {g : Nat} {m : Mem} {x0 x1 x2 : Int} {s0 s1 s2 t0 t1 t2 : ByteArray} {a0 a1 a2 b0 b1 b2 : Option Addr} {n0 n1 n2 c0 c1 c2 p0 p1 p2 q0 q1 q2 : Nat} {d0 d1 d2 : ED}
    (h : Own w g #[.int .i64 x0, .string s0, .string t0, .slice a0 n0 c0, .slice b0 p0 q0, .int .i64 x1, .string s1, .string t1, .slice a1 n1 c1, .slice b1 p1 q1, .int .i64 x2, .string s2, .string t2, .slice a2 n2 c2, .slice b2 p2 q2] 26)
    (e0 : EAt m d0 [.int .i64 x0, .string s0, .string t0, .slice a0 n0 c0, .slice b0 p0 q0]) (e1 : EAt m d1 [.int .i64 x1, .string s1, .string t1, .slice a1 n1 c1, .slice b1 p1 q1]) (e2 : EAt m d2 [.int .i64 x2, .string s2, .string t2, .slice a2 n2 c2, .slice b2 p2 q2])
    (i : Nat) (hi : i < 3) : ∃ (o : Int) (k n : ByteArray) (va : Option Addr) (vn vc : Nat) (ka : Option Addr) (kn kc : Nat) (d : ED), w.cell? ⟨g, i * 5, none⟩ = some (.int .i64 o) ∧ w.cell? ⟨g, i * 5 + 1, none⟩ = some (.string k) ∧ w.cell? ⟨g, i * 5 + 2, none⟩ = some (.string n) ∧
      w.cell? ⟨g, i * 5 + 3, none⟩ = some (.slice va vn vc) ∧ w.cell? ⟨g, i * 5 + 4, none⟩ = some (.slice ka kn kc) ∧ EAt m d [.int .i64 o, .string k, .string n, .slice va vn vc, .slice ka kn kc] := by
  rcases (show i = 0 ∨ i = 1 ∨ i = 2 by omega) with rfl | rfl | rfl
  · exact ⟨_, _, _, _, _, _, _, _, _, _, h.cell 0, h.cell 1, h.cell 2, h.cell 3, h.cell 4, e0⟩
  · exact ⟨_, _, _, _, _, _, _, _, _, _, h.cell 5, h.cell 6, h.cell 7, h.cell 8, h.cell 9, e1⟩
  · exact ⟨_, _, _, _, _, _, _, _, _, _, h.cell 10, h.cell 11, h.cell 12, h.cell 13, h.cell 14, e2⟩
set_option maxRecDepth 100000 in
set_option maxHeartbeats 16000000 in
theorem conditions_walk (a : Option Addr) (n c : Nat) (drop : Int) (hp0 : -9223372036854775808 ≤ drop) (hp1 : drop ≤ 9223372036854775807) (d0 : ED) (r0 : List Value) (w : World) (h : BytesAt w.cell? a n c) (hg : ∀ b, w.heap.size ≤ b → Glob (but b w)) (hE0 : EAt w.cell? d0 r0) :
    Calls Tryd.prog 3 #[.slice a n c, .int .i64 drop, .agg r0.toArray] w fun e w' => e = .returned (.bool true) ∧ Below w.heap.size w w' := by
  obtain ⟨op0, kd0, nm0, va0, vn0, vc0, ka0, kn0, kc0, rfl⟩ := eat_five hE0
  have hA := Lib.hid h
  have hg0 := Lib.hid hg
  replace hE0 := Lib.hid hE0
  clear h hg
  go_enter Tryd.func3, Tryd.ntmps3
  go_wp2_with fail
  refine (awake_any _).mono ?_
  rintro e w1 ⟨rfl, hb1⟩
  have hR1 := (Own.new w #[.int .i64 op0, .string kd0, .string nm0, .slice va0 vn0 vc0, .slice ka0 kn0 kc0] 26).below hb1 (by simp)
  have hB1 : Hid (Below w.heap.size w w1) := Lib.hid (((Below.refl w.heap.size w).alloc (Nat.le_refl _) (.cells #[.int .i64 op0, .string kd0, .string nm0, .slice va0 vn0 vc0, .slice ka0 kn0 kc0] 26)).trans (hb1.mono (by simp)))
  clear hb1
  obtain ⟨p0, p1, p2, p3, p4, -⟩ := own5 hR1
  have hxl : w.heap.size < w1.heap.size := hR1.lt
  replace hR1 := Lib.hid hR1
  go_wp2_with fail
  all_goals (try (go_ret; exact ⟨rfl, hB1.out⟩))
  refine (new_any a n c 120 _ (by omega) (by omega) (hA.out.mono (sub_of_below (hB1.out.mono (by omega))))).mono ?_
  rintro e w2 ⟨rfl, ⟨a', n', c', hC⟩, hb2⟩
  have hsz : w.heap.size ≤ w1.heap.size := hB1.out.size
  have hB2 := Lib.hid (hB1.out.trans (hb2.mono hsz))
  have hg2 := Lib.hid ((hg0.out w1.heap.size hsz).mono (sub_of_grown (grown_of_below ((hB1.out.trans (hb2.mono hsz)).mono (Nat.le_refl _)) _)))
  have hR2 := hR1.out.below hb2 hR1.out.lt
  have hlt := hC.lt
  have hC2 := Lib.hid hC
  clear hC hb2 hR1 p0 p1 p2 p3 p4
  go_wp2_with fail
  refine (declared_any _).mono ?_
  rintro e w3 ⟨rfl, rfl⟩
  go_wp2_with fail
  have e3 : (w2.alloc (.cells declArr 41)).heap.size = w2.heap.size + 1 := by simp
  have hS3 := Own.new (w2.alloc (.cells declArr 41)) #[.string ⟨#[97, 108, 112, 104, 97]⟩, .string ⟨#[98, 101, 116, 97]⟩] 9
  rw [e3] at hS3
  have hD3 := (Own.new w2 declArr 41).alloc (.cells #[.string ⟨#[97, 108, 112, 104, 97]⟩, .string ⟨#[98, 101, 116, 97]⟩] 9)
  have hG3 : w2.grownBy ((w2.alloc (.cells declArr 41)).alloc (.cells #[.string ⟨#[97, 108, 112, 104, 97]⟩, .string ⟨#[98, 101, 116, 97]⟩] 9)) none := g_alloc (g_alloc (grown_refl _ _) _) _
  have hK3 : Held w1.heap.size a' n' c' w w2.heap.size (w2.heap.size + 1) w.heap.size #[.string ⟨#[97, 108, 112, 104, 97]⟩, .string ⟨#[98, 101, 116, 97]⟩] #[.int .i64 op0, .string kd0, .string nm0, .slice va0 vn0 vc0, .slice ka0 kn0 kc0] (fun _ => none) ((w2.alloc (.cells declArr 41)).alloc (.cells #[.string ⟨#[97, 108, 112, 104, 97]⟩, .string ⟨#[98, 101, 116, 97]⟩] 9)) :=
    ⟨hC2.out.still (grown_none hG3 _) ((hC2.out.1.alloc _).alloc _), hg2.out.mono (sub_of_grown (grown_none hG3 _)), (hB2.out.alloc hB2.out.size _).alloc (by have := hB2.out.size; simp; omega) _, hsz, hD3, by omega, hS3, by omega, (hR2.alloc _).alloc _, by omega, (fun p v hp => by cases hp), (fun p v hp => by cases hp)⟩
  generalize (w2.alloc (.cells declArr 41)).alloc (.cells _ 9) = w3 at hK3 ⊢
  clear e3 hC2 hg2 hB2 hS3 hD3 hG3 hR2
  refine (dexpr_any w1.heap.size a' n' c' _ [⟨#[97, 108, 112, 104, 97]⟩, ⟨#[98, 101, 116, 97]⟩] (by simp) 3 3 w3 (by omega) (by omega) (by omega) hK3.codes hK3.glob (rows_in (seg_rows hK3.s 2 (by omega)) (fun n hn p hp => by
    have e : w2.heap.size + 1 = n := by simpa [Value.ownBlock] using hn
    unfold but
    rw [if_neg (by omega)]))).mono ?_
  rintro e w4 ⟨⟨d, op, kd, nm, va, vn, vc, ka, kn, kc, rfl, hE, hF⟩, hH, hG⟩
  have hK4' := hK3.call hG hH
  have hK4 : Held w1.heap.size a' n' c' w w2.heap.size (w2.heap.size + 1) w.heap.size #[.string ⟨#[97, 108, 112, 104, 97]⟩, .string ⟨#[98, 101, 116, 97]⟩] #[.int .i64 op0, .string kd0, .string nm0, .slice va0 vn0 vc0, .slice ka0 kn0 kc0] (newM w3.heap.size w1.heap.size w4) w4 :=
    ⟨hK4'.codes, hK4'.glob, hK4'.low, hK4'.hb, hK4'.d, hK4'.nd, hK4'.s, hK4'.ns, hK4'.r, hK4'.nr, (newM_but _ _ _).trans (but_sub _ _), newM_off _ _ _⟩
  have hM4 := newM_off w3.heap.size w1.heap.size w4
  have h14 : w1.heap.size < w4.heap.size := hK4.codes.lt
  clear hK3 hK4' hG hH
  generalize newM w3.heap.size w1.heap.size w4 = M4 at hK4 hE hM4
  have hF1 := hF.1
  have hF2 := hF.2
  clear hF
  have hX5 := Own.new w4 #[.int .i64 op, .string kd, .string nm, .slice va vn vc, .slice ka kn kc] 26
  have hK5 := Lib.hid (hK4.more (World.grownBy_alloc w4 (.cells #[.int .i64 op, .string kd, .string nm, .slice va vn vc, .slice ka kn kc] 26) none))
  clear hK4
  have hw5 : (w4.alloc (.cells #[.int .i64 op, .string kd, .string nm, .slice va vn vc, .slice ka kn kc] 26)).heap.size = w4.heap.size + 1 := by simp
  go_wp2_with fail
  refine (expr_any declD [⟨#[97, 108, 112, 104, 97]⟩, ⟨#[98, 101, 116, 97]⟩] _ _ (w4.alloc (.cells #[.int .i64 op, .string kd, .string nm, .slice va vn vc, .slice ka kn kc] 26)).cell? (rows_of_own hK5.out.d 3 (declD.map DD.row) (by intro r hr; obtain ⟨d, -, rfl⟩ := List.mem_map.1 hr; rfl) (by rfl) 8 (by decide) (by decide)) (seg_rows hK5.out.s 2 (by omega)) _ _ (hE.mono hK5.out.sub) (w4.alloc (.cells #[.int .i64 op, .string kd, .string nm, .slice va vn vc, .slice ka kn kc] 26)) (Sub.refl _)).mono ?_
  rintro e w6 ⟨rfl, hb6⟩
  have hF1' : exprS declD (List.take 2 [⟨#[97, 108, 112, 104, 97]⟩, ⟨#[98, 101, 116, 97]⟩]) d = 0 := hF1
  have hK6 := Lib.hid (hK5.out.below hb6)
  have hX6 := Lib.hid (hX5.below hb6 (by simp))
  have hE6 := Lib.hid hE
  have hX6l : w4.heap.size < w6.heap.size := hX6.out.lt
  rw [hF1]
  clear hK5 hX5 hE hF1' hw5 hb6
  go_wp2_with fail
  refine (mod_any drop 8 _ (by omega) (by omega) hp0 hp1).mono ?_
  rintro e w7 ⟨⟨q, rfl, hq0, hq1⟩, rfl⟩
  obtain ⟨k, rfl⟩ : ∃ k : Nat, q = (k : Int) := ⟨q.toNat, by omega⟩
  have hk : k < 8 := by omega
  go_wp2_with fail
  obtain ⟨i0, hi, hz0, hz1, hz2⟩ := info_parts infoD
  have hwk : IntKind.i64.wrap ((k : Int) + 1) = (k : Int) + 1 := IntWalk.i64_in _ (by omega)
  have hk7 : (k : Int) ≤ 7 := by omega
  have hk8 : (k : Int) ≤ 8 := by omega
  have hk0 : (0 : Int) ≤ (k : Int) := by omega
  obtain ⟨al, hal⟩ : ∃ al : Nat, Hid (al = if k = 7 then 0 else (k + 1) * 3) := ⟨_, Lib.hid rfl⟩
  refine wp_region_held_drew (S := fun W => w6.grownBy W none) (by kernel_rfl) (grown_drew w6 none) (fun hHeld => ?_)
  generalize w6.drew = wd at hHeld ⊢
  refine wpAnyH_take (i := 0) (oi := ?oi1) (v := ?v1) ?ho1 (by kernel_rfl) (by kernel_rfl) (by kernel_rfl) ?hp1 (Or.inl ⟨?hw1, ?hy1⟩) (by assumption) ?rest1
  case ho1 => simp only [List.getElem?_toArray, List.getElem?_cons_zero]; rfl
  case hp1 => exact fun _ _ _ h => h
  case hw1 => rfl
  case hy1 =>
    intro W hSw
    go_simp
    try exact rfl
  simp only [Act.put, List.setIfInBounds_toArray, List.set_cons_zero, List.set_cons_succ]
  refine wpAnyH_take (i := 1) (oi := ?oi2) (v := ?v2) ?ho2 (by kernel_rfl) (by kernel_rfl) (by kernel_rfl) ?hp2 (Or.inl ⟨?hw2, ?hy2⟩) (by assumption) ?rest2
  case ho2 => simp only [List.getElem?_toArray, List.getElem?_cons_succ, List.getElem?_cons_zero]; rfl
  case hp2 => exact fun _ _ _ h => h
  case hw2 => rfl
  case hy2 =>
    intro W hSw
    go_simp
    try exact rfl
  simp only [Act.put, List.setIfInBounds_toArray, List.set_cons_zero, List.set_cons_succ]
  refine wpAnyH_take (i := 2) (oi := ?oi3) (v := ?v3) ?ho3 (by kernel_rfl) (by kernel_rfl) (by kernel_rfl) ?hp3 (Or.inl ⟨?hw3, ?hy3⟩) (by assumption) ?rest3
  case ho3 => simp only [List.getElem?_toArray, List.getElem?_cons_succ, List.getElem?_cons_zero]; rfl
  case hp3 => exact fun _ _ _ h => h
  case hw3 => rfl
  case hy3 =>
    intro W hSw
    go_simp
    try exact rfl
  simp only [Act.put, List.setIfInBounds_toArray, List.set_cons_zero, List.set_cons_succ]
  refine wpAnyH_take (i := 4) (oi := ?oi4) (v := ?v4) ?ho4 (by kernel_rfl) (by kernel_rfl) (by kernel_rfl) ?hp4 (Or.inl ⟨?hw4, ?hy4⟩) (by assumption) ?rest4
  case ho4 => simp only [List.getElem?_toArray, List.getElem?_cons_succ, List.getElem?_cons_zero]; rfl
  case hp4 => exact fun _ _ _ h => h
  case hw4 => rfl
  case hy4 =>
    intro W hSw
    go_simp
    try exact rfl
  simp only [Act.put, List.setIfInBounds_toArray, List.set_cons_zero, List.set_cons_succ]
  refine wpAnyH_take (i := 5) (oi := ?oi5) (v := ?v5) ?ho5 (by kernel_rfl) (by kernel_rfl) (by kernel_rfl) ?hp5 (Or.inl ⟨?hw5, ?hy5⟩) (by assumption) ?rest5
  case ho5 => simp only [List.getElem?_toArray, List.getElem?_cons_succ, List.getElem?_cons_zero]; rfl
  case hp5 => exact fun _ _ _ h => h
  case hw5 => rfl
  case hy5 =>
    intro W hSw
    go_simp
    try exact rfl
  simp only [Act.put, List.setIfInBounds_toArray, List.set_cons_zero, List.set_cons_succ]
  refine wpAnyH_take (i := 6) (oi := ?oi6) (v := ?v6) ?ho6 (by kernel_rfl) (by kernel_rfl) (by kernel_rfl) ?hp6 (Or.inl ⟨?hw6, ?hy6⟩) (by assumption) ?rest6
  case ho6 => simp only [List.getElem?_toArray, List.getElem?_cons_succ, List.getElem?_cons_zero]; rfl
  case hp6 => exact fun _ _ _ h => h
  case hw6 => rfl
  case hy6 =>
    intro W hSw
    go_simp
    try exact rfl
  simp only [Act.put, List.setIfInBounds_toArray, List.set_cons_zero, List.set_cons_succ]
  refine wpAnyH_take (i := 7) (oi := ?oi7) (v := .slice (some ⟨w2.heap.size, al, none⟩) (7 - k) (7 - k)) ?ho7 (by kernel_rfl) (by kernel_rfl) (by kernel_rfl) ?hp7 (Or.inl ⟨?hw7, ?hy7⟩) (by assumption) ?rest7
  case ho7 => simp only [List.getElem?_toArray, List.getElem?_cons_succ, List.getElem?_cons_zero]; rfl
  case hp7 => exact fun _ _ _ h => h
  case hw7 => rfl
  case hy7 =>
    intro W hSw
    rw [hal.out]
    go_simp
    rw [if_pos ⟨by omega, by omega⟩]
    by_cases h7 : k = 7 <;> simp [h7]
  simp only [Act.put, List.setIfInBounds_toArray, List.set_cons_zero, List.set_cons_succ]
  refine wpAnyH_ready (rs := [3]) (by kernel_rfl) (by simp) ?_
  refine AllReadyH.cons rfl (fun K hK => ?_) AllReadyH.nil
  rw [if_pos (by rfl)]
  refine wp_append_rows _ _ 30 rfl w6.heap.size 41 i0 (.agg #[.string ⟨#[]⟩, .string ⟨#[]⟩, .int .i64 0]) 3 40 Tryd.underlying30 hi hz0 hz1 hz2 rfl (by decide) _ 0 [] rfl (World.ownsRow_nil wd w6.heap.size 41 3) (some ⟨w2.heap.size, 0, none⟩) k 8 ((declD.take k).map DD.row) wd.cell? rfl (decl_low (hK6.out.more hHeld).d k (by omega)) (Sub.refl _) (rows3 _) (flat3_one _) (by unfold maxLen; omega) (by omega) hHeld.size (fun vqa wqa ho hg => ?_)
  have hH2 : w6.grownBy wqa none := g_own hHeld hg (fun i e => by cases e)
  refine hK.out _ _ hH2 (fun hHeld => ?_)
  clear hK K hg hH2
  have hOa := ho
  clear ho
  try simp only [Act.put]
  generalize wqa = wva at hHeld hOa ⊢
  refine wpAnyH_ready (rs := [8]) (by kernel_rfl) (by simp) ?_
  refine AllReadyH.cons rfl (fun K hK => ?_) AllReadyH.nil
  rw [if_pos (by rfl)]
  refine wp_append_rows _ _ 30 rfl w6.heap.size 41 i0 (.agg #[.string ⟨#[]⟩, .string ⟨#[]⟩, .int .i64 0]) 3 40 Tryd.underlying30 hi hz0 hz1 hz2 rfl (by decide) _ (0 + k) ([] ++ ((declD.take k).map DD.row).flatten) rfl hOa (some ⟨w2.heap.size, al, none⟩) (7 - k) (7 - k) ((declD.drop (k + 1)).map DD.row) wva.cell? rfl (decl_high (hK6.out.more hHeld).d k (by omega) hal.out) (Sub.refl _) (rows3 _) (flat3_one _) (by unfold maxLen; omega) (by omega) hHeld.size (fun vqb wqb ho hg => ?_)
  have hH2 : w6.grownBy wqb none := g_own hHeld hg (fun i e => (hOa.lt i e).1)
  refine hK.out _ _ hH2 (fun hHeld => ?_)
  clear hK K hg hH2
  have hOb := ho
  clear ho
  try simp only [Act.put]
  generalize wqb = wvb at hHeld hOb ⊢
  refine wpAnyH_take (i := 9) (oi := ?oi8) (v := ?v8) ?ho8 (by kernel_rfl) (by kernel_rfl) (by kernel_rfl) ?hp8 (Or.inl ⟨?hw8, ?hy8⟩) (by assumption) ?rest8
  case ho8 => simp only [List.getElem?_toArray, List.getElem?_cons_succ, List.getElem?_cons_zero]; rfl
  case hp8 => exact fun _ _ _ h => h
  case hw8 => rfl
  case hy8 =>
    intro W hSw
    go_simp
    try exact rfl
  simp only [Act.put]
  refine wpAnyH_done (by kernel_rfl) ?_ _
  rw [List.nil_append] at hOb
  have hg12 := hHeld.size
  have hK12 := hK6.out.more hHeld
  have hX12 := hX6.out.kept hHeld (by simp)
  rw [show 0 + k + (7 - k) = 7 by omega] at hOb
  obtain ⟨vla, vlc, rfl⟩ := owns_slice hOb
  replace hOb := Lib.hid hOb
  clear hHeld hOa hK6 hX6 hal hwk hk7 hk8 hk0 hi hz0 hz1 hz2
  obtain ⟨p0, p1, p2, p3, p4, -⟩ := own5 hX12
  replace hX12 := Lib.hid hX12
  have hcall := Lib.hid (cond_any w1.heap.size a' n' c' 4 (by omega) M4 hM4 hE6.out hF2 wvb hK12.codes hK12.glob hK12.sub)
  replace hK12 := Lib.hid hK12
  go_wp2_with fail
  refine hcall.out.mono ?_
  rintro e w13 ⟨⟨M', d', op', kd', nm', va', vn', vc', ka', kn', kc', rfl, -, hsub, hob, hE'⟩, hH, hG⟩
  have hK13 := hK12.out.call hG hH
  have hX13 := hX12.out.kept hG (by intro e; injection e with e; omega)
  have hO13 := owns_kept hOb.out hG (by omega)
  have h13 := hG.size
  have hK14 := hK13.more (World.grownBy_alloc w13 (.cells #[.int .i64 op', .string kd', .string nm', .slice va' vn' vc', .slice ka' kn' kc'] 26) none)
  have hX14 := hX13.alloc (.cells #[.int .i64 op', .string kd', .string nm', .slice va' vn' vc', .slice ka' kn' kc'] 26)
  have hY14 := Own.new w13 #[.int .i64 op', .string kd', .string nm', .slice va' vn' vc', .slice ka' kn' kc'] 26
  have hO14 := hO13.alloc (.cells #[.int .i64 op', .string kd', .string nm', .slice va' vn' vc', .slice ka' kn' kc'] 26)
  have hs14 := sub_alloc hsub (.cells #[.int .i64 op', .string kd', .string nm', .slice va' vn' vc', .slice ka' kn' kc'] 26)
  have hw14 : (w13.alloc (.cells #[.int .i64 op', .string kd', .string nm', .slice va' vn' vc', .slice ka' kn' kc'] 26)).heap.size = w13.heap.size + 1 := by simp
  obtain ⟨p0, p1, p2, p3, p4, -⟩ := own5 hX14
  obtain ⟨q0, q1, q2, q3, q4, -⟩ := own5 hY14
  obtain ⟨r0, r1, r2, r3, r4, -⟩ := own5 hK14.r
  clear hK13 hX13 hO13 hcall hK12 hX12 hOb hG hH
  replace hK14 := Lib.hid hK14
  replace hX14 := Lib.hid hX14
  replace hY14 := Lib.hid hY14
  replace hO14 := Lib.hid hO14
  replace hE' := Lib.hid hE'
  replace hs14 := Lib.hid hs14
  clear hsub
  go_wp2_with fail
  have hEb := Own.new (w13.alloc (.cells #[.int .i64 op', .string kd', .string nm', .slice va' vn' vc', .slice ka' kn' kc'] 26)) #[.int .i64 op, .string kd, .string nm, .slice va vn vc, .slice ka kn kc, .int .i64 op', .string kd', .string nm', .slice va' vn' vc', .slice ka' kn' kc', .int .i64 op0, .string kd0, .string nm0, .slice va0 vn0 vc0, .slice ka0 kn0 kc0] 26
  rw [hw14] at hEb
  have hG15 : (w13.alloc (.cells #[.int .i64 op', .string kd', .string nm', .slice va' vn' vc', .slice ka' kn' kc'] 26)).grownBy ((w13.alloc (.cells #[.int .i64 op', .string kd', .string nm', .slice va' vn' vc', .slice ka' kn' kc'] 26)).alloc (.cells #[.int .i64 op, .string kd, .string nm, .slice va vn vc, .slice ka kn kc, .int .i64 op', .string kd', .string nm', .slice va' vn' vc', .slice ka' kn' kc', .int .i64 op0, .string kd0, .string nm0, .slice va0 vn0 vc0, .slice ka0 kn0 kc0] 26)) none := g_alloc (grown_refl _ _) _
  have hK15 := hK14.out.more hG15
  have hO15 := hO14.out.alloc (.cells #[.int .i64 op, .string kd, .string nm, .slice va vn vc, .slice ka kn kc, .int .i64 op', .string kd', .string nm', .slice va' vn' vc', .slice ka' kn' kc', .int .i64 op0, .string kd0, .string nm0, .slice va0 vn0 vc0, .slice ka0 kn0 kc0] 26)
  have hs15 := sub_alloc hs14.out (.cells #[.int .i64 op, .string kd, .string nm, .slice va vn vc, .slice ka kn kc, .int .i64 op', .string kd', .string nm', .slice va' vn' vc', .slice ka' kn' kc', .int .i64 op0, .string kd0, .string nm0, .slice va0 vn0 vc0, .slice ka0 kn0 kc0] 26)
  generalize (w13.alloc (.cells #[.int .i64 op', .string kd', .string nm', .slice va' vn' vc', .slice ka' kn' kc'] 26)).alloc (.cells #[.int .i64 op, .string kd, .string nm, .slice va vn vc, .slice ka kn kc, .int .i64 op', .string kd', .string nm', .slice va' vn' vc', .slice ka' kn' kc', .int .i64 op0, .string kd0, .string nm0, .slice va0 vn0 vc0, .slice ka0 kn0 kc0] 26) = w15 at hEb hK15 hO15 hs15 ⊢
  clear hG15 hK14 hX14 hY14 hO14 hs14 hw14
  have hlD : declD.length = 8 := rfl
  have hDr : RowsAt w15.cell? 3 (.slice (some ⟨w2.heap.size, 0, none⟩) 8 8) (declD.map DD.row) := rows_of_own hK15.d 3 (declD.map DD.row) (rows3 _) (by rfl) 8 (by decide) (by decide)
  have hLr : RowsAt w15.cell? 3 (.slice vla 7 vlc) ((declD.take k ++ declD.drop (k + 1)).map DD.row) := rows_of_owns hO15 _ (by simp [hlD] <;> omega) (rows3 _) (by rw [List.map_append, List.flatten_append])
  have hSr := Lib.hid (fun (q : Nat) (hq : q ≤ 2) => seg_rows hK15.s q hq)
  have hB15 := Lib.hid hK15.low
  obtain ⟨ex, he⟩ : ∃ ex : Nat, ex = w13.heap.size + 1 := ⟨_, rfl⟩
  rw [← he] at hEb ⊢
  have hexl : ex < w15.heap.size := hEb.lt
  have hrow := Lib.hid (three_rows hEb (hE6.out.mono hK15.sub) (hE'.out.mono hs15) (hE0.out.mono ((sub_of_below (hK15.low.mono (Nat.le_refl _))))))
  have hlow := Lib.hid (show ∀ j, j < 2 → ∃ (la : Option Addr) (ln lc : Nat) (dl : List DD), (#[.slice (some ⟨w2.heap.size, 0, none⟩) 8 8, .slice vla 7 vlc] : Array Value)[j]? = some (.slice la ln lc) ∧ RowsAt w15.cell? 3 (.slice la ln lc) (dl.map DD.row) from fun j hj => by
    rcases (show j = 0 ∨ j = 1 by omega) with rfl | rfl
    · exact ⟨_, _, _, _, rfl, hDr⟩
    · exact ⟨_, _, _, _, rfl, hLr⟩)
  clear hEb hK15 hO15 hs15 hDr hLr hE0 hE6 hE' hlD hA hg0 hB1 he
  go_loopw [64] (fun s64 wr => ∃ i : Nat, i ≤ 3 ∧ s64 = .int .i64 i ∧ Hid (Below w15.heap.size w15 wr)) (fun s64 _ => 3 - (intOf s64).toNat)
  case atStart => exact ⟨0, by omega, rfl, Lib.hid (Below.refl _ _)⟩
  case round =>
    obtain ⟨i, hi, rfl, hBw⟩ := hrel
    by_cases hi3 : i < 3
    case neg =>
      go_wp2
      go_ret
      exact ⟨rfl, hB15.out.trans (hBw.out.mono hB15.out.size)⟩
    obtain ⟨xo, xk, xn, xva, xvn, xvc, xka, xkn, xkc, dx, hc0, hc1, hc2, hc3, hc4, hEx⟩ := hrow.out i hi3
    replace hc0 := sub_of_below hBw.out _ _ hc0
    replace hc1 := sub_of_below hBw.out _ _ hc1
    replace hc2 := sub_of_below hBw.out _ _ hc2
    replace hc3 := sub_of_below hBw.out _ _ hc3
    replace hc4 := sub_of_below hBw.out _ _ hc4
    replace hEx := Lib.hid hEx
    have n0 : (0 : Int) ≤ (i : Int) := by omega
    have n1 : (i : Int) < 3 := by omega
    have hwl : ex < wr.heap.size := by have := hBw.out.size; omega
    go_wp2_with fail
    have hbx : Own ((wr.alloc (.cells #[.int .i64 xo, .string xk, .string xn, .slice xva xvn xvc, .slice xka xkn xkc] 26)).alloc (.cells #[.slice (some ⟨w2.heap.size, 0, none⟩) 8 8, .slice vla 7 vlc] 30)) wr.heap.size #[.int .i64 xo, .string xk, .string xn, .slice xva xvn xvc, .slice xka xkn xkc] 26 := (Own.new wr _ _).alloc _
    have hlb := Own.new (wr.alloc (.cells #[.int .i64 xo, .string xk, .string xn, .slice xva xvn xvc, .slice xka xkn xkc] 26)) #[.slice (some ⟨w2.heap.size, 0, none⟩) 8 8, .slice vla 7 vlc] 30
    rw [show (wr.alloc (.cells #[.int .i64 xo, .string xk, .string xn, .slice xva xvn xvc, .slice xka xkn xkc] 26)).heap.size = wr.heap.size + 1 by simp] at hlb
    have hB17 : Below w15.heap.size w15 ((wr.alloc (.cells #[.int .i64 xo, .string xk, .string xn, .slice xva xvn xvc, .slice xka xkn xkc] 26)).alloc (.cells #[.slice (some ⟨w2.heap.size, 0, none⟩) 8 8, .slice vla 7 vlc] 30)) := (hBw.out.alloc hBw.out.size _).alloc (by have := hBw.out.size; simp; omega) _
    generalize (wr.alloc (.cells #[.int .i64 xo, .string xk, .string xn, .slice xva xvn xvc, .slice xka xkn xkc] 26)).alloc (.cells #[.slice (some ⟨w2.heap.size, 0, none⟩) 8 8, .slice vla 7 vlc] 30) = w17 at hbx hlb hB17 ⊢
    obtain ⟨bx, hbxe⟩ : ∃ bx : Nat, bx = wr.heap.size := ⟨_, rfl⟩
    rw [← hbxe] at hbx hlb ⊢
    have hbl : bx < w17.heap.size := hbx.lt
    have hll : bx + 1 < w17.heap.size := hlb.lt
    replace hbx := Lib.hid hbx
    replace hlb := Lib.hid hlb
    replace hB17 := Lib.hid hB17
    clear hc0 hc1 hc2 hc3 hc4 n0 n1 hwl hbxe hBw
    go_loopw [72] (fun s72 wr => ∃ j : Nat, j ≤ 2 ∧ s72 = .int .i64 j ∧ Hid (Below w17.heap.size w17 wr)) (fun s72 _ => 2 - (intOf s72).toNat)
    case atStart => exact ⟨0, by omega, rfl, Lib.hid (Below.refl _ _)⟩
    case round =>
      obtain ⟨j, hj, rfl, hBm⟩ := hrel
      by_cases hj2 : j < 2
      case neg =>
        have hBz := Lib.hid (hB17.out.trans (hBm.out.mono hB17.out.size))
        go_wp2
        go_roundw
        case rel => exact ⟨i + 1, by omega, by go_num, hBz⟩
        case measure => simp [intOf]; omega
      obtain ⟨la, ln, lc, dl, hcl, hrl⟩ := hlow.out j hj2
      have hcl2 : wr.cell? ⟨bx + 1, j, none⟩ = some (.slice la ln lc) := by rw [(hlb.out.below hBm.out hll).cell]; exact hcl
      replace hrl := Lib.hid hrl
      have n0 : (0 : Int) ≤ (j : Int) := by omega
      have n1 : (j : Int) < 2 := by omega
      go_wp2_with fail
      clear hcl hcl2 n0 n1
      obtain ⟨wo, hwo⟩ : ∃ wo : World, wo = wr := ⟨_, rfl⟩
      go_loopw [18] (fun s18 wr => ∃ q : Nat, q ≤ 3 ∧ s18 = .int .i64 q ∧ Hid (Below w17.heap.size w17 wr)) (fun s18 _ => 3 - (intOf s18).toNat)
      case atStart => exact ⟨0, by omega, rfl, hBm⟩
      case round =>
        clear hBm hwo
        obtain ⟨q, hq, rfl, hBq⟩ := hrel
        by_cases hq3 : q ≤ 2
        case neg =>
          go_wp2
          go_roundw
          case rel => exact ⟨j + 1, by omega, by go_num, hBq⟩
          case measure => simp [intOf]; omega
        have n0 : (0 : Int) ≤ (q : Int) := by omega
        have n1 : (q : Int) ≤ 2 := by omega
        have hbq := hbx.out.below hBq.out hbl
        obtain ⟨p0, p1, p2, p3, p4, -⟩ := own5 hbq
        have k0 := cell_regrown p0
        have k1 := cell_regrown p1
        have k2 := cell_regrown p2
        have k3 := cell_regrown p3
        have k4 := cell_regrown p4
        have hsub15 : ∀ (dq : Nat) (os : Array Obj), Sub w15.cell? (Sort.grow (redrawn wr dq) os).cell? := fun dq os => sub_of_below ((hB17.out.trans (hBq.out.mono hB17.out.size)).trans ((below_regrown wr dq os).mono (by have h1 := hB17.out.size; have h2 := hBq.out.size; omega)))
        have cK := Lib.hid (fun (dq : Nat) (os : Array Obj) => Calls.regrown_of (expr_any dl (([⟨#[97, 108, 112, 104, 97]⟩, ⟨#[98, 101, 116, 97]⟩] : List ByteArray).take q) _ _ w15.cell? hrl.out (hSr.out q hq3) _ _ hEx.out (Sort.grow (redrawn wr dq) os) (hsub15 dq os)))
        have cR := Lib.hid (fun (dq : Nat) (os : Array Obj) => Calls.regrown_of (rexpr_any dl (([⟨#[97, 108, 112, 104, 97]⟩, ⟨#[98, 101, 116, 97]⟩] : List ByteArray).take q) _ _ w15.cell? hrl.out (hSr.out q hq3) _ _ hEx.out (Sort.grow (redrawn wr dq) os) (hsub15 dq os)))
        clear hsub15 p0 p1 p2 p3 p4 hbq
        go_wp2_with fail
        refine wp_region_quiet_below (by kernel_rfl) (by kernel_rfl) ?_
        repeat (go_big_quiet_step (first | exact cK.out _ _ | exact cR.out _ _))
        refine wpQuiet_nil ?_
        intro _ hw'
        obtain ⟨⟨dq, osq⟩, hw''⟩ := hw'
        subst hw''
        have hBr := Lib.hid (hBq.out.trans ((below_regrown wr dq osq).mono hBq.out.size))
        clear cK cR k0 k1 k2 k3 k4 n0 n1
        generalize Sort.grow (redrawn wr dq) osq = w23 at hBr ⊢
        go_wp2
        go_roundw
        case rel => exact ⟨q + 1, by omega, by go_num, hBr⟩
        case measure => simp [intOf]; omega

end Go.Proofs.YtblmmldhlbnbiaaDoor.law
