/- The law ValueChecks: which values are valid, or the error, also with one field more. -/
import Derived.Test.YtnghpjijfdpmkaaGreatDoorValLC
import Derived.Test.YtnghpjijfdpmkaaGreatDoorValDS
import Derived.Deep.RegionHeld3
import Derived.Lib.QuietBelow
import Derived.Laws.AppendOwnNone
import Derived.IntWalk
namespace Go.Proofs.YtnghpjijfdpmkaaGreatDoor.law
open Go.RowKit Go.Proofs.YtnghpjijfdpmkaaGreatDoor Go.Proofs.YtnghpjijfdpmkaaGreatDoor.text Go.Proofs.YtnghpjijfdpmkaaGreatDoor.value Go.Proofs.YtnghpjijfdpmkaaGreatDoor.draw

def numbers15 : Array Value := #[.int .i64 0, .int .i64 (-1), .int .i64 1, .int .i64 2, .int .i64 8, .int .i64 9, .int .i64 10000, .int .i64 10001, .int .i64 1099511627776, .int .i64 1099511627777, .int .i64 (-1099511627777), .int .i64 1099511627777, .int .i64 4, .int .i64 5, .int .i64 6]
theorem numbers15_at (j : Nat) (h : j < 15) : ∃ x : Int, numbers15[j]? = some (.int .i64 x) := by
  rcases (show j = 0 ∨ j = 1 ∨ j = 2 ∨ j = 3 ∨ j = 4 ∨ j = 5 ∨ j = 6 ∨ j = 7 ∨ j = 8 ∨ j = 9 ∨ j = 10 ∨ j = 11 ∨ j = 12 ∨ j = 13 ∨ j = 14 by omega) with rfl | rfl | rfl | rfl | rfl | rfl | rfl | rfl | rfl | rfl | rfl | rfl | rfl | rfl | rfl
  all_goals exact ⟨_, rfl⟩
def IsInt (e : Ending) : Prop := ∃ n : Int, e = .returned (.int .i64 n)
set_option maxHeartbeats 400000 in
theorem dnumber_any (b : Nat) (a : Option Addr) (n c : Nat) (w : World) (h : Codes b a n c w) :
    Calls Tryz.prog 12 #[.pointer (some ⟨b, 0, none⟩)] w (Drawn b a n c w fun e _ => IsInt e) := by
  have hC := Lib.hid h
  clear h
  go_enter Tryz.func12, Tryz.ntmps12
  go_wp2_with fail
  refine (next_any b a n c _ 15 (by omega) (by omega) (hC.out.alloc (.cells numbers15 3))).mono ?_
  rintro e w' ⟨⟨m, rfl, hm0, hm1⟩, hH, hG⟩
  obtain ⟨j, rfl⟩ := Int.eq_ofNat_of_zero_le hm0
  obtain ⟨s, hs⟩ := numbers15_at j (by omega)
  have hs := (((Own.new w numbers15 3).kept hG (by have := hC.out.lt; simp; omega)).cell j).trans hs
  have hH1 := Lib.hid hH
  have hG1 := Lib.hid (g_call (g_alloc (grown_refl w _) _) hG)
  clear hH hG
  go_wp2
  go_ret
  exact ⟨⟨_, rfl⟩, hH1.out, hG1.out⟩

theorem infoVal : (Tryz.prog.info? 24).map (fun i => (i.zero, i.size, i.bytes)) = some (some (.agg #[.int .i64 0, .int .i64 0, .string ⟨#[]⟩, .slice none 0 0]), 4, 56) := by kernel_rfl
/-- A list that appends have made. -/
theorem vlist_owns {w : World} {base : Nat} {v : Value} {xs : List VX} (h : w.ownsRow base 24 4 v xs.length (xs.map VX.row).flatten) (h0 : 0 < xs.length) :
    ∃ g c, v = .slice (some ⟨g, 0, none⟩) xs.length c ∧ ∀ k (hk : k < xs.length), VAt w g k xs[k] := by
  rcases h.2 with ⟨-, h1⟩ | ⟨g, cap, cur, h1, hb, hg, hnc, hcm, hcs, htake⟩
  · omega
  · refine ⟨g, cap, h1, fun k hk => ?_⟩
    have hc : ∀ j u, xs[k].row[j]? = some u → w.cell? ⟨g, k * 4 + j, none⟩ = some u := fun j u hj => by
      have h2 := rows_at xs k hk j u hj
      rw [← htake, List.getElem?_take] at h2
      split at h2
      · simp [World.cell?, hg]
        simpa using h2
      · cases h2
    exact ⟨hc 0 _ rfl, hc 1 _ rfl, hc 2 _ rfl, hc 3 _ rfl⟩
theorem four_cells {w : World} {n : Nat} {t : TypeId} {x : VX} (h : Own w n #[.int .i64 x.v.k, .int .i64 x.v.n, .string x.t, .slice x.la x.ls.length x.lc] t) :
    w.cell? ⟨n, 0, none⟩ = some (.int .i64 x.v.k) ∧ w.cell? ⟨n, 1, none⟩ = some (.int .i64 x.v.n) ∧ w.cell? ⟨n, 2, none⟩ = some (.string x.t) ∧ w.cell? ⟨n, 3, none⟩ = some (.slice x.la x.ls.length x.lc) := box4 h
theorem four_free {w : World} {n : Nat} {t : TypeId} {A : Array Value} (h : Own w n A t) : w.frozen? ⟨n, 0, none⟩ = false ∧ w.frozen? ⟨n, 1, none⟩ = false ∧ w.frozen? ⟨n, 2, none⟩ = false ∧ w.frozen? ⟨n, 3, none⟩ = false := ⟨h.free 0, h.free 1, h.free 2, h.free 3⟩
theorem ok_lt {x : VX} {w : World} (h : x.Ok w) : x.ls ≠ [] → ∀ a, x.la = some a → a.block < w.heap.size := by
  intro hne a ha
  rcases h.ok.rows with h0 | ⟨blk, off, h1, h2⟩
  · exact absurd h0 hne
  · rw [h1] at ha
    injection ha with ha
    subst ha
    have hp : 0 < x.ls.length := by cases hl : x.ls with | nil => exact absurd hl hne | cons a r => simp
    exact World.block_lt_of_cell? w _ (h2 0 hp)
theorem ok_grown {x : VX} {w w' : World} {r : Option Nat} (h : x.Ok w) (g : w.grownBy w' r) (hb : x.ls ≠ [] → ∀ a, x.la = some a → r ≠ some a.block) : x.Ok w' := by
  refine ⟨⟨h.ok.text, ?_, h.ok.list⟩, h.tz, h.lz⟩
  rcases h.ok.rows with h0 | ⟨blk, off, h1, h2⟩
  · exact Or.inl h0
  · by_cases hne : x.ls = []
    · exact Or.inl hne
    · exact Or.inr ⟨blk, off, h1, fun k hk => g.cell (h2 k hk) (fun e => hb hne _ h1 e.symm)⟩
theorem ok_set {x : VX} {w : World} {b o : Nat} {u : Value} (h : x.Ok w) (hb : x.ls ≠ [] → ∀ a, x.la = some a → a.block ≠ b) : x.Ok (w.setCell ⟨b, o, none⟩ u) := ok_grown h (gset w b o u) (fun h1 a h2 e => by injection e with e; exact hb h1 a h2 e.symm)
theorem lin_add {w : World} {ad : Addr} {ls : List ByteArray} (h : LIn w (some ad) ls) : ∀ i u, (ls.map Value.string)[i]? = some u → w.cell? (ad.add i) = some u := by
  intro i u hu
  rcases h with h0 | ⟨blk, off, h1, h2⟩
  · subst h0; simp at hu
  · injection h1 with h1
    subst h1
    rw [List.getElem?_map] at hu
    cases hq : ls[i]? with
    | none => rw [hq] at hu; cases hu
    | some s =>
      rw [hq] at hu
      injection hu with hu
      subst hu
      obtain ⟨hlt, he⟩ := List.getElem?_eq_some_iff.1 hq
      have e : (⟨blk, off, none⟩ : Addr).add i = ⟨blk, off + i, none⟩ := by unfold Addr.add; split <;> simp_all
      rw [e, h2 i hlt, he]
theorem lin_none {w : World} {ls : List ByteArray} (h : LIn w none ls) : ls = [] := by
  rcases h with h0 | ⟨blk, off, h1, h2⟩
  · exact h0
  · cases h1
theorem strs_one (ls : List ByteArray) : ∀ u ∈ ls.map Value.string, u.oneCell' = true := by
  intro u hu
  obtain ⟨s, -, rfl⟩ := List.mem_map.1 hu
  rfl
theorem row_one (z : VX) : ∀ u ∈ z.row, u.oneCell' = true := by
  intro u hu
  simp only [VX.row, List.mem_cons, List.not_mem_nil, or_false] at hu
  rcases hu with rfl | rfl | rfl | rfl <;> rfl
theorem chk_prog {x : VX} {q : Int} (h : checkS x.v = q) {w : World} (hx : x.Ok w) (hT : Tabs w) :
    Calls Tryz.prog 14 #[.agg #[.int .i64 x.v.k, .int .i64 x.v.n, .string x.t, .slice x.la x.ls.length x.lc]] w fun e w' => e = .returned (.int .i64 q) ∧ Below w.heap.size w w' := by
  rw [← h]
  have h1 := hx.tz; have h2 := hx.lz
  exact check_any x.v x.t x.la x.lc x.ls w hx.ok (by omega) (by omega) hT
theorem chk_doc {x : VX} {q : Int} (h : checkS x.v = q) {w : World} (hx : x.Ok w) (hT : Tabs w) :
    Calls Tryz.prog 15 #[.agg #[.int .i64 x.v.k, .int .i64 x.v.n, .string x.t, .slice x.la x.ls.length x.lc]] w fun e w' => e = .returned (.int .i64 q) ∧ Below w.heap.size w w' := by
  rw [← h]
  have h1 := hx.tz
  exact check_ref x.v x.t x.la x.lc x.ls w hx.ok (by omega) hT
theorem ownBlock_len (va : Option Addr) (n m c : Nat) : (Value.slice va n c).ownBlock = (Value.slice va m c).ownBlock := by cases va <;> rfl
theorem lsL_snoc (ls : List ByteArray) (s : ByteArray) : lsL (ls ++ [s]) = lsL ls ++ [s.data.toList] := by simp [lsL]

def x3 (X : VX) : VX := ⟨⟨4, 0, X.t.data.toList, []⟩, X.t, none, 0, []⟩
def x4 (X : VX) : VX := ⟨⟨5, 0, [], lsL X.ls⟩, ⟨#[]⟩, X.la, X.lc, X.ls⟩
def x5 (X : VX) : VX := ⟨⟨3, 0, X.t.data.toList, []⟩, X.t, none, 0, []⟩
theorem checks_list {w wz w12 : World} {X y1 z : VX} {L g : Nat} {R : Array Value} (hX : VOk w X.v X.t X.la X.ls) (ht : X.t.size ≤ 400) (hl : X.ls.length ≤ 40) (hB : Below w.heap.size w wz) (hT : Tabs w) (hyo : y1.Ok wz) (hf1L : y1.ls ≠ [] → ∀ a, y1.la = some a → a.block < L)
    (hz : z.Ok wz) (hzL : z.ls ≠ [] → ∀ a, z.la = some a → a.block ≠ L) (hgrow : (wz.alloc (.cells R 24)).grownBy w12 (some L)) (hLw : w.heap.size ≤ L)
    (hat : ∀ k (hk : k < [X, y1, x3 X, x4 X, x5 X, z].length), VAt w12 g k [X, y1, x3 X, x4 X, x5 X, z][k]) : VList w w12 g [X, y1, x3 X, x4 X, x5 X, z] := by
  have hBz : Below w.heap.size w w12 := (hB.alloc hB.size _).trans (below_of_grown hgrow (by have := hB.size; simp; omega) hLw)
  have hA : Below wz.heap.size wz (wz.alloc (.cells R 24)) := (Below.refl _ _).alloc (Nat.le_refl _) _
  have hXo : VOk w12 X.v X.t X.la X.ls := hX.below hBz
  refine ⟨hBz, hT.below hBz, fun k hk => ⟨hat k hk, ?_⟩⟩
  have hall : ∀ x ∈ [X, y1, x3 X, x4 X, x5 X, z], x.Ok w12 := by
    intro x hx
    simp only [List.mem_cons, List.not_mem_nil, or_false] at hx
    rcases hx with rfl | rfl | rfl | rfl | rfl | rfl
    · exact ⟨hXo, ht, by omega⟩
    · exact ok_grown (hyo.below hA) hgrow (fun h a ha e => by injection e with e; have := hf1L h a ha; omega)
    · exact ⟨⟨rfl, Or.inl rfl, rfl⟩, ht, by show 0 ≤ 41; omega⟩
    · exact ⟨⟨rfl, hXo.rows, rfl⟩, by show 0 ≤ 400; omega, by show X.ls.length ≤ 41; omega⟩
    · exact ⟨⟨rfl, Or.inl rfl, rfl⟩, ht, by show 0 ≤ 41; omega⟩
    · exact ok_grown (hz.below hA) hgrow (fun h a ha e => by injection e with e; exact hzL h a ha e.symm)
  exact hall _ (List.getElem_mem hk)

set_option maxRecDepth 100000 in
set_option maxHeartbeats 8000000 in
theorem checks_walk (X : VX) (a : Option Addr) (n c : Nat) (w : World) (hX : VOk w X.v X.t X.la X.ls) (hmx : X.ls.length ≤ 9223372036854775807) (hC : BytesAt w.cell? a n c) (hT : Tabs w) (hD : DrawTabs w.cell?) (hL : ListTab w.cell?) :
    Calls Tryz.prog 3 #[.agg #[.int .i64 X.v.k, .int .i64 X.v.n, .string X.t, .slice X.la X.ls.length X.lc], .slice a n c] w fun e w' => e = .returned (.bool true) ∧ Below w.heap.size w w' := by
  have hO := Lib.hid (show Own (w.alloc (.cells #[.int .i64 X.v.k, .int .i64 X.v.n, .string X.t, .slice X.la X.ls.length X.lc] 24)) w.heap.size _ 24 from Own.new w _ _)
  have hB := Lib.hid (show Below w.heap.size w (w.alloc (.cells #[.int .i64 X.v.k, .int .i64 X.v.n, .string X.t, .slice X.la X.ls.length X.lc] 24)) from (Below.refl _ _).alloc (Nat.le_refl _) _)
  replace hT := Lib.hid hT
  replace hD := Lib.hid hD
  replace hL := Lib.hid hL
  replace hC := Lib.hid hC
  replace hX := Lib.hid hX
  obtain ⟨j0, hj, hy0, hy1, hy2⟩ := info_parts infoVal
  obtain ⟨i0, hi, hz0, hz1, hz2⟩ := info_parts infoStr
  go_enter Tryz.func3, Tryz.ntmps3
  go_wp2_with fail
  refine (awake_any _ (hT.out.below hB.out)).mono ?_
  rintro e w1 ⟨rfl, hb1⟩
  have hO1 := Lib.hid (hO.out.below hb1 hO.out.lt)
  have hB1 := Lib.hid (hB.out.trans (hb1.mono hB.out.size))
  clear hb1 hO hB
  obtain ⟨a0, a1, a2, a3⟩ := four_cells hO1.out
  go_wp2_with fail
  refine (small_any X.v.k X.v.n X.t X.la X.lc X.ls _ (hX.out.below hB1.out).rows hmx).mono ?_
  rintro e w2 ⟨rfl, hb2⟩
  have hO2 := Lib.hid (hO1.out.below hb2 hO1.out.lt)
  have hB2 := Lib.hid (hB1.out.trans (hb2.mono hB1.out.size))
  clear hb2 hO1 hB1 a0 a1 a2 a3
  cases hsm : smallB X.t X.ls with
  | false =>
    go_wp2
    go_ret
    exact ⟨rfl, hB2.out⟩
  | true =>
    obtain ⟨hl40, ht400⟩ := small_of hsm
    clear hsm hmx
    go_wp2_with fail
    refine (new_any a n c 30 _ (by omega) (by omega) (hC.out.mono (sub_of_below hB2.out))).mono ?_
    rintro e w4 ⟨rfl, ⟨ca, cn, cc, hCo⟩, hb4⟩
    have hO4 := Lib.hid (hO2.out.below hb4 hO2.out.lt)
    have hbo := Lib.hid (show w.heap.size < w2.heap.size from hO2.out.lt)
    have hB4 := Lib.hid (hB2.out.trans (hb4.mono hB2.out.size))
    replace hCo := Lib.hid hCo
    clear hb4 hO2 hB2 hC
    generalize w2.heap.size = b at hCo hbo ⊢
    obtain ⟨a0, a1, a2, a3⟩ := four_cells hO4.out
    have hC4d := Lib.hid hCo.out.drew
    have hO4d := Lib.hid hO4.out.drew
    have hB4d := Lib.hid hB4.out.drew
    have hbw := Lib.hid (show w.heap.size ≤ b by have := hbo.out; omega)
    go_wp2_with fail
    go_region_held3 (fun w' => w'.cell? ⟨w.heap.size, 0, none⟩ = some (.int .i64 X.v.k) ∧ w'.cell? ⟨w.heap.size, 1, none⟩ = some (.int .i64 X.v.n) ∧ w'.cell? ⟨w.heap.size, 2, none⟩ = some (.string X.t) ∧ w'.cell? ⟨w.heap.size, 3, none⟩ = some (.slice X.la X.ls.length X.lc))
      (first | go_keep | exact ⟨d0, d1, d2, d3⟩)
      ((go_at_call 10; refine (dany_any _ ca cn cc _ hC4d.out (tabs_draw hD.out hbw.out hB4d.out) (list_draw hL.out hbw.out hB4d.out)).mono ?_; rintro e u5 ⟨⟨y1, rfl, hy1', -, -, -, hf1⟩, hH5, hG5⟩; have hC5 := Lib.hid (hC4d.out.still hG5 hH5); have hO5 := Lib.hid (hO4d.out.kept hG5 (by have := hbo.out; intro e; injection e with e; omega)); have hB5 := Lib.hid (hB4d.out.trans (below_of_grown hG5 hB4d.out.size hbw.out)); replace hf1 := Lib.hid (show ∀ a, y1.la = some a → a.block ≠ b from fun a e => by have h9 := hf1 a e; have h8 := hC4d.out.lt; omega); obtain ⟨d0, d1, d2, d3⟩ := four_cells hO5.out; have hyo1 := Lib.hid hy1'; clear hH5 hG5 hy1'; unfold VX.val))
    clear a0 a1 a2 a3 d0 d1 d2 d3 hO4 hO4d hC4d hB4 hB4d hCo hO5
    obtain ⟨L, hLe⟩ : ∃ L, Hid (L = u5.heap.size) := ⟨_, rfl⟩
    have hf1L := Lib.hid (show y1.ls ≠ [] → ∀ a, y1.la = some a → a.block < L from by rw [hLe.out]; exact ok_lt hyo1.out)
    have hLb := Lib.hid (show b < L by rw [hLe.out]; exact hC5.out.lt)
    have hB6 := Lib.hid (hB5.out.alloc hB5.out.size (.cells #[.int .i64 X.v.k, .int .i64 X.v.n, .string X.t, .slice X.la X.ls.length X.lc, .int .i64 y1.v.k, .int .i64 y1.v.n, .string y1.t, .slice y1.la y1.ls.length y1.lc, .int .i64 4, .int .i64 0, .string X.t, .slice none 0 0, .int .i64 5, .int .i64 0, .string ⟨#[]⟩, .slice X.la X.ls.length X.lc, .int .i64 3, .int .i64 0, .string X.t, .slice none 0 0] 24))
    have hC6 := Lib.hid (hC5.out.alloc (.cells #[.int .i64 X.v.k, .int .i64 X.v.n, .string X.t, .slice X.la X.ls.length X.lc, .int .i64 y1.v.k, .int .i64 y1.v.n, .string y1.t, .slice y1.la y1.ls.length y1.lc, .int .i64 4, .int .i64 0, .string X.t, .slice none 0 0, .int .i64 5, .int .i64 0, .string ⟨#[]⟩, .slice X.la X.ls.length X.lc, .int .i64 3, .int .i64 0, .string X.t, .slice none 0 0] 24))
    have hyo6 := Lib.hid (hyo1.out.below ((Below.refl _ _).alloc (Nat.le_refl _) (.cells #[.int .i64 X.v.k, .int .i64 X.v.n, .string X.t, .slice X.la X.ls.length X.lc, .int .i64 y1.v.k, .int .i64 y1.v.n, .string y1.t, .slice y1.la y1.ls.length y1.lc, .int .i64 4, .int .i64 0, .string X.t, .slice none 0 0, .int .i64 5, .int .i64 0, .string ⟨#[]⟩, .slice X.la X.ls.length X.lc, .int .i64 3, .int .i64 0, .string X.t, .slice none 0 0] 24)))
    have hR6 := Lib.hid (show (u5.alloc (.cells #[.int .i64 X.v.k, .int .i64 X.v.n, .string X.t, .slice X.la X.ls.length X.lc, .int .i64 y1.v.k, .int .i64 y1.v.n, .string y1.t, .slice y1.la y1.ls.length y1.lc, .int .i64 4, .int .i64 0, .string X.t, .slice none 0 0, .int .i64 5, .int .i64 0, .string ⟨#[]⟩, .slice X.la X.ls.length X.lc, .int .i64 3, .int .i64 0, .string X.t, .slice none 0 0] 24)).ownsRow L 24 4 (.slice (some ⟨L, 0, none⟩) 5 5) 5 _ by
      rw [hLe.out]
      exact World.ownsRow_lit (base := u5.heap.size) (e := 24) (size := 4) u5 _ 5 (Nat.le_refl _) (by decide) (by rfl))
    clear hyo1 hC5 hB5
    go_wp2_with fail
    rw [← hLe.out]
    generalize World.alloc u5 (.cells _ 24) = w6 at hB6 hC6 hyo6 hR6 ⊢
    refine (dany2_any _ ca cn cc _ hC6.out (tabs_draw hD.out hbw.out hB6.out) (list_draw hL.out hbw.out hB6.out)).mono ?_
    rintro e w7 ⟨⟨y, rfl, hy7, -, -, hyl, hf7, hcp7⟩, hH7, hG7⟩
    replace hcp7 := Lib.hid hcp7
    have hC7 := Lib.hid ((hC6.out.still hG7 hH7).alloc (.cells #[.int .i64 y.v.k, .int .i64 y.v.n, .string y.t, .slice y.la y.ls.length y.lc] 24))
    have hB7 := Lib.hid ((hB6.out.trans (below_of_grown hG7 hB6.out.size hbw.out)).alloc (by have := hB6.out.size; have := hG7.size; omega) (.cells #[.int .i64 y.v.k, .int .i64 y.v.n, .string y.t, .slice y.la y.ls.length y.lc] 24))
    have hyo7 := Lib.hid ((hyo6.out.grown hG7 hf1.out).below ((Below.refl _ _).alloc (Nat.le_refl _) (.cells #[.int .i64 y.v.k, .int .i64 y.v.n, .string y.t, .slice y.la y.ls.length y.lc] 24)))
    have hR7 := Lib.hid ((owns_kept hR6.out hG7 hLb.out).alloc (.cells #[.int .i64 y.v.k, .int .i64 y.v.n, .string y.t, .slice y.la y.ls.length y.lc] 24))
    have hP7 := Lib.hid (show Own (w7.alloc (.cells #[.int .i64 y.v.k, .int .i64 y.v.n, .string y.t, .slice y.la y.ls.length y.lc] 24)) w7.heap.size _ 24 from Own.new w7 _ _)
    have hz7 := Lib.hid (hy7.below ((Below.refl _ _).alloc (Nat.le_refl _) (.cells #[.int .i64 y.v.k, .int .i64 y.v.n, .string y.t, .slice y.la y.ls.length y.lc] 24)))
    have hfy := Lib.hid (show ∀ a, y.la = some a → w6.heap.size ≤ a.block from fun a e => hf7 a e)
    have hL6 := Lib.hid (show L < w6.heap.size from by have := (hR6.out.lt L rfl).2; exact this)
    have h67 := Lib.hid hG7.size
    have hy78 := Lib.hid (show y.ls ≠ [] → ∀ a, y.la = some a → a.block < w7.heap.size from ok_lt hy7)
    clear hH7 hG7 hC6 hB6 hyo6 hR6 hy7 hf7
    unfold VX.val
    go_wp2_with fail
    generalize World.alloc w7 (.cells _ 24) = w8 at hC7 hB7 hyo7 hR7 hP7 hz7 ⊢
    generalize w7.heap.size = B7 at hP7 h67 hy78 ⊢
    refine (next_any b ca cn cc _ 4 (by omega) (by omega) hC7.out).mono ?_
    rintro e w9 ⟨⟨m, rfl, hm0, hm1⟩, hH9, hG9⟩
    have hLB := Lib.hid (show L < B7 by have := hL6.out; have := h67.out; omega)
    have hbB := Lib.hid (show b < B7 by have := hLb.out; have := hLB.out; omega)
    have hbL := Lib.hid (show w.heap.size ≤ L by have := hLb.out; have := hbw.out; omega)
    have hC9 := Lib.hid (hC7.out.still hG9 hH9)
    have hB9 := Lib.hid (hB7.out.trans (below_of_grown hG9 hB7.out.size hbw.out))
    have hyo9 := Lib.hid (hyo7.out.grown hG9 hf1.out)
    have hR9 := Lib.hid (owns_kept hR7.out hG9 hLb.out)
    have hP9 := Lib.hid (hP7.out.kept hG9 (by have := hbB.out; intro e; injection e with e; omega))
    have hz9 := Lib.hid (ok_grown hz7.out hG9 (fun _ a ha e => by injection e with e; have h1 := hfy.out a ha; have h2 := hL6.out; have h3 := hLb.out; omega))
    have hfL := Lib.hid (show y.ls ≠ [] → ∀ a, y.la = some a → a.block ≠ L from fun _ a ha => by have h1 := hfy.out a ha; have h2 := hL6.out; omega)
    have hfB := Lib.hid (show y.ls ≠ [] → ∀ a, y.la = some a → a.block ≠ B7 from fun h a ha => by have h1 := hy78.out h a ha; omega)
    have hfb := Lib.hid (show y.ls ≠ [] → ∀ a, y.la = some a → a.block ≠ b from fun _ a ha => by have h1 := hfy.out a ha; have h2 := hL6.out; have h3 := hLb.out; omega)
    have hLz := Lib.hid (show L < w9.heap.size from by have := (hR9.out.lt L rfl).2; exact this)
    clear hH9 hG9 hC7 hB7 hyo7 hR7 hP7 hz7 hfy hL6 h67 hy78 hLe
    have hf1b := Lib.hid (show ∀ a, y1.la = some a → a.block ≠ b from hf1.out)
    clear hf1
    rcases (show m = 0 ∨ m = 1 ∨ m = 2 ∨ m = 3 by omega) with rfl | rfl | rfl | rfl
    · go_wp2_with fail
      refine (dnumber_any b ca cn cc _ hC9.out).mono ?_
      rintro e w10 ⟨⟨x, rfl⟩, hH10, hG10⟩
      have hBc := Lib.hid (hB9.out.trans (below_of_grown hG10 hB9.out.size hbw.out))
      have hyoc := Lib.hid (ok_grown hyo9.out hG10 (fun h a ha e => by injection e with e; have h1 := hf1b.out a ha; omega))
      have hRc := Lib.hid (owns_kept hR9.out hG10 hLb.out)
      have hPc := Lib.hid (hP9.out.kept hG10 (by have := hbB.out; intro e; injection e with e; omega))
      have hzc := Lib.hid (ok_grown hz9.out hG10 (fun h a ha e => by injection e with e; exact hfb.out h a ha e.symm))
      clear hH10 hG10 hC9 hB9 hyo9 hR9 hP9 hz9
      have hBz := Lib.hid (show Below w.heap.size w (w10.setCell ⟨B7, 1, none⟩ (.int .i64 x)) from hBc.out.setCell (by have := hbB.out; have := hbw.out; simp; omega) _)
      have hyoz := Lib.hid (show y1.Ok (w10.setCell ⟨B7, 1, none⟩ (.int .i64 x)) from ok_set hyoc.out (fun h a ha => by have h1 := hf1L.out h a ha; have h2 := hLB.out; omega))
      have hRz := Lib.hid (show (w10.setCell ⟨B7, 1, none⟩ (.int .i64 x)).ownsRow L 24 4 (.slice (some ⟨L, 0, none⟩) 5 5) 5 _ from hRc.out.kept (gset _ _ _ _) (Or.inr (by intro e; injection e with e; have := hLB.out; simp at e; omega)))
      have hPz := Lib.hid (show Own (w10.setCell ⟨B7, 1, none⟩ (.int .i64 x)) B7 #[.int .i64 y.v.k, .int .i64 x, .string y.t, .slice y.la y.ls.length y.lc] 24 from hPc.out.set 1 _)
      obtain ⟨z, hzd⟩ : ∃ z : VX, Hid (z = ⟨⟨y.v.k, x, y.v.t, y.v.l⟩, y.t, y.la, y.lc, y.ls⟩) := ⟨⟨⟨y.v.k, x, y.v.t, y.v.l⟩, y.t, y.la, y.lc, y.ls⟩, rfl⟩
      have hzz := Lib.hid (show z.Ok (w10.setCell ⟨B7, 1, none⟩ (.int .i64 x)) by rw [hzd.out]; exact ok_set (x := ⟨⟨y.v.k, x, y.v.t, y.v.l⟩, y.t, y.la, y.lc, y.ls⟩) ⟨⟨hzc.out.ok.text, hzc.out.ok.rows, hzc.out.ok.list⟩, hzc.out.tz, hzc.out.lz⟩ hfB.out)
      have hzL := Lib.hid (show z.ls ≠ [] → ∀ a, z.la = some a → a.block ≠ L by rw [hzd.out]; exact hfL.out)
      have hLw := Lib.hid (show L < (w10.setCell ⟨B7, 1, none⟩ (.int .i64 x)).heap.size from by have := (hRz.out.lt L rfl).2; exact this)
      obtain ⟨c0, c1, c2, c3⟩ := box4 hPc.out
      obtain ⟨f0, f1, f2, f3⟩ := four_free hPc.out
      obtain ⟨z0, z1, z2, z3⟩ := box4 hPz.out
      clear hPc hRc hyoc hBc hzc
      go_wp2_with (at_builtin; refine wpList_append_own _ rfl _ _ 31 rfl L 24 j0 _ 4 56 Tryz.underlying31 hj hy0 hy1 hy2 rfl (by decide) _ 5 _ rfl (hRz.out.alloc (.cells #[.int .i64 y.v.k, .int .i64 x, .string y.t, .slice y.la y.ls.length y.lc] 24)) ⟨w10.heap.size, 0, none⟩ 1 1 [.int .i64 y.v.k, .int .i64 x, .string y.t, .slice y.la y.ls.length y.lc] rfl rfl (World.news_of_block (cs := #[.int .i64 y.v.k, .int .i64 x, .string y.t, .slice y.la y.ls.length y.lc]) (t := 24) (fr := (0, 0)) (Own.new' (by simp))) (by intro u hu; simp only [List.mem_cons, List.not_mem_nil, or_false] at hu; rcases hu with rfl | rfl | rfl | rfl <;> rfl) (by unfold maxLen; omega) (by omega) (by have := hLw.out; simp at this ⊢; omega) ?_; intro v' w12 hown hgrow hnil; clear hnil; obtain ⟨g, cp, hv, hat⟩ := vlist_owns (xs := [X, y1, x3 X, x4 X, x5 X, z]) (w := w12) (base := L) (v := v') (by rw [hzd.out]; exact hown) (by simp); have hv' : v' = .slice (some ⟨g, 0, none⟩) 6 cp := hv; subst hv'; clear hv; have hF := Lib.hid (checks_list (z := z) hX.out ht400 hl40 hBz.out hT.out hyoz.out hf1L.out hzz.out hzL.out hgrow hbL.out hat); clear hgrow hown hat)
      obtain ⟨xs, hxs⟩ : ∃ xs : List VX, Hid (xs = [X, y1, x3 X, x4 X, x5 X, z]) := ⟨[X, y1, x3 X, x4 X, x5 X, z], rfl⟩
      have hxl := Lib.hid (show xs.length = 6 by rw [hxs.out]; rfl)
      rw [← hxs.out] at hF
      clear hxs hRz hBz hyoz hzz hzL hPz hLw hX hT hD hL
      go_wp2
      go_loopw [8] (fun i wr => ∃ k : Nat, k ≤ 6 ∧ i = .int .i64 k ∧ Hid (VList w wr g xs)) (fun i _ => 6 - (intOf i).toNat)
      case atStart => exact ⟨0, by omega, rfl, hF.out⟩
      case round =>
        clear hF
        obtain ⟨k, hk, rfl, hF⟩ := hrel
        by_cases hlt : k < 6
        · have hkl : k < xs.length := by have := hxl.out; omega
          obtain ⟨x, hxe⟩ : ∃ x : VX, Hid (x = xs[k]) := ⟨xs[k], rfl⟩
          have hGet := Lib.hid (show ∀ u, VList w u g xs → (VAt u g k x ∧ x.Ok u) ∧ Tabs u from fun u h => by
            rw [hxe.out]
            exact ⟨h.2.2 k hkl, h.2.1⟩)
          clear hxe hkl
          obtain ⟨q, hq⟩ : ∃ q, checkS x.v = q := ⟨_, rfl⟩
          replace hq := Lib.hid hq
          have n0 : (0 : Int) ≤ (k : Int) := Int.natCast_nonneg _
          have n1 : (k : Int) < 6 := by omega
          obtain ⟨⟨⟨c0, c1, c2, c3⟩, -⟩, -⟩ := hGet.out _ hF.out
          have ka0 := cell_regrown c0
          have ka1 := cell_regrown c1
          have ka2 := cell_regrown c2
          have ka3 := cell_regrown c3
          have cK := Lib.hid (fun (dq : Nat) (os : Array Obj) => Calls.regrown_of (chk_prog hq.out (w := Sort.grow (redrawn wr dq) os) (hGet.out _ (hF.out.below (below_regrown wr dq os))).1.2 (hGet.out _ (hF.out.below (below_regrown wr dq os))).2))
          have cR := Lib.hid (fun (dq : Nat) (os : Array Obj) => Calls.regrown_of (chk_doc hq.out (w := Sort.grow (redrawn wr dq) os) (hGet.out _ (hF.out.below (below_regrown wr dq os))).1.2 (hGet.out _ (hF.out.below (below_regrown wr dq os))).2))
          clear c0 c1 c2 c3
          go_wp2_with fail
          refine wp_region_quiet_below (by kernel_rfl) (by kernel_rfl) ?_
          repeat (go_big_quiet_step (first | exact cK.out _ _ | exact cR.out _ _))
          refine wpQuiet_nil ?_
          intro _ hw'
          obtain ⟨⟨dq, osq⟩, hw''⟩ := hw'
          subst hw''
          replace hF := Lib.hid (hF.out.below (below_regrown wr dq osq))
          generalize Sort.grow (redrawn wr dq) osq = v1 at hF ⊢
          clear cK cR ka0 ka1 ka2 ka3 n0 n1
          go_wp2
          go_roundw
          case rel => exact ⟨k + 1, by omega, by go_num, hF.out⟩
          case measure => simp [intOf]; omega
        · go_wp2
          go_ret
          exact ⟨rfl, hF.out.1⟩
    · go_wp2_with fail
      refine (dtext_any b ca cn cc _ hC9.out (tabs_draw hD.out hbw.out hB9.out)).mono ?_
      rintro e w10 ⟨⟨s, rfl, -, hs⟩, hH10, hG10⟩
      have hBc := Lib.hid (hB9.out.trans (below_of_grown hG10 hB9.out.size hbw.out))
      have hyoc := Lib.hid (ok_grown hyo9.out hG10 (fun h a ha e => by injection e with e; have h1 := hf1b.out a ha; omega))
      have hRc := Lib.hid (owns_kept hR9.out hG10 hLb.out)
      have hPc := Lib.hid (hP9.out.kept hG10 (by have := hbB.out; intro e; injection e with e; omega))
      have hzc := Lib.hid (ok_grown hz9.out hG10 (fun h a ha e => by injection e with e; exact hfb.out h a ha e.symm))
      clear hH10 hG10 hC9 hB9 hyo9 hR9 hP9 hz9
      have hBz := Lib.hid (show Below w.heap.size w (w10.setCell ⟨B7, 2, none⟩ (.string s)) from hBc.out.setCell (by have := hbB.out; have := hbw.out; simp; omega) _)
      have hyoz := Lib.hid (show y1.Ok (w10.setCell ⟨B7, 2, none⟩ (.string s)) from ok_set hyoc.out (fun h a ha => by have h1 := hf1L.out h a ha; have h2 := hLB.out; omega))
      have hRz := Lib.hid (show (w10.setCell ⟨B7, 2, none⟩ (.string s)).ownsRow L 24 4 (.slice (some ⟨L, 0, none⟩) 5 5) 5 _ from hRc.out.kept (gset _ _ _ _) (Or.inr (by intro e; injection e with e; have := hLB.out; simp at e; omega)))
      have hPz := Lib.hid (show Own (w10.setCell ⟨B7, 2, none⟩ (.string s)) B7 #[.int .i64 y.v.k, .int .i64 y.v.n, .string s, .slice y.la y.ls.length y.lc] 24 from hPc.out.set 2 _)
      obtain ⟨z, hzd⟩ : ∃ z : VX, Hid (z = ⟨⟨y.v.k, y.v.n, s.data.toList, y.v.l⟩, s, y.la, y.lc, y.ls⟩) := ⟨⟨⟨y.v.k, y.v.n, s.data.toList, y.v.l⟩, s, y.la, y.lc, y.ls⟩, rfl⟩
      have hzz := Lib.hid (show z.Ok (w10.setCell ⟨B7, 2, none⟩ (.string s)) by rw [hzd.out]; exact ok_set (x := ⟨⟨y.v.k, y.v.n, s.data.toList, y.v.l⟩, s, y.la, y.lc, y.ls⟩) ⟨⟨rfl, hzc.out.ok.rows, hzc.out.ok.list⟩, by show s.size ≤ 400; omega, hzc.out.lz⟩ hfB.out)
      have hzL := Lib.hid (show z.ls ≠ [] → ∀ a, z.la = some a → a.block ≠ L by rw [hzd.out]; exact hfL.out)
      have hLw := Lib.hid (show L < (w10.setCell ⟨B7, 2, none⟩ (.string s)).heap.size from by have := (hRz.out.lt L rfl).2; exact this)
      obtain ⟨c0, c1, c2, c3⟩ := box4 hPc.out
      obtain ⟨f0, f1, f2, f3⟩ := four_free hPc.out
      obtain ⟨z0, z1, z2, z3⟩ := box4 hPz.out
      clear hPc hRc hyoc hBc hzc
      go_wp2_with (at_builtin; refine wpList_append_own _ rfl _ _ 31 rfl L 24 j0 _ 4 56 Tryz.underlying31 hj hy0 hy1 hy2 rfl (by decide) _ 5 _ rfl (hRz.out.alloc (.cells #[.int .i64 y.v.k, .int .i64 y.v.n, .string s, .slice y.la y.ls.length y.lc] 24)) ⟨w10.heap.size, 0, none⟩ 1 1 [.int .i64 y.v.k, .int .i64 y.v.n, .string s, .slice y.la y.ls.length y.lc] rfl rfl (World.news_of_block (cs := #[.int .i64 y.v.k, .int .i64 y.v.n, .string s, .slice y.la y.ls.length y.lc]) (t := 24) (fr := (0, 0)) (Own.new' (by simp))) (by intro u hu; simp only [List.mem_cons, List.not_mem_nil, or_false] at hu; rcases hu with rfl | rfl | rfl | rfl <;> rfl) (by unfold maxLen; omega) (by omega) (by have := hLw.out; simp at this ⊢; omega) ?_; intro v' w12 hown hgrow hnil; clear hnil; obtain ⟨g, cp, hv, hat⟩ := vlist_owns (xs := [X, y1, x3 X, x4 X, x5 X, z]) (w := w12) (base := L) (v := v') (by rw [hzd.out]; exact hown) (by simp); have hv' : v' = .slice (some ⟨g, 0, none⟩) 6 cp := hv; subst hv'; clear hv; have hF := Lib.hid (checks_list (z := z) hX.out ht400 hl40 hBz.out hT.out hyoz.out hf1L.out hzz.out hzL.out hgrow hbL.out hat); clear hgrow hown hat)
      obtain ⟨xs, hxs⟩ : ∃ xs : List VX, Hid (xs = [X, y1, x3 X, x4 X, x5 X, z]) := ⟨[X, y1, x3 X, x4 X, x5 X, z], rfl⟩
      have hxl := Lib.hid (show xs.length = 6 by rw [hxs.out]; rfl)
      rw [← hxs.out] at hF
      clear hxs hRz hBz hyoz hzz hzL hPz hLw hX hT hD hL
      go_wp2
      go_loopw [8] (fun i wr => ∃ k : Nat, k ≤ 6 ∧ i = .int .i64 k ∧ Hid (VList w wr g xs)) (fun i _ => 6 - (intOf i).toNat)
      case atStart => exact ⟨0, by omega, rfl, hF.out⟩
      case round =>
        clear hF
        obtain ⟨k, hk, rfl, hF⟩ := hrel
        by_cases hlt : k < 6
        · have hkl : k < xs.length := by have := hxl.out; omega
          obtain ⟨x, hxe⟩ : ∃ x : VX, Hid (x = xs[k]) := ⟨xs[k], rfl⟩
          have hGet := Lib.hid (show ∀ u, VList w u g xs → (VAt u g k x ∧ x.Ok u) ∧ Tabs u from fun u h => by
            rw [hxe.out]
            exact ⟨h.2.2 k hkl, h.2.1⟩)
          clear hxe hkl
          obtain ⟨q, hq⟩ : ∃ q, checkS x.v = q := ⟨_, rfl⟩
          replace hq := Lib.hid hq
          have n0 : (0 : Int) ≤ (k : Int) := Int.natCast_nonneg _
          have n1 : (k : Int) < 6 := by omega
          obtain ⟨⟨⟨c0, c1, c2, c3⟩, -⟩, -⟩ := hGet.out _ hF.out
          have ka0 := cell_regrown c0
          have ka1 := cell_regrown c1
          have ka2 := cell_regrown c2
          have ka3 := cell_regrown c3
          have cK := Lib.hid (fun (dq : Nat) (os : Array Obj) => Calls.regrown_of (chk_prog hq.out (w := Sort.grow (redrawn wr dq) os) (hGet.out _ (hF.out.below (below_regrown wr dq os))).1.2 (hGet.out _ (hF.out.below (below_regrown wr dq os))).2))
          have cR := Lib.hid (fun (dq : Nat) (os : Array Obj) => Calls.regrown_of (chk_doc hq.out (w := Sort.grow (redrawn wr dq) os) (hGet.out _ (hF.out.below (below_regrown wr dq os))).1.2 (hGet.out _ (hF.out.below (below_regrown wr dq os))).2))
          clear c0 c1 c2 c3
          go_wp2_with fail
          refine wp_region_quiet_below (by kernel_rfl) (by kernel_rfl) ?_
          repeat (go_big_quiet_step (first | exact cK.out _ _ | exact cR.out _ _))
          refine wpQuiet_nil ?_
          intro _ hw'
          obtain ⟨⟨dq, osq⟩, hw''⟩ := hw'
          subst hw''
          replace hF := Lib.hid (hF.out.below (below_regrown wr dq osq))
          generalize Sort.grow (redrawn wr dq) osq = v1 at hF ⊢
          clear cK cR ka0 ka1 ka2 ka3 n0 n1
          go_wp2
          go_roundw
          case rel => exact ⟨k + 1, by omega, by go_num, hF.out⟩
          case measure => simp [intOf]; omega
        · go_wp2
          go_ret
          exact ⟨rfl, hF.out.1⟩
    · have hs9 := hLz.out
      obtain ⟨c0, c1, c2, c3⟩ := four_cells hP9.out
      cases hla : y.la with
      | none =>
        rw [hla] at c3
        have hls : y.ls.length = 0 := by rw [lin_none (show LIn w9 none y.ls by rw [← hla]; exact hz9.out.ok.rows)]; rfl
        rw [hls, hcp7.out hla] at c3
        replace hls := Lib.hid hls
        replace hla := Lib.hid hla
        go_wp2_with (at_builtin; refine wpList_append_own_none rfl _ _ 22 rfl w9.heap.size 9 i0 1 Tryz.underlying22 hi _ 0 [] rfl (World.ownsRow_nil _ _ _ _) rfl ?_)
        have hgrow1 := Lib.hid (grown_refl w9 none)
        have hown1 := Lib.hid (World.ownsRow_nil w9 w9.heap.size 9 1)
        have hC1 := Lib.hid (hC9.out.still (grown_none hgrow1.out _) (hC9.out.1.kept hgrow1.out (by simp)))
        have hB1 := Lib.hid (hB9.out.trans (below_of_grown (grown_none hgrow1.out (some b)) hB9.out.size hbw.out))
        have hyo1 := Lib.hid (ok_grown hyo9.out hgrow1.out (by intro _ _ _ e; cases e))
        have hR1 := Lib.hid (hR9.out.kept hgrow1.out (by simp [Value.ownBlock]))
        have hP1 := Lib.hid (hP9.out.kept hgrow1.out (by simp))
        have hz1 := Lib.hid (ok_grown hz9.out hgrow1.out (by intro _ _ _ e; cases e))
        have hB9l := Lib.hid hP9.out.lt
        have hL9 := Lib.hid hLz.out
        have hb9 := Lib.hid hC9.out.lt
        have hw9 := Lib.hid hB9.out.size
        clear hgrow1 hC9 hB9 hyo9 hR9 hP9 hz9 c0 c1 c2 c3
        go_wp2_with fail
        refine (dtext_any b ca cn cc _ hC1.out (tabs_draw hD.out hbw.out hB1.out)).mono ?_
        rintro e w10 ⟨⟨s, rfl, -, hs⟩, hH10, hG10⟩
        have hB10 := Lib.hid (hB1.out.trans (below_of_grown hG10 hB1.out.size hbw.out))
        have hyo10 := Lib.hid (ok_grown hyo1.out hG10 (fun h a ha e => by injection e with e; have h1 := hf1b.out a ha; omega))
        have hR10 := Lib.hid (owns_kept hR1.out hG10 hLb.out)
        have hP10 := Lib.hid (hP1.out.kept hG10 (by have := hbB.out; intro e; injection e with e; omega))
        have hz10 := Lib.hid (ok_grown hz1.out hG10 (fun h a ha e => by injection e with e; exact hfb.out h a ha e.symm))
        have hown10 := Lib.hid (owns_kept hown1.out hG10 hb9.out)
        have h910 := Lib.hid (show w9.heap.size ≤ w10.heap.size from by have := (show w9.heap.size ≤ w10.heap.size from hG10.size); have h1 := hG10.size; omega)
        clear hH10 hG10 hC1 hB1 hyo1 hR1 hP1 hz1 hown1
        obtain ⟨c0, c1, c2, c3⟩ := four_cells hP10.out
        obtain ⟨f0, f1, f2, f3⟩ := four_free hP10.out
        go_wp2_with (first | (at_builtin; refine wpList_append_own _ rfl _ _ 22 rfl w9.heap.size 9 i0 (.string ⟨#[]⟩) 1 16 Tryz.underlying22 hi hz0 hz1 hz2 rfl (by decide) _ 0 _ rfl (hown10.out.alloc (.cells #[.string s] 9)) ⟨w10.heap.size, 0, none⟩ 1 1 [.string s] rfl rfl (World.news_of_block (cs := #[.string s]) (t := 9) (fr := (0, 0)) (Own.new' rfl)) (by simp; rfl) (by unfold maxLen; omega) (by omega) (by have := h910.out; simp; omega) ?_; intro v2 w11 hown2 hgrow2 hnil; clear hnil; obtain ⟨va2, vc2, hv2⟩ := owns_slice hown2; subst hv2; have hBc := Lib.hid ((hB10.out.alloc hB10.out.size (.cells #[.string s] 9)).grown hgrow2 (by have := hB10.out.size; simp; omega) (fun k hk => by have := ((hown10.out.alloc (.cells #[.string s] 9)).lt k hk).1; have := hw9.out; omega)); have hyoc := Lib.hid (ok_grown (hyo10.out.below ((Below.refl _ _).alloc (Nat.le_refl _) (.cells #[.string s] 9))) hgrow2 (fun h a ha => row_far (hown10.out.alloc (.cells #[.string s] 9)) (by have h1 := hf1L.out h a ha; have h2 := hL9.out; omega))); have hRc := Lib.hid ((hR10.out.alloc (.cells #[.string s] 9)).kept hgrow2 (Or.inr (fun e => row_far (hown10.out.alloc (.cells #[.string s] 9)) (show L < w9.heap.size from hL9.out) e.symm))); have hPc := Lib.hid ((hP10.out.alloc (.cells #[.string s] 9)).kept hgrow2 (row_far (hown10.out.alloc (.cells #[.string s] 9)) (show B7 < w9.heap.size from hB9l.out))); replace hown2 := Lib.hid hown2; have hzt := Lib.hid hz10.out.ok.text; have hzt2 := Lib.hid hz10.out.tz; have hzl := Lib.hid hz10.out.ok.list; clear hgrow2 hB10 hyo10 hR10 hP10 hz10 hown10 c0 c1 c2 c3 f0 f1 f2 f3; obtain ⟨c0, c1, c2, c3⟩ := box4 hPc.out; obtain ⟨f0, f1, f2, f3⟩ := four_free hPc.out; have hBz := Lib.hid (show Below w.heap.size w (w11.setCell ⟨B7, 3, none⟩ (.slice va2 1 vc2)) from hBc.out.setCell (by have := hbB.out; have := hbw.out; simp; omega) _); have hyoz := Lib.hid (show y1.Ok (w11.setCell ⟨B7, 3, none⟩ (.slice va2 1 vc2)) from ok_set hyoc.out (fun h a ha => by have h1 := hf1L.out h a ha; have h2 := hLB.out; omega)); have hRz := Lib.hid (show (w11.setCell ⟨B7, 3, none⟩ (.slice va2 1 vc2)).ownsRow L 24 4 (.slice (some ⟨L, 0, none⟩) 5 5) 5 _ from hRc.out.kept (gset _ _ _ _) (Or.inr (by intro e; injection e with e; have := hLB.out; simp at e; omega))); have hPz := Lib.hid (show Own (w11.setCell ⟨B7, 3, none⟩ (.slice va2 1 vc2)) B7 #[.int .i64 y.v.k, .int .i64 y.v.n, .string y.t, .slice va2 1 vc2] 24 from hPc.out.set 3 _); obtain ⟨z, hzd⟩ : ∃ z : VX, Hid (z = ⟨⟨y.v.k, y.v.n, y.v.t, y.v.l ++ [s.data.toList]⟩, y.t, va2, vc2, y.ls ++ [s]⟩) := ⟨⟨⟨y.v.k, y.v.n, y.v.t, y.v.l ++ [s.data.toList]⟩, y.t, va2, vc2, y.ls ++ [s]⟩, rfl⟩; have hzz := Lib.hid (show z.Ok (w11.setCell ⟨B7, 3, none⟩ (.slice va2 1 vc2)) by rw [hzd.out]; exact ⟨⟨hzt.out, lin_owns ((show w11.ownsRow w9.heap.size 9 1 (.slice va2 (y.ls ++ [s]).length vc2) (y.ls ++ [s]).length ((y.ls ++ [s]).map Value.string) from by have hyn : y.ls = [] := List.eq_nil_of_length_eq_zero hls.out; rw [hyn]; exact hown2.out).kept (gset _ _ _ _) (Or.inr (fun e => row_far hown2.out (show B7 < w9.heap.size from hB9l.out) ((ownBlock_len va2 _ _ vc2).trans e)))), by rw [lsL_snoc, hzl.out]⟩, hzt2.out, by show (y.ls ++ [s]).length ≤ 41; simp; omega⟩); have hzL := Lib.hid (show z.ls ≠ [] → ∀ a, z.la = some a → a.block ≠ L by rw [hzd.out]; intro _ a ha e; exact row_far hown2.out (show L < w9.heap.size from hL9.out) (by show (Value.slice va2 _ vc2).ownBlock = some L; rw [show va2 = some a from ha, ← e]; rfl)); have hLw := Lib.hid (show L < (w11.setCell ⟨B7, 3, none⟩ (.slice va2 1 vc2)).heap.size from by have := (hRz.out.lt L rfl).2; exact this); obtain ⟨z0, z1, z2, z3⟩ := box4 hPz.out; clear hPc hRc hyoc hBc) | (at_builtin; refine wpList_append_own _ rfl _ _ 31 rfl L 24 j0 _ 4 56 Tryz.underlying31 hj hy0 hy1 hy2 rfl (by decide) _ 5 _ rfl (hRz.out.alloc (.cells #[.int .i64 y.v.k, .int .i64 y.v.n, .string y.t, .slice va2 1 vc2] 24)) ⟨w11.heap.size, 0, none⟩ 1 1 [.int .i64 y.v.k, .int .i64 y.v.n, .string y.t, .slice va2 1 vc2] rfl rfl (World.news_of_block (cs := #[.int .i64 y.v.k, .int .i64 y.v.n, .string y.t, .slice va2 1 vc2]) (t := 24) (fr := (0, 0)) (Own.new' (by simp))) (by intro u hu; simp only [List.mem_cons, List.not_mem_nil, or_false] at hu; rcases hu with rfl | rfl | rfl | rfl <;> rfl) (by unfold maxLen; omega) (by omega) (by have := hLw.out; simp at this ⊢; omega) ?_; intro v' w12 hown hgrow hnil; clear hnil; obtain ⟨g, cp, hv, hat⟩ := vlist_owns (xs := [X, y1, x3 X, x4 X, x5 X, z]) (w := w12) (base := L) (v := v') (by rw [hzd.out]; have hyn : y.ls = [] := List.eq_nil_of_length_eq_zero hls.out; rw [hyn]; exact hown) (by simp); have hv' : v' = .slice (some ⟨g, 0, none⟩) 6 cp := hv; subst hv'; clear hv; have hF := Lib.hid (checks_list (z := z) hX.out ht400 hl40 hBz.out hT.out hyoz.out hf1L.out hzz.out hzL.out hgrow hbL.out hat); clear hgrow hown hat))
        obtain ⟨xs, hxs⟩ : ∃ xs : List VX, Hid (xs = [X, y1, x3 X, x4 X, x5 X, z]) := ⟨[X, y1, x3 X, x4 X, x5 X, z], rfl⟩
        have hxl := Lib.hid (show xs.length = 6 by rw [hxs.out]; rfl)
        rw [← hxs.out] at hF
        clear hxs hRz hBz hyoz hzz hzL hPz hLw hX hT hD hL
        go_wp2
        go_loopw [8] (fun i wr => ∃ k : Nat, k ≤ 6 ∧ i = .int .i64 k ∧ Hid (VList w wr g xs)) (fun i _ => 6 - (intOf i).toNat)
        case atStart => exact ⟨0, by omega, rfl, hF.out⟩
        case round =>
          clear hF
          obtain ⟨k, hk, rfl, hF⟩ := hrel
          by_cases hlt : k < 6
          · have hkl : k < xs.length := by have := hxl.out; omega
            obtain ⟨x, hxe⟩ : ∃ x : VX, Hid (x = xs[k]) := ⟨xs[k], rfl⟩
            have hGet := Lib.hid (show ∀ u, VList w u g xs → (VAt u g k x ∧ x.Ok u) ∧ Tabs u from fun u h => by
              rw [hxe.out]
              exact ⟨h.2.2 k hkl, h.2.1⟩)
            clear hxe hkl
            obtain ⟨q, hq⟩ : ∃ q, checkS x.v = q := ⟨_, rfl⟩
            replace hq := Lib.hid hq
            have n0 : (0 : Int) ≤ (k : Int) := Int.natCast_nonneg _
            have n1 : (k : Int) < 6 := by omega
            obtain ⟨⟨⟨c0, c1, c2, c3⟩, -⟩, -⟩ := hGet.out _ hF.out
            have ka0 := cell_regrown c0
            have ka1 := cell_regrown c1
            have ka2 := cell_regrown c2
            have ka3 := cell_regrown c3
            have cK := Lib.hid (fun (dq : Nat) (os : Array Obj) => Calls.regrown_of (chk_prog hq.out (w := Sort.grow (redrawn wr dq) os) (hGet.out _ (hF.out.below (below_regrown wr dq os))).1.2 (hGet.out _ (hF.out.below (below_regrown wr dq os))).2))
            have cR := Lib.hid (fun (dq : Nat) (os : Array Obj) => Calls.regrown_of (chk_doc hq.out (w := Sort.grow (redrawn wr dq) os) (hGet.out _ (hF.out.below (below_regrown wr dq os))).1.2 (hGet.out _ (hF.out.below (below_regrown wr dq os))).2))
            clear c0 c1 c2 c3
            go_wp2_with fail
            refine wp_region_quiet_below (by kernel_rfl) (by kernel_rfl) ?_
            repeat (go_big_quiet_step (first | exact cK.out _ _ | exact cR.out _ _))
            refine wpQuiet_nil ?_
            intro _ hw'
            obtain ⟨⟨dq, osq⟩, hw''⟩ := hw'
            subst hw''
            replace hF := Lib.hid (hF.out.below (below_regrown wr dq osq))
            generalize Sort.grow (redrawn wr dq) osq = v1 at hF ⊢
            clear cK cR ka0 ka1 ka2 ka3 n0 n1
            go_wp2
            go_roundw
            case rel => exact ⟨k + 1, by omega, by go_num, hF.out⟩
            case measure => simp [intOf]; omega
          · go_wp2
            go_ret
            exact ⟨rfl, hF.out.1⟩
      | some ad =>
        rw [hla] at c3
        have hsrc := Lib.hid (lin_add (show LIn w9 (some ad) y.ls by rw [← hla]; exact hz9.out.ok.rows))
        replace hla := Lib.hid hla
        go_wp2_with (at_builtin; refine wpList_append_own _ rfl _ _ 22 rfl w9.heap.size 9 i0 (.string ⟨#[]⟩) 1 16 Tryz.underlying22 hi hz0 hz1 hz2 rfl (by decide) _ _ _ rfl (World.ownsRow_nil _ _ _ _) ad y.ls.length y.lc (y.ls.map Value.string) rfl (by simp) hsrc.out (strs_one y.ls) (by unfold maxLen; omega) (by omega) (Nat.le_refl _) ?_; intro v1 w1 hown1 hgrow1 hiff; clear hiff; obtain ⟨va1, vc1, hv1⟩ := owns_slice hown1; subst hv1; replace hown1 := Lib.hid (show w1.ownsRow w9.heap.size 9 1 (.slice va1 y.ls.length vc1) y.ls.length (y.ls.map Value.string) by simpa using hown1); replace hgrow1 := Lib.hid (show w9.grownBy w1 none from hgrow1); have hz19 := hgrow1.out.size)
        have hC1 := Lib.hid (hC9.out.still (grown_none hgrow1.out _) (hC9.out.1.kept hgrow1.out (by simp)))
        have hB1 := Lib.hid (hB9.out.trans (below_of_grown (grown_none hgrow1.out (some b)) hB9.out.size hbw.out))
        have hyo1 := Lib.hid (ok_grown hyo9.out hgrow1.out (by intro _ _ _ e; cases e))
        have hR1 := Lib.hid (hR9.out.kept hgrow1.out (by simp [Value.ownBlock]))
        have hP1 := Lib.hid (hP9.out.kept hgrow1.out (by simp))
        have hz1 := Lib.hid (ok_grown hz9.out hgrow1.out (by intro _ _ _ e; cases e))
        have hB9l := Lib.hid hP9.out.lt
        have hL9 := Lib.hid hLz.out
        have hb9 := Lib.hid hC9.out.lt
        have hw9 := Lib.hid hB9.out.size
        clear hgrow1 hC9 hB9 hyo9 hR9 hP9 hz9 c0 c1 c2 c3
        go_wp2_with fail
        refine (dtext_any b ca cn cc _ hC1.out (tabs_draw hD.out hbw.out hB1.out)).mono ?_
        rintro e w10 ⟨⟨s, rfl, -, hs⟩, hH10, hG10⟩
        have hB10 := Lib.hid (hB1.out.trans (below_of_grown hG10 hB1.out.size hbw.out))
        have hyo10 := Lib.hid (ok_grown hyo1.out hG10 (fun h a ha e => by injection e with e; have h1 := hf1b.out a ha; omega))
        have hR10 := Lib.hid (owns_kept hR1.out hG10 hLb.out)
        have hP10 := Lib.hid (hP1.out.kept hG10 (by have := hbB.out; intro e; injection e with e; omega))
        have hz10 := Lib.hid (ok_grown hz1.out hG10 (fun h a ha e => by injection e with e; exact hfb.out h a ha e.symm))
        have hown10 := Lib.hid (owns_kept hown1.out hG10 hb9.out)
        have h910 := Lib.hid (show w9.heap.size ≤ w10.heap.size from by have := (show w1.heap.size ≤ w10.heap.size from hG10.size); have h1 := hz19; omega)
        clear hH10 hG10 hC1 hB1 hyo1 hR1 hP1 hz1 hown1
        obtain ⟨c0, c1, c2, c3⟩ := four_cells hP10.out
        obtain ⟨f0, f1, f2, f3⟩ := four_free hP10.out
        go_wp2_with (first | (at_builtin; refine wpList_append_own _ rfl _ _ 22 rfl w9.heap.size 9 i0 (.string ⟨#[]⟩) 1 16 Tryz.underlying22 hi hz0 hz1 hz2 rfl (by decide) _ y.ls.length _ rfl (hown10.out.alloc (.cells #[.string s] 9)) ⟨w10.heap.size, 0, none⟩ 1 1 [.string s] rfl rfl (World.news_of_block (cs := #[.string s]) (t := 9) (fr := (0, 0)) (Own.new' rfl)) (by simp; rfl) (by unfold maxLen; omega) (by omega) (by have := h910.out; simp; omega) ?_; intro v2 w11 hown2 hgrow2 hnil; clear hnil; obtain ⟨va2, vc2, hv2⟩ := owns_slice hown2; subst hv2; have hBc := Lib.hid ((hB10.out.alloc hB10.out.size (.cells #[.string s] 9)).grown hgrow2 (by have := hB10.out.size; simp; omega) (fun k hk => by have := ((hown10.out.alloc (.cells #[.string s] 9)).lt k hk).1; have := hw9.out; omega)); have hyoc := Lib.hid (ok_grown (hyo10.out.below ((Below.refl _ _).alloc (Nat.le_refl _) (.cells #[.string s] 9))) hgrow2 (fun h a ha => row_far (hown10.out.alloc (.cells #[.string s] 9)) (by have h1 := hf1L.out h a ha; have h2 := hL9.out; omega))); have hRc := Lib.hid ((hR10.out.alloc (.cells #[.string s] 9)).kept hgrow2 (Or.inr (fun e => row_far (hown10.out.alloc (.cells #[.string s] 9)) (show L < w9.heap.size from hL9.out) e.symm))); have hPc := Lib.hid ((hP10.out.alloc (.cells #[.string s] 9)).kept hgrow2 (row_far (hown10.out.alloc (.cells #[.string s] 9)) (show B7 < w9.heap.size from hB9l.out))); replace hown2 := Lib.hid hown2; have hzt := Lib.hid hz10.out.ok.text; have hzt2 := Lib.hid hz10.out.tz; have hzl := Lib.hid hz10.out.ok.list; clear hgrow2 hB10 hyo10 hR10 hP10 hz10 hown10 c0 c1 c2 c3 f0 f1 f2 f3; obtain ⟨c0, c1, c2, c3⟩ := box4 hPc.out; obtain ⟨f0, f1, f2, f3⟩ := four_free hPc.out; have hBz := Lib.hid (show Below w.heap.size w (w11.setCell ⟨B7, 3, none⟩ (.slice va2 (y.ls.length + 1) vc2)) from hBc.out.setCell (by have := hbB.out; have := hbw.out; simp; omega) _); have hyoz := Lib.hid (show y1.Ok (w11.setCell ⟨B7, 3, none⟩ (.slice va2 (y.ls.length + 1) vc2)) from ok_set hyoc.out (fun h a ha => by have h1 := hf1L.out h a ha; have h2 := hLB.out; omega)); have hRz := Lib.hid (show (w11.setCell ⟨B7, 3, none⟩ (.slice va2 (y.ls.length + 1) vc2)).ownsRow L 24 4 (.slice (some ⟨L, 0, none⟩) 5 5) 5 _ from hRc.out.kept (gset _ _ _ _) (Or.inr (by intro e; injection e with e; have := hLB.out; simp at e; omega))); have hPz := Lib.hid (show Own (w11.setCell ⟨B7, 3, none⟩ (.slice va2 (y.ls.length + 1) vc2)) B7 #[.int .i64 y.v.k, .int .i64 y.v.n, .string y.t, .slice va2 (y.ls.length + 1) vc2] 24 from hPc.out.set 3 _); obtain ⟨z, hzd⟩ : ∃ z : VX, Hid (z = ⟨⟨y.v.k, y.v.n, y.v.t, y.v.l ++ [s.data.toList]⟩, y.t, va2, vc2, y.ls ++ [s]⟩) := ⟨⟨⟨y.v.k, y.v.n, y.v.t, y.v.l ++ [s.data.toList]⟩, y.t, va2, vc2, y.ls ++ [s]⟩, rfl⟩; have hzz := Lib.hid (show z.Ok (w11.setCell ⟨B7, 3, none⟩ (.slice va2 (y.ls.length + 1) vc2)) by rw [hzd.out]; exact ⟨⟨hzt.out, lin_owns ((show w11.ownsRow w9.heap.size 9 1 (.slice va2 (y.ls ++ [s]).length vc2) (y.ls ++ [s]).length ((y.ls ++ [s]).map Value.string) from by simpa using hown2.out).kept (gset _ _ _ _) (Or.inr (fun e => row_far hown2.out (show B7 < w9.heap.size from hB9l.out) ((ownBlock_len va2 _ _ vc2).trans e)))), by rw [lsL_snoc, hzl.out]⟩, hzt2.out, by show (y.ls ++ [s]).length ≤ 41; simp; omega⟩); have hzL := Lib.hid (show z.ls ≠ [] → ∀ a, z.la = some a → a.block ≠ L by rw [hzd.out]; intro _ a ha e; exact row_far hown2.out (show L < w9.heap.size from hL9.out) (by show (Value.slice va2 _ vc2).ownBlock = some L; rw [show va2 = some a from ha, ← e]; rfl)); have hLw := Lib.hid (show L < (w11.setCell ⟨B7, 3, none⟩ (.slice va2 (y.ls.length + 1) vc2)).heap.size from by have := (hRz.out.lt L rfl).2; exact this); obtain ⟨z0, z1, z2, z3⟩ := box4 hPz.out; clear hPc hRc hyoc hBc) | (at_builtin; refine wpList_append_own _ rfl _ _ 31 rfl L 24 j0 _ 4 56 Tryz.underlying31 hj hy0 hy1 hy2 rfl (by decide) _ 5 _ rfl (hRz.out.alloc (.cells #[.int .i64 y.v.k, .int .i64 y.v.n, .string y.t, .slice va2 (y.ls.length + 1) vc2] 24)) ⟨w11.heap.size, 0, none⟩ 1 1 [.int .i64 y.v.k, .int .i64 y.v.n, .string y.t, .slice va2 (y.ls.length + 1) vc2] rfl rfl (World.news_of_block (cs := #[.int .i64 y.v.k, .int .i64 y.v.n, .string y.t, .slice va2 (y.ls.length + 1) vc2]) (t := 24) (fr := (0, 0)) (Own.new' (by simp))) (by intro u hu; simp only [List.mem_cons, List.not_mem_nil, or_false] at hu; rcases hu with rfl | rfl | rfl | rfl <;> rfl) (by unfold maxLen; omega) (by omega) (by have := hLw.out; simp at this ⊢; omega) ?_; intro v' w12 hown hgrow hnil; clear hnil; obtain ⟨g, cp, hv, hat⟩ := vlist_owns (xs := [X, y1, x3 X, x4 X, x5 X, z]) (w := w12) (base := L) (v := v') (by rw [hzd.out]; simpa [VX.row, x3, x4, x5] using hown) (by simp); have hv' : v' = .slice (some ⟨g, 0, none⟩) 6 cp := hv; subst hv'; clear hv; have hF := Lib.hid (checks_list (z := z) hX.out ht400 hl40 hBz.out hT.out hyoz.out hf1L.out hzz.out hzL.out hgrow hbL.out hat); clear hgrow hown hat))
        obtain ⟨xs, hxs⟩ : ∃ xs : List VX, Hid (xs = [X, y1, x3 X, x4 X, x5 X, z]) := ⟨[X, y1, x3 X, x4 X, x5 X, z], rfl⟩
        have hxl := Lib.hid (show xs.length = 6 by rw [hxs.out]; rfl)
        rw [← hxs.out] at hF
        clear hxs hRz hBz hyoz hzz hzL hPz hLw hX hT hD hL
        go_wp2
        go_loopw [8] (fun i wr => ∃ k : Nat, k ≤ 6 ∧ i = .int .i64 k ∧ Hid (VList w wr g xs)) (fun i _ => 6 - (intOf i).toNat)
        case atStart => exact ⟨0, by omega, rfl, hF.out⟩
        case round =>
          clear hF
          obtain ⟨k, hk, rfl, hF⟩ := hrel
          by_cases hlt : k < 6
          · have hkl : k < xs.length := by have := hxl.out; omega
            obtain ⟨x, hxe⟩ : ∃ x : VX, Hid (x = xs[k]) := ⟨xs[k], rfl⟩
            have hGet := Lib.hid (show ∀ u, VList w u g xs → (VAt u g k x ∧ x.Ok u) ∧ Tabs u from fun u h => by
              rw [hxe.out]
              exact ⟨h.2.2 k hkl, h.2.1⟩)
            clear hxe hkl
            obtain ⟨q, hq⟩ : ∃ q, checkS x.v = q := ⟨_, rfl⟩
            replace hq := Lib.hid hq
            have n0 : (0 : Int) ≤ (k : Int) := Int.natCast_nonneg _
            have n1 : (k : Int) < 6 := by omega
            obtain ⟨⟨⟨c0, c1, c2, c3⟩, -⟩, -⟩ := hGet.out _ hF.out
            have ka0 := cell_regrown c0
            have ka1 := cell_regrown c1
            have ka2 := cell_regrown c2
            have ka3 := cell_regrown c3
            have cK := Lib.hid (fun (dq : Nat) (os : Array Obj) => Calls.regrown_of (chk_prog hq.out (w := Sort.grow (redrawn wr dq) os) (hGet.out _ (hF.out.below (below_regrown wr dq os))).1.2 (hGet.out _ (hF.out.below (below_regrown wr dq os))).2))
            have cR := Lib.hid (fun (dq : Nat) (os : Array Obj) => Calls.regrown_of (chk_doc hq.out (w := Sort.grow (redrawn wr dq) os) (hGet.out _ (hF.out.below (below_regrown wr dq os))).1.2 (hGet.out _ (hF.out.below (below_regrown wr dq os))).2))
            clear c0 c1 c2 c3
            go_wp2_with fail
            refine wp_region_quiet_below (by kernel_rfl) (by kernel_rfl) ?_
            repeat (go_big_quiet_step (first | exact cK.out _ _ | exact cR.out _ _))
            refine wpQuiet_nil ?_
            intro _ hw'
            obtain ⟨⟨dq, osq⟩, hw''⟩ := hw'
            subst hw''
            replace hF := Lib.hid (hF.out.below (below_regrown wr dq osq))
            generalize Sort.grow (redrawn wr dq) osq = v1 at hF ⊢
            clear cK cR ka0 ka1 ka2 ka3 n0 n1
            go_wp2
            go_roundw
            case rel => exact ⟨k + 1, by omega, by go_num, hF.out⟩
            case measure => simp [intOf]; omega
          · go_wp2
            go_ret
            exact ⟨rfl, hF.out.1⟩
    · go_wp2_with fail
      refine (next_any b ca cn cc _ 8 (by omega) (by omega) hC9.out).mono ?_
      rintro e w10 ⟨⟨x, rfl, hx0, hx1⟩, hH10, hG10⟩
      have hBc := Lib.hid (hB9.out.trans (below_of_grown hG10 hB9.out.size hbw.out))
      have hyoc := Lib.hid (ok_grown hyo9.out hG10 (fun h a ha e => by injection e with e; have h1 := hf1b.out a ha; omega))
      have hRc := Lib.hid (owns_kept hR9.out hG10 hLb.out)
      have hPc := Lib.hid (hP9.out.kept hG10 (by have := hbB.out; intro e; injection e with e; omega))
      have hzc := Lib.hid (ok_grown hz9.out hG10 (fun h a ha e => by injection e with e; exact hfb.out h a ha e.symm))
      clear hH10 hG10 hC9 hB9 hyo9 hR9 hP9 hz9
      have hBz := Lib.hid (show Below w.heap.size w (w10.setCell ⟨B7, 0, none⟩ (.int .i64 (x - 1))) from hBc.out.setCell (by have := hbB.out; have := hbw.out; simp; omega) _)
      have hyoz := Lib.hid (show y1.Ok (w10.setCell ⟨B7, 0, none⟩ (.int .i64 (x - 1))) from ok_set hyoc.out (fun h a ha => by have h1 := hf1L.out h a ha; have h2 := hLB.out; omega))
      have hRz := Lib.hid (show (w10.setCell ⟨B7, 0, none⟩ (.int .i64 (x - 1))).ownsRow L 24 4 (.slice (some ⟨L, 0, none⟩) 5 5) 5 _ from hRc.out.kept (gset _ _ _ _) (Or.inr (by intro e; injection e with e; have := hLB.out; simp at e; omega)))
      have hPz := Lib.hid (show Own (w10.setCell ⟨B7, 0, none⟩ (.int .i64 (x - 1))) B7 #[.int .i64 (x - 1), .int .i64 y.v.n, .string y.t, .slice y.la y.ls.length y.lc] 24 from hPc.out.set 0 _)
      obtain ⟨z, hzd⟩ : ∃ z : VX, Hid (z = ⟨⟨x - 1, y.v.n, y.v.t, y.v.l⟩, y.t, y.la, y.lc, y.ls⟩) := ⟨⟨⟨x - 1, y.v.n, y.v.t, y.v.l⟩, y.t, y.la, y.lc, y.ls⟩, rfl⟩
      have hzz := Lib.hid (show z.Ok (w10.setCell ⟨B7, 0, none⟩ (.int .i64 (x - 1))) by rw [hzd.out]; exact ok_set (x := ⟨⟨x - 1, y.v.n, y.v.t, y.v.l⟩, y.t, y.la, y.lc, y.ls⟩) ⟨⟨hzc.out.ok.text, hzc.out.ok.rows, hzc.out.ok.list⟩, hzc.out.tz, hzc.out.lz⟩ hfB.out)
      have hzL := Lib.hid (show z.ls ≠ [] → ∀ a, z.la = some a → a.block ≠ L by rw [hzd.out]; exact hfL.out)
      have hLw := Lib.hid (show L < (w10.setCell ⟨B7, 0, none⟩ (.int .i64 (x - 1))).heap.size from by have := (hRz.out.lt L rfl).2; exact this)
      obtain ⟨c0, c1, c2, c3⟩ := box4 hPc.out
      obtain ⟨f0, f1, f2, f3⟩ := four_free hPc.out
      obtain ⟨z0, z1, z2, z3⟩ := box4 hPz.out
      clear hPc hRc hyoc hBc hzc
      go_wp2_with (at_builtin; refine wpList_append_own _ rfl _ _ 31 rfl L 24 j0 _ 4 56 Tryz.underlying31 hj hy0 hy1 hy2 rfl (by decide) _ 5 _ rfl (hRz.out.alloc (.cells #[.int .i64 (x - 1), .int .i64 y.v.n, .string y.t, .slice y.la y.ls.length y.lc] 24)) ⟨w10.heap.size, 0, none⟩ 1 1 [.int .i64 (x - 1), .int .i64 y.v.n, .string y.t, .slice y.la y.ls.length y.lc] rfl rfl (World.news_of_block (cs := #[.int .i64 (x - 1), .int .i64 y.v.n, .string y.t, .slice y.la y.ls.length y.lc]) (t := 24) (fr := (0, 0)) (Own.new' (by simp))) (by intro u hu; simp only [List.mem_cons, List.not_mem_nil, or_false] at hu; rcases hu with rfl | rfl | rfl | rfl <;> rfl) (by unfold maxLen; omega) (by omega) (by have := hLw.out; simp at this ⊢; omega) ?_; intro v' w12 hown hgrow hnil; clear hnil; obtain ⟨g, cp, hv, hat⟩ := vlist_owns (xs := [X, y1, x3 X, x4 X, x5 X, z]) (w := w12) (base := L) (v := v') (by rw [hzd.out]; exact hown) (by simp); have hv' : v' = .slice (some ⟨g, 0, none⟩) 6 cp := hv; subst hv'; clear hv; have hF := Lib.hid (checks_list (z := z) hX.out ht400 hl40 hBz.out hT.out hyoz.out hf1L.out hzz.out hzL.out hgrow hbL.out hat); clear hgrow hown hat)
      obtain ⟨xs, hxs⟩ : ∃ xs : List VX, Hid (xs = [X, y1, x3 X, x4 X, x5 X, z]) := ⟨[X, y1, x3 X, x4 X, x5 X, z], rfl⟩
      have hxl := Lib.hid (show xs.length = 6 by rw [hxs.out]; rfl)
      rw [← hxs.out] at hF
      clear hxs hRz hBz hyoz hzz hzL hPz hLw hX hT hD hL
      go_wp2
      go_loopw [8] (fun i wr => ∃ k : Nat, k ≤ 6 ∧ i = .int .i64 k ∧ Hid (VList w wr g xs)) (fun i _ => 6 - (intOf i).toNat)
      case atStart => exact ⟨0, by omega, rfl, hF.out⟩
      case round =>
        clear hF
        obtain ⟨k, hk, rfl, hF⟩ := hrel
        by_cases hlt : k < 6
        · have hkl : k < xs.length := by have := hxl.out; omega
          obtain ⟨x, hxe⟩ : ∃ x : VX, Hid (x = xs[k]) := ⟨xs[k], rfl⟩
          have hGet := Lib.hid (show ∀ u, VList w u g xs → (VAt u g k x ∧ x.Ok u) ∧ Tabs u from fun u h => by
            rw [hxe.out]
            exact ⟨h.2.2 k hkl, h.2.1⟩)
          clear hxe hkl
          obtain ⟨q, hq⟩ : ∃ q, checkS x.v = q := ⟨_, rfl⟩
          replace hq := Lib.hid hq
          have n0 : (0 : Int) ≤ (k : Int) := Int.natCast_nonneg _
          have n1 : (k : Int) < 6 := by omega
          obtain ⟨⟨⟨c0, c1, c2, c3⟩, -⟩, -⟩ := hGet.out _ hF.out
          have ka0 := cell_regrown c0
          have ka1 := cell_regrown c1
          have ka2 := cell_regrown c2
          have ka3 := cell_regrown c3
          have cK := Lib.hid (fun (dq : Nat) (os : Array Obj) => Calls.regrown_of (chk_prog hq.out (w := Sort.grow (redrawn wr dq) os) (hGet.out _ (hF.out.below (below_regrown wr dq os))).1.2 (hGet.out _ (hF.out.below (below_regrown wr dq os))).2))
          have cR := Lib.hid (fun (dq : Nat) (os : Array Obj) => Calls.regrown_of (chk_doc hq.out (w := Sort.grow (redrawn wr dq) os) (hGet.out _ (hF.out.below (below_regrown wr dq os))).1.2 (hGet.out _ (hF.out.below (below_regrown wr dq os))).2))
          clear c0 c1 c2 c3
          go_wp2_with fail
          refine wp_region_quiet_below (by kernel_rfl) (by kernel_rfl) ?_
          repeat (go_big_quiet_step (first | exact cK.out _ _ | exact cR.out _ _))
          refine wpQuiet_nil ?_
          intro _ hw'
          obtain ⟨⟨dq, osq⟩, hw''⟩ := hw'
          subst hw''
          replace hF := Lib.hid (hF.out.below (below_regrown wr dq osq))
          generalize Sort.grow (redrawn wr dq) osq = v1 at hF ⊢
          clear cK cR ka0 ka1 ka2 ka3 n0 n1
          go_wp2
          go_roundw
          case rel => exact ⟨k + 1, by omega, by go_num, hF.out⟩
          case measure => simp [intOf]; omega
        · go_wp2
          go_ret
          exact ⟨rfl, hF.out.1⟩

end Go.Proofs.YtnghpjijfdpmkaaGreatDoor.law
