/- The reference's Parse of a metric. -/
import Derived.Test.YtnghpjijfdpmkaaDoorMetU
import Derived.Test.YtnghpjijfdpmkaaDoorMetE
namespace Go.Proofs.YtnghpjijfdpmkaaDoor.metric
open Go.RowKit Go.Proofs.YtnghpjijfdpmkaaDoor Go.Proofs.YtnghpjijfdpmkaaDoor.text

abbrev PMr (w : World) (b g : Nat) (S : WS) (A : Array Value) (u : World) : Prop := PS w 83 b S [(g, A, 29), (w.heap.size, Z7, 29)] u
theorem PMr.put' {w u : World} {b g : Nat} {S : WS} {A : Array Value} (h : PMr w b g S A u) (hg : w.heap.size < g) (i : Nat) (v : Value) : PMr w b g S (A.setIfInBounds i v) (u.setCell ⟨g, i, none⟩ v) :=
  PS.put h (by intro p hp; simp only [List.mem_cons, List.not_mem_nil, or_false] at hp; subst hp; show w.heap.size ≠ g; omega) i v
theorem PMr.cells' {w u : World} {b g : Nat} {S : WS} {x0 x1 x2 x3 x4 x5 x6 : Value} (h : PMr w b g S #[x0, x1, x2, x3, x4, x5, x6] u) :
    ((u.cell? ⟨g, 0, none⟩ = some x0 ∧ u.cell? ⟨g, 1, none⟩ = some x1 ∧ u.cell? ⟨g, 2, none⟩ = some x2 ∧ u.cell? ⟨g, 3, none⟩ = some x3 ∧ u.cell? ⟨g, 4, none⟩ = some x4 ∧ u.cell? ⟨g, 5, none⟩ = some x5 ∧ u.cell? ⟨g, 6, none⟩ = some x6) ∧
    u.frozen? ⟨g, 0, none⟩ = false ∧ u.frozen? ⟨g, 1, none⟩ = false ∧ u.frozen? ⟨g, 2, none⟩ = false ∧ u.frozen? ⟨g, 3, none⟩ = false ∧ u.frozen? ⟨g, 4, none⟩ = false ∧ u.frozen? ⟨g, 5, none⟩ = false ∧ u.frozen? ⟨g, 6, none⟩ = false) ∧
    ((u.cell? ⟨w.heap.size, 0, none⟩ = some (.int .i64 0) ∧ u.cell? ⟨w.heap.size, 1, none⟩ = some (.string ⟨#[]⟩) ∧ u.cell? ⟨w.heap.size, 2, none⟩ = some (.string ⟨#[]⟩) ∧ u.cell? ⟨w.heap.size, 3, none⟩ = some (.int .i64 0) ∧ u.cell? ⟨w.heap.size, 4, none⟩ = some (.int .i64 0) ∧ u.cell? ⟨w.heap.size, 5, none⟩ = some (.int .i64 0) ∧ u.cell? ⟨w.heap.size, 6, none⟩ = some (.int .i64 0)) ∧
    u.frozen? ⟨w.heap.size, 0, none⟩ = false ∧ u.frozen? ⟨w.heap.size, 1, none⟩ = false ∧ u.frozen? ⟨w.heap.size, 2, none⟩ = false ∧ u.frozen? ⟨w.heap.size, 3, none⟩ = false ∧ u.frozen? ⟨w.heap.size, 4, none⟩ = false ∧ u.frozen? ⟨w.heap.size, 5, none⟩ = false ∧ u.frozen? ⟨w.heap.size, 6, none⟩ = false) :=
  ⟨cells14 (h.held _ (List.mem_cons_self)).1, cells14 (h.held (w.heap.size, Z7, 29) (by simp)).1⟩

/-- The row that words gives, whichever it is: a reader of it and a new metric. -/
theorem PS.start2 {w w1 : World} {T : TypeId} {v : Value} {L : List ByteArray} (M : Array Value) (hown : w1.ownsRow (w.heap.size + 1) 9 1 v L.length (L.map Value.string))
    (hb : Below (w.heap.size + 1) (w.alloc (.cells Z7 29)) w1) (hs : ∀ x ∈ L, x.size ≤ 200) : ∃ a c, v = .slice a L.length c ∧
    PS w T w1.heap.size (L, false) [(w1.heap.size + 1, M, 29), (w.heap.size, Z7, 29)] ((w1.alloc (.cells #[.slice a L.length c, .bool false] T)).alloc (.cells M 29)) := by
  have hsz : (w.alloc (.cells Z7 29)).heap.size = w.heap.size + 1 := by simp
  have h1 : w.heap.size + 1 ≤ w1.heap.size := by have := hb.size; omega
  have hB : Below w.heap.size w w1 := ((Below.refl _ _).alloc (Nat.le_refl _) _).trans (hb.mono (by omega))
  have hZ : Own w1 w.heap.size Z7 29 := (Own.new w Z7 _).below hb (by omega)
  obtain ⟨-, h2⟩ := hown
  have hheld : ∀ (a : Option Addr) (c : Nat), ∀ p ∈ [((w1.heap.size + 1, M, 29) : Blk), (w.heap.size, Z7, 29)], Own ((w1.alloc (.cells #[.slice a L.length c, .bool false] T)).alloc (.cells M 29)) p.1 p.2.1 p.2.2 ∧ p.1 ≠ w1.heap.size ∧ w.heap.size ≤ p.1 := by
    intro a c p hp
    simp only [List.mem_cons, List.not_mem_nil, or_false] at hp
    rcases hp with rfl | rfl
    · exact ⟨Own.new' (by simp), by show w1.heap.size + 1 ≠ w1.heap.size; omega, by show w.heap.size ≤ w1.heap.size + 1; omega⟩
    · exact ⟨(hZ.alloc _).alloc _, by show w.heap.size ≠ w1.heap.size; omega, Nat.le_refl _⟩
  rcases h2 with ⟨h3, h4⟩ | ⟨g, cap, cur, h3, hg0, h4, h5, h6, -, h7⟩
  · refine ⟨none, 0, by rw [h3, h4], ⟨⟨none, 0, (Own.new w1 _ T).alloc _, by show L.length ≤ 0; omega, by omega, Or.inl (List.eq_nil_of_length_eq_zero h4)⟩, by omega, hheld _ _, (hB.alloc (by omega) _).alloc (by simp; omega) _, fun x hx => by have := hs x hx; omega⟩⟩
  · have hO : Own w1 g cur 9 := h4
    unfold maxLen at h6
    refine ⟨some ⟨g, 0, none⟩, cap, h3, ⟨⟨some ⟨g, 0, none⟩, cap, (Own.new w1 _ T).alloc _, h5, h6, Or.inr ⟨g, 0, rfl, by omega, hO.lt, fun p hp => ?_, fun i x hx => ?_⟩⟩, by omega, hheld _ _, (hB.alloc (by omega) _).alloc (by simp; omega) _, fun x hx => by have := hs x hx; omega⟩⟩
    · simp only [List.mem_cons, List.not_mem_nil, or_false] at hp
      have := hO.lt
      rcases hp with rfl | rfl
      · show w1.heap.size + 1 ≠ g; omega
      · show w.heap.size ≠ g; omega
    · have hi : i < L.length := (List.getElem?_eq_some_iff.1 hx).1
      have h10 : (cur.toList.take (L.length * 1))[i]? = (L.map Value.string)[i]? := by rw [h7]
      rw [List.getElem?_take, if_pos (by omega), List.getElem?_map, hx] at h10
      have h11 : w1.cell? ⟨g, i, none⟩ = some (.string x) := by rw [hO.cell i, ← Array.getElem?_toList]; exact h10
      rw [Nat.zero_add]
      exact sub_of_below (((Below.refl _ _).alloc (Nat.le_refl _) _).alloc (by simp) _) _ _ h11
abbrev K5 : Array Value := #[.string ⟨#[]⟩, .string ⟨#[115, 117, 109]⟩, .string ⟨#[99, 111, 117, 110, 116]⟩, .string ⟨#[115, 104, 97, 114, 101]⟩, .string ⟨#[114, 97, 116, 105, 111]⟩]
theorem K5_at {k : Nat} (h1 : 1 ≤ k) (h5 : k < 5) : K5[k]? = some (.string (kindNm k)) := by
  rcases (show k = 1 ∨ k = 2 ∨ k = 3 ∨ k = 4 by omega) with rfl | rfl | rfl | rfl <;> rfl
theorem K5_cell (w : World) {k : Nat} (h1 : 1 ≤ k) (h5 : k < 5) : ((w.alloc (.cells K5 9)).alloc (.cells K5 9)).cell? ⟨w.heap.size + 1, k, none⟩ = some (.string (kindNm k)) := by
  have h := Own.new (w.alloc (.cells K5 9)) K5 9
  rw [show (w.alloc (.cells K5 9)).heap.size = w.heap.size + 1 by simp] at h
  rw [h.cell k, K5_at h1 h5]
/-- The kinds below k have been compared. -/
def KRelR (x : ByteArray) (k : Nat) (kk : Int) : Prop := kk = if kindN x < k then (kindN x : Int) else 0
theorem KRelR.start (x : ByteArray) : KRelR x 1 0 := by
  unfold KRelR
  split
  · rename_i h; rw [show kindN x = 0 by omega]; rfl
  · rfl
theorem KRelR.hit {x : ByteArray} {k : Nat} (h1 : 1 ≤ k) (h5 : k < 5) (h : kindNm k = x) : KRelR x (k + 1) (k : Int) := by
  have := (kindN_eq h1 (by omega)).1 h
  unfold KRelR
  rw [this, if_pos (by omega)]
theorem KRelR.miss {x : ByteArray} {k : Nat} {kk : Int} (h1 : 1 ≤ k) (h5 : k < 5) (h : ¬ kindNm k = x) (hk : KRelR x k kk) : KRelR x (k + 1) kk := by
  have hn : ¬ kindN x = k := fun e => h ((kindN_eq h1 (by omega)).2 e)
  unfold KRelR at hk ⊢
  rw [hk]
  by_cases hl : kindN x < k
  · rw [if_pos hl, if_pos (by omega)]
  · rw [if_neg hl, if_neg (by omega)]
theorem KRelR.done {x : ByteArray} {k : Nat} {kk : Int} (h5 : 5 ≤ k) (hk : KRelR x k kk) : kk = (kindN x : Int) := by
  have := kindN_le x
  unfold KRelR at hk
  rw [hk, if_pos (by omega)]
/-- The first word that is left, as a test sees it. -/
theorem PS.headWays {w u : World} {T : TypeId} {b : Nat} {S : WS} {L : List Blk} (x : ByteArray) (h : PS w T b S L u) :
    (hasB x S = false ∧ ∃ a c, u.cell? ⟨b, 0, none⟩ = some (.slice a 0 c)) ∨ (∃ (y : ByteArray) (r : List ByteArray) (blk off c : Nat), (hasB x S = false ∧ ¬ y = x ∨ hasB x S = true ∧ y = x ∧ hasR x S = restW S) ∧ u.cell? ⟨b, 0, none⟩ = some (.slice (some ⟨blk, off, none⟩) (List.length r + 1) c) ∧ r.length + 1 ≤ c ∧ c ≤ 9223372036854775807 ∧ u.cell? ⟨blk, off, none⟩ = some (.string y)) := by
  rcases h.cells with ⟨hS, a, c, h0⟩ | ⟨y, r, blk, off, c, hS, hc1, hc2, h0, hx⟩
  · exact Or.inl ⟨by unfold hasB; rw [hS], a, c, h0⟩
  · refine Or.inr ⟨y, r, blk, off, c, ?_, h0, hc1, hc2, hx⟩
    by_cases hy : y = x
    · have e : hasB x S = true := by unfold hasB; rw [hS]; simp [hy]
      refine Or.inr ⟨e, hy, ?_⟩
      unfold hasR
      rw [if_pos e, (restW_cons hS).1, hS]
      rfl
    · exact Or.inl ⟨by unfold hasB; rw [hS]; simp [hy], hy⟩

set_option maxRecDepth 100000 in
set_option maxHeartbeats 40000000 in
theorem parse_r (s : ByteArray) (w : World) (hs : s.size ≤ maxLen) : Calls Tryd.prog 16 #[.string s] w (ParseIs w s) := by
  unfold maxLen at hs
  by_cases hlong : 200 < s.size
  · have hE := Lib.hid (show parsePV s = .tuple #[.agg Z7, .int .i64 4] by unfold parsePV; rw [if_pos hlong])
    go_enter Tryd.func16, Tryd.ntmps16
    go_wp2
    refine bodyPost_ret (v := .tuple #[.agg Z7, .int .i64 4]) (by simp [results, Tryd.results16, go_sem]) rfl ?_
    exact ⟨by rw [hE.out], (Below.refl _ _).alloc (Nat.le_refl _) _⟩
  have hE := Lib.hid (show parsePV s = parseR (Lib.goFieldsP blankR s) by unfold parsePV; rw [if_neg hlong])
  go_enter Tryd.func16, Tryd.ntmps16
  go_wp2_with fail
  refine (words_r s _ (by omega)).mono ?_
  rintro e w1 ⟨v, rfl, hown, hb1⟩
  obtain ⟨a1, c1, rfl, hP⟩ := PS.start2 (T := 83) #[.int .i64 0, .string ⟨#[]⟩, .string ⟨#[]⟩, .int .i64 0, .int .i64 0, .int .i64 (-1099511627776), .int .i64 0] (by simpa using hown) (by simpa using hb1) (fun x hx => by have := fields_short s x hx; omega)
  replace hP := Lib.hid hP
  have hsz := Lib.hid (show w.heap.size + 1 ≤ w1.heap.size by have := hb1.size; simpa using this)
  clear hown hb1
  generalize Lib.goFieldsP blankR s = F at hP hE ⊢
  unfold Z7 at *
  go_wp2_with fail
  refine (next_r hP.out).mono ?_
  rintro e w2 ⟨rfl, hP2⟩
  clear hP
  replace hP2 := Lib.hid hP2
  go_wp2_with fail
  generalize hbe : w1.heap.size = b at *
  replace hbe := Lib.hid hbe
  go_loopw [7] (fun s7 wr => ∃ (k : Nat) (kk : Int), 1 ≤ k ∧ k ≤ 5 ∧ s7 = .int .i64 k ∧ Hid (PMr w b (b + 1) (restW (F, false)) #[.int .i64 kk, .string ⟨#[]⟩, .string ⟨#[]⟩, .int .i64 0, .int .i64 0, .int .i64 (-1099511627776), .int .i64 0] wr) ∧ Hid (KRelR (takeW (F, false)) k kk)) (fun s7 _ => 5 - (intOf s7).toNat)
  case atStart => exact ⟨1, 0, by omega, by omega, rfl, hP2, Lib.hid (KRelR.start _)⟩
  case round =>
    obtain ⟨k, kk, hk1, hk5, rfl, hP, hR⟩ := hrel
    clear hP2
    by_cases hlt : k < 5
    · have hP' := Lib.hid (PS.grow hP.out (v := (wr.alloc (.cells K5 9)).alloc (.cells K5 9)) (((Below.refl _ _).alloc (Nat.le_refl _) _).alloc (by simp) _))
      have hc := K5_cell wr hk1 hlt
      have hm1 : (0 : Int) ≤ (k : Int) := Int.natCast_nonneg _
      have hm2 : (k : Int) < 5 := by omega
      have hw2 : (wr.alloc (.cells K5 9)).heap.size = wr.heap.size + 1 := by simp
      go_wp2_with fail
      refine (kinds_ref _).mono ?_
      rintro e u1 ⟨rfl, rfl⟩
      go_wp2_with fail
      refine (kinds_ref _).mono ?_
      rintro e u2 ⟨rfl, rfl⟩
      rw [hw2]
      clear hw2
      obtain ⟨⟨⟨p0, -⟩, f0, -⟩, -⟩ := PMr.cells' hP'.out
      by_cases hn : kindNm k = takeW (F, false)
      · have hQ := Lib.hid (KRelR.hit hk1 hlt hn)
        have he := bytes_eqB hn.symm
        clear hn
        go_wp2
        go_roundw
        case rel => exact ⟨k + 1, _, by omega, by omega, by go_num, Lib.hid (PMr.put' hP'.out (by have := hsz.out; omega) 0 _), hQ⟩
        case measure => (first | (simp [intOf]; omega) | simp [intOf])
      · have hQ := Lib.hid (KRelR.miss hk1 hlt hn hR.out)
        have he := bytes_neB (fun e => hn e.symm)
        clear hn
        go_wp2
        go_roundw
        case rel => exact ⟨k + 1, _, by omega, by omega, by go_num, hP', hQ⟩
        case measure => (first | (simp [intOf]; omega) | simp [intOf])
    · obtain rfl : k = 5 := by omega
      have hkk := Lib.hid (hR.out.done (Nat.le_refl _))
      have hP' := Lib.hid (PS.grow hP.out (v := wr.alloc (.cells K5 9)) ((Below.refl _ _).alloc (Nat.le_refl _) _))
      clear hR hP hk1 hk5 hlt
      have hP := hP'
      clear hP'
      go_wp2_with fail
      refine (kinds_ref _).mono ?_
      rintro e u1 ⟨rfl, rfl⟩
      generalize wr.alloc (.cells K5 9) = wr at hP ⊢
      have hg := Lib.hid (show w.heap.size < b + 1 by have := hsz.out; omega)
      clear hsz
      have hbne : ¬ w.heap.size = b + 1 := by have := hg.out; omega
      have hbne2 : ¬ b + 1 = w.heap.size := by omega
      have hQ := Lib.hid (show parseR F = rBelow kk (takeW (needW ofW (restW (F, false)))) (restW (needW ofW (restW (F, false)))) by rw [hkk.out]; rfl)
      clear hkk
      generalize restW (F, false) = S1 at hP hQ
      generalize b + 1 = g at hP hg hbne hbne2 ⊢
      go_wp2_with fail
      refine (need_r ofW hP.out).mono ?_
      rintro e wa ⟨rfl, hPa⟩
      clear hP
      replace hPa := Lib.hid hPa
      generalize needW ofW S1 = S2 at hPa hQ
      go_wp2_with fail
      refine (next_r hPa.out).mono ?_
      rintro e wb ⟨rfl, hPb⟩
      have hnm0 := hPa.out.short.take
      clear hPa
      have hPb := Lib.hid hPb
      have hnm := Lib.hid hnm0
      clear hnm0
      generalize takeW S2 = nm at hPb hQ hnm ⊢
      generalize restW S2 = S3 at hPb hQ
      obtain ⟨⟨⟨p0, p1, p2, p3, p4, p5, p6⟩, f0, f1, f2, f3, f4, f5, f6⟩, -⟩ := PMr.cells' hPb.out
      have hPc := Lib.hid (PMr.put' hPb.out hg.out 1 (.string nm))
      go_upto_if 41 with fail
      go_cut [] (fun wx => ∃ (bl : ByteArray) (S : WS), Hid (PMr w b g S #[.int .i64 kk, .string nm, .string bl, .int .i64 0, .int .i64 0, .int .i64 (-1099511627776), .int .i64 0] wx) ∧ Hid (parseR F = rWin kk nm bl S) ∧ Hid (bl.size ≤ 140737488355328))
      case first =>
        clear p0 p1 p2 p3 p4 p5 p6 f0 f1 f2 f3 f4 f5 f6 hPb
        generalize wb.setCell _ _ = wc at hPc ⊢
        by_cases hk4 : kk = 4
        · subst hk4
          have hQ4 := Lib.hid (show parseR F = rWin 4 nm (takeW (needW toW S3)) (restW (needW toW S3)) by rw [hQ.out]; unfold rBelow; rw [if_pos rfl])
          clear hQ
          go_wp2_with fail
          refine (need_r toW hPc.out).mono ?_
          rintro e wd ⟨rfl, hPd⟩
          clear hPc
          replace hPd := Lib.hid hPd
          generalize needW toW S3 = S4 at hPd hQ4
          go_wp2_with fail
          refine (next_r hPd.out).mono ?_
          rintro e we ⟨rfl, hPe⟩
          have hbl := Lib.hid hPd.out.short.take
          clear hPd
          have hPe := Lib.hid hPe
          generalize takeW S4 = bl at hPe hQ4 hbl ⊢
          obtain ⟨⟨⟨p0, p1, p2, p3, p4, p5, p6⟩, f0, f1, f2, f3, f4, f5, f6⟩, -⟩ := PMr.cells' hPe.out
          go_wp2
          go_meet
          exact ⟨_, _, Lib.hid (PMr.put' hPe.out hg.out 2 (.string bl)), hQ4, hbl⟩
        · have hQ4 := Lib.hid (show parseR F = rWin kk nm ⟨#[]⟩ S3 by rw [hQ.out]; unfold rBelow; rw [if_neg hk4])
          have hk5 : (kk == 4) = false := by simpa using hk4
          clear hQ hk4
          go_wp2
          go_meet
          exact ⟨_, _, hPc, hQ4, Lib.hid (Nat.zero_le _)⟩
      clear hPc hPb hQ p0 p1 p2 p3 p4 p5 p6 f0 f1 f2 f3 f4 f5 f6
      obtain ⟨bl, S4, hP, hQ, hbl⟩ := hcut
      go_wp2_with fail
      refine (need_r withinW hP.out).mono ?_
      rintro e wd ⟨rfl, hPd⟩
      clear hP
      replace hPd := Lib.hid hPd
      unfold rWin at hQ
      generalize needW withinW S4 = S5 at hPd hQ
      go_wp2_with fail
      refine (number_r hPd.out).mono ?_
      rintro e we ⟨rfl, hPe⟩
      clear hPd
      have hPe := Lib.hid hPe
      generalize numV S5 = win at hPe hQ ⊢
      generalize numR S5 = S6 at hPe hQ
      obtain ⟨⟨⟨p0, p1, p2, p3, p4, p5, p6⟩, f0, f1, f2, f3, f4, f5, f6⟩, -⟩ := PMr.cells' hPe.out
      have hPf := Lib.hid (PMr.put' hPe.out hg.out 3 (.int .i64 win))
      go_wp2_with fail
      clear hPe p0 p1 p2 p3 p4 p5 p6 f0 f1 f2 f3 f4 f5 f6
      refine (need_r capW hPf.out).mono ?_
      rintro e wd ⟨rfl, hPd⟩
      clear hPf
      replace hPd := Lib.hid hPd
      generalize needW capW S6 = S7 at hPd hQ
      go_wp2_with fail
      refine (number_r hPd.out).mono ?_
      rintro e we ⟨rfl, hPe⟩
      clear hPd
      have hPe := Lib.hid hPe
      generalize numV S7 = cap at hPe hQ ⊢
      generalize numR S7 = S8 at hPe hQ
      obtain ⟨⟨⟨p0, p1, p2, p3, p4, p5, p6⟩, f0, f1, f2, f3, f4, f5, f6⟩, -⟩ := PMr.cells' hPe.out
      have hPf := Lib.hid (PMr.put' hPe.out hg.out 4 (.int .i64 cap))
      go_upto_region 20 with fail
      clear hPe p0 p1 p2 p3 p4 p5 p6 f0 f1 f2 f3 f4 f5 f6
      generalize we.setCell _ _ = wf at hPf ⊢
      go_cut [71] (fun s wx => s = .bool (hasB leastW S8) ∧ Hid (PMr w b g S8 #[.int .i64 kk, .string nm, .string bl, .int .i64 win, .int .i64 cap, .int .i64 (-1099511627776), .int .i64 0] wx))
      case first =>
        rcases PS.headWays leastW hPf.out with ⟨hh, a5, c5, h05⟩ | ⟨y, r5, blk5, off5, c5, hh, h05, hc5, hc6, hy5⟩
        · replace hh := Lib.hid hh
          go_wp2
          go_meet
          exact ⟨congrArg Value.bool hh.out.symm, hPf⟩
        · have n5 : (0 : Int) < (r5.length : Int) + 1 := by omega
          rcases hh with ⟨hh, hy⟩ | ⟨hh, hy, -⟩
          · replace hh := Lib.hid hh
            have hy6 := bytes_neB hy
            have hy7 := Lib.hid (show (y.toList == [108, 101, 97, 115, 116]) = false by rw [ByteArray.toList_eq leastW] at hy6; exact hy6)
            clear hy hy6
            go_wp2
            go_meet
            exact ⟨congrArg Value.bool (hy7.out.trans hh.out.symm), hPf⟩
          · replace hh := Lib.hid hh
            have hy6 := bytes_eqB hy
            have hy7 := Lib.hid (show (y.toList == [108, 101, 97, 115, 116]) = true by rw [ByteArray.toList_eq leastW] at hy6; exact hy6)
            clear hy hy6
            go_wp2
            go_meet
            exact ⟨congrArg Value.bool (hy7.out.trans hh.out.symm), hPf⟩
      clear hPf
      obtain ⟨rfl, hP⟩ := hcut
      go_upto_if 71 with fail
      go_cut [] (fun wx => ∃ (least : Int) (S : WS), Hid (PMr w b g S #[.int .i64 kk, .string nm, .string bl, .int .i64 win, .int .i64 cap, .int .i64 least, .int .i64 0] wx) ∧ Hid (parseR F = rBefore kk nm bl win cap least S))
      case first =>
        by_cases hh : hasB leastW S8 = true
        · have hr := Lib.hid (show hasR leastW S8 = restW S8 by
            rcases PS.headWays leastW hP.out with ⟨h1, -⟩ | ⟨_, _, _, _, _, h1, -⟩
            · rw [hh] at h1; cases h1
            · rcases h1 with ⟨h1, -⟩ | ⟨-, -, h1⟩
              · rw [hh] at h1; cases h1
              · exact h1)
          have hQ4 := Lib.hid (show parseR F = rBefore kk nm bl win cap (numV (hasR leastW S8)) (numR (hasR leastW S8)) by rw [hQ.out]; unfold rLeast; rw [if_pos hh])
          rw [hr.out] at hQ4
          rw [hh]
          clear hQ hh hr
          go_wp2_with fail
          refine (next_r hP.out).mono ?_
          rintro e wd ⟨rfl, hPd⟩
          clear hP
          replace hPd := Lib.hid hPd
          generalize restW S8 = S9 at hPd hQ4
          go_wp2_with fail
          refine (number_r hPd.out).mono ?_
          rintro e we ⟨rfl, hPe⟩
          clear hPd
          have hPe := Lib.hid hPe
          generalize numV S9 = least at hPe hQ4 ⊢
          obtain ⟨⟨⟨p0, p1, p2, p3, p4, p5, p6⟩, f0, f1, f2, f3, f4, f5, f6⟩, -⟩ := PMr.cells' hPe.out
          go_wp2
          go_meet
          exact ⟨_, _, Lib.hid (PMr.put' hPe.out hg.out 5 (.int .i64 least)), hQ4⟩
        · have hQ4 := Lib.hid (show parseR F = rBefore kk nm bl win cap (-1099511627776) S8 by rw [hQ.out]; unfold rLeast; rw [if_neg hh])
          have hh2 : hasB leastW S8 = false := by simpa using hh
          rw [hh2]
          clear hQ hh hh2
          go_wp2
          go_meet
          exact ⟨_, _, hP, hQ4⟩
      clear hP hQ
      obtain ⟨least, S10, hP, hQ⟩ := hcut
      go_upto_region 23 with fail
      have hPf := hP
      clear hP
      go_cut [91] (fun s wx => s = .bool (hasB beforeW S10) ∧ Hid (PMr w b g S10 #[.int .i64 kk, .string nm, .string bl, .int .i64 win, .int .i64 cap, .int .i64 least, .int .i64 0] wx))
      case first =>
        rcases PS.headWays beforeW hPf.out with ⟨hh, a5, c5, h05⟩ | ⟨y, r5, blk5, off5, c5, hh, h05, hc5, hc6, hy5⟩
        · replace hh := Lib.hid hh
          go_wp2
          go_meet
          exact ⟨congrArg Value.bool hh.out.symm, hPf⟩
        · have n5 : (0 : Int) < (r5.length : Int) + 1 := by omega
          rcases hh with ⟨hh, hy⟩ | ⟨hh, hy, -⟩
          · replace hh := Lib.hid hh
            have hy6 := bytes_neB hy
            have hy7 := Lib.hid (show (y.toList == [98, 101, 102, 111, 114, 101]) = false by rw [ByteArray.toList_eq beforeW] at hy6; exact hy6)
            clear hy hy6
            go_wp2
            go_meet
            exact ⟨congrArg Value.bool (hy7.out.trans hh.out.symm), hPf⟩
          · replace hh := Lib.hid hh
            have hy6 := bytes_eqB hy
            have hy7 := Lib.hid (show (y.toList == [98, 101, 102, 111, 114, 101]) = true by rw [ByteArray.toList_eq beforeW] at hy6; exact hy6)
            clear hy hy6
            go_wp2
            go_meet
            exact ⟨congrArg Value.bool (hy7.out.trans hh.out.symm), hPf⟩
      clear hPf
      obtain ⟨rfl, hP⟩ := hcut
      go_upto_if 91 with fail
      go_cut [] (fun wx => ∃ (before : Int) (S : WS), Hid (PMr w b g S #[.int .i64 kk, .string nm, .string bl, .int .i64 win, .int .i64 cap, .int .i64 least, .int .i64 before] wx) ∧ Hid (parseR F = finM kk nm bl win cap least before S))
      case first =>
        by_cases hh : hasB beforeW S10 = true
        · have hr := Lib.hid (show hasR beforeW S10 = restW S10 by
            rcases PS.headWays beforeW hP.out with ⟨h1, -⟩ | ⟨_, _, _, _, _, h1, -⟩
            · rw [hh] at h1; cases h1
            · rcases h1 with ⟨h1, -⟩ | ⟨-, -, h1⟩
              · rw [hh] at h1; cases h1
              · exact h1)
          have hQ4 := Lib.hid (show parseR F = finM kk nm bl win cap least (numV (hasR beforeW S10)) (numR (hasR beforeW S10)) by rw [hQ.out]; unfold rBefore; rw [if_pos hh])
          rw [hr.out] at hQ4
          rw [hh]
          clear hQ hh hr
          go_wp2_with fail
          refine (next_r hP.out).mono ?_
          rintro e wd ⟨rfl, hPd⟩
          clear hP
          replace hPd := Lib.hid hPd
          generalize restW S10 = S9 at hPd hQ4
          go_wp2_with fail
          refine (number_r hPd.out).mono ?_
          rintro e we ⟨rfl, hPe⟩
          clear hPd
          have hPe := Lib.hid hPe
          generalize numV S9 = before at hPe hQ4 ⊢
          obtain ⟨⟨⟨p0, p1, p2, p3, p4, p5, p6⟩, f0, f1, f2, f3, f4, f5, f6⟩, -⟩ := PMr.cells' hPe.out
          go_wp2
          go_meet
          exact ⟨_, _, Lib.hid (PMr.put' hPe.out hg.out 6 (.int .i64 before)), hQ4⟩
        · have hQ4 := Lib.hid (show parseR F = finM kk nm bl win cap least 0 S10 by rw [hQ.out]; unfold rBefore; rw [if_neg hh])
          have hh2 : hasB beforeW S10 = false := by simpa using hh
          rw [hh2]
          clear hQ hh hh2
          go_wp2
          go_meet
          exact ⟨_, _, hP, hQ4⟩
      clear hP hQ
      obtain ⟨before, S, hP, hQ⟩ := hcut
      obtain ⟨F1, f2, f3⟩ := hP.out.flag
      obtain ⟨l, bad⟩ := S
      have hcl := hP.out.cells
      obtain ⟨⟨⟨p0, p1, p2, p3, p4, p5, p6⟩, g0, g1, g2, g3, g4, g5, g6⟩, ⟨z0, z1, z2, z3, z4, z5, z6⟩, y0, y1, y2, y3, y4, y5, y6⟩ := PMr.cells' hP.out
      have hBz := Lib.hid (((((((hP.out.below.setCell (p := ⟨w.heap.size, 0, none⟩) (Nat.le_refl _) (.int .i64 0)).setCell (p := ⟨w.heap.size, 1, none⟩) (Nat.le_refl _) (.string ⟨#[]⟩)).setCell (p := ⟨w.heap.size, 2, none⟩) (Nat.le_refl _) (.string ⟨#[]⟩)).setCell (p := ⟨w.heap.size, 3, none⟩) (Nat.le_refl _) (.int .i64 0)).setCell (p := ⟨w.heap.size, 4, none⟩) (Nat.le_refl _) (.int .i64 0)).setCell (p := ⟨w.heap.size, 5, none⟩) (Nat.le_refl _) (.int .i64 0)).setCell (p := ⟨w.heap.size, 6, none⟩) (Nat.le_refl _) (.int .i64 0))
      by_cases hbad : bad = true ∨ kk = 0 ∨ l ≠ []
      · have hQ2 := Lib.hid (show parsePV s = .tuple #[.agg #[.int .i64 0, .string ⟨#[]⟩, .string ⟨#[]⟩, .int .i64 0, .int .i64 0, .int .i64 0, .int .i64 0], .int .i64 1] by rw [hE.out, hQ.out]; unfold finM; rw [if_pos hbad])
        clear hQ hE p1 p2 p3 p4 p5 p6 g0 g1 g2 g3 g4 g5 g6
        replace hP := Lib.hid hP
        have hways : (kk == 0) = true ∨ (bad = true ∧ (kk == 0) = false) ∨ (bad = false ∧ (kk == 0) = false ∧ ∃ x r blk off c, l = x :: r ∧ wc.cell? ⟨b, 0, none⟩ = some (.slice (some ⟨blk, off, none⟩) (r.length + 1) c) ∧ (0 : Int) < (r.length : Int) + 1) := by
          by_cases hk : kk = 0
          · exact Or.inl (by simpa using hk)
          · have hk' : (kk == 0) = false := by simpa using hk
            cases bad with
            | true => exact Or.inr (Or.inl ⟨rfl, hk'⟩)
            | false =>
              refine Or.inr (Or.inr ⟨rfl, hk', ?_⟩)
              rcases hcl with ⟨h1, -⟩ | ⟨x, r, blk, off, c, h1, -, -, h2, -⟩
              · simp only at h1
                subst h1
                rcases hbad with h | h | h
                · cases h
                · exact absurd h hk
                · exact absurd rfl h
              · exact ⟨x, r, blk, off, c, h1, h2, by omega⟩
        clear hcl hbad
        rcases hways with hk | ⟨rfl, hk⟩ | ⟨rfl, hk, x, r, blk, off, c, rfl, h0, hr⟩
        all_goals
          replace hP := Lib.hid hP
          go_wp2
          refine bodyPost_ret (v := .tuple #[.agg #[.int .i64 0, .string ⟨#[]⟩, .string ⟨#[]⟩, .int .i64 0, .int .i64 0, .int .i64 0, .int .i64 0], .int .i64 1]) (by simp [results, Tryd.results16, go_sem, z0, z1, z2, z3, z4, z5, z6]) rfl ?_
          exact ⟨by rw [hQ2.out], hBz.out⟩
      · have hl : l = [] := by
          by_cases h : l = []
          · exact h
          · exact absurd (Or.inr (Or.inr h)) hbad
        have hb : bad = false := by
          cases bad with
          | false => rfl
          | true => exact absurd (Or.inl rfl) hbad
        have hk0 : ¬ kk = 0 := fun h => hbad (Or.inr (Or.inl h))
        have hk : (kk == 0) = false := by simpa using hk0
        subst hl hb
        have hQ2 := Lib.hid (show parsePV s = if chkM (mvOf kk nm bl win cap least before) = 0 then .tuple #[.agg (rowM kk nm bl win cap least before), .int .i64 0] else .tuple #[.agg Z7, .int .i64 (chkM (mvOf kk nm bl win cap least before))] by rw [hE.out, hQ.out]; unfold finM; rw [if_neg (by simp [hk0])])
        clear hQ hE hbad hk0
        rcases hcl with ⟨-, a0, c0, h0⟩ | ⟨x, r, blk, off, c, h1, -⟩
        case inr => cases h1
        go_wp2_with fail
        refine (check_mr (mvOf kk nm bl win cap least before) nm bl _ rfl rfl (by have := hnm.out; unfold maxLen; omega) (by have := hbl.out; unfold maxLen; omega)).mono ?_
        rintro e w5 ⟨rfl, hb5⟩
        have hP5 := Lib.hid (hP.out.grow hb5)
        clear hP hb5 F1 f2 f3 h0 p0 p1 p2 p3 p4 p5 p6 g0 g1 g2 g3 g4 g5 g6 z0 z1 z2 z3 z4 z5 z6 y0 y1 y2 y3 y4 y5 y6 hBz
        obtain ⟨⟨⟨p0, p1, p2, p3, p4, p5, p6⟩, g0, g1, g2, g3, g4, g5, g6⟩, ⟨z0, z1, z2, z3, z4, z5, z6⟩, y0, y1, y2, y3, y4, y5, y6⟩ := PMr.cells' hP5.out
        by_cases hc : chkM (mvOf kk nm bl win cap least before) = 0
        · have hQ3 := Lib.hid (show parsePV s = .tuple #[.agg (rowM kk nm bl win cap least before), .int .i64 0] by rw [hQ2.out, if_pos hc])
          rw [hc]
          clear hQ2 hc
          have hBz := Lib.hid (((((((hP5.out.below.setCell (p := ⟨w.heap.size, 0, none⟩) (Nat.le_refl _) (.int .i64 kk)).setCell (p := ⟨w.heap.size, 1, none⟩) (Nat.le_refl _) (.string nm)).setCell (p := ⟨w.heap.size, 2, none⟩) (Nat.le_refl _) (.string bl)).setCell (p := ⟨w.heap.size, 3, none⟩) (Nat.le_refl _) (.int .i64 win)).setCell (p := ⟨w.heap.size, 4, none⟩) (Nat.le_refl _) (.int .i64 cap)).setCell (p := ⟨w.heap.size, 5, none⟩) (Nat.le_refl _) (.int .i64 least)).setCell (p := ⟨w.heap.size, 6, none⟩) (Nat.le_refl _) (.int .i64 before))
          go_wp2
          refine bodyPost_ret (v := .tuple #[.agg (rowM kk nm bl win cap least before), .int .i64 0]) (by simp [results, Tryd.results16, go_sem, z0, z1, z2, z3, z4, z5, z6, rowM]) rfl ?_
          exact ⟨by rw [hQ3.out], hBz.out⟩
        · have hQ3 := Lib.hid (show parsePV s = .tuple #[.agg Z7, .int .i64 (chkM (mvOf kk nm bl win cap least before))] by rw [hQ2.out, if_neg hc])
          have hc2 : (chkM (mvOf kk nm bl win cap least before) != 0) = true := by simpa using hc
          clear hQ2 hc
          generalize chkM (mvOf kk nm bl win cap least before) = ck at hQ3 hc2 ⊢
          have hBz := Lib.hid (((((((hP5.out.below.setCell (p := ⟨w.heap.size, 0, none⟩) (Nat.le_refl _) (.int .i64 0)).setCell (p := ⟨w.heap.size, 1, none⟩) (Nat.le_refl _) (.string ⟨#[]⟩)).setCell (p := ⟨w.heap.size, 2, none⟩) (Nat.le_refl _) (.string ⟨#[]⟩)).setCell (p := ⟨w.heap.size, 3, none⟩) (Nat.le_refl _) (.int .i64 0)).setCell (p := ⟨w.heap.size, 4, none⟩) (Nat.le_refl _) (.int .i64 0)).setCell (p := ⟨w.heap.size, 5, none⟩) (Nat.le_refl _) (.int .i64 0)).setCell (p := ⟨w.heap.size, 6, none⟩) (Nat.le_refl _) (.int .i64 0))
          go_wp2
          refine bodyPost_ret (v := .tuple #[.agg #[.int .i64 0, .string ⟨#[]⟩, .string ⟨#[]⟩, .int .i64 0, .int .i64 0, .int .i64 0, .int .i64 0], .int .i64 ck]) (by simp [results, Tryd.results16, go_sem, z0, z1, z2, z3, z4, z5, z6]) rfl ?_
          exact ⟨by rw [hQ3.out], hBz.out⟩

end Go.Proofs.YtnghpjijfdpmkaaDoor.metric

