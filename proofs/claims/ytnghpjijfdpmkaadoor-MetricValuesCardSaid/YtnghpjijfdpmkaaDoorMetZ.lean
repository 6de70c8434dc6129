/- The reference's Value. -/
import Derived.Test.YtnghpjijfdpmkaaDoorMetY
import Derived.Test.YtnghpjijfdpmkaaDoorMetE
namespace Go.Proofs.YtnghpjijfdpmkaaDoor.metric
open Go.RowKit Go.Proofs.YtnghpjijfdpmkaaDoor Go.Proofs.YtnghpjijfdpmkaaDoor.text

def sumR (m : MV) (e : EV) : Int := if e.name.data.toList = m.name ∧ m.least ≤ e.value then e.value else 0
def cntR (m : MV) (e : EV) : Int := if e.name.data.toList = m.name ∧ m.least ≤ e.value then 1 else 0
def belR (m : MV) (e : EV) : Int := if e.name.data.toList = m.below then e.value else 0
theorem add_sum {m : MV} (h : m.k = 1 ∨ m.k = 4) : addM m = sumR m := by funext e; unfold addM sumR; rw [if_pos h]
theorem add_cnt {m : MV} (h : ¬ (m.k = 1 ∨ m.k = 4)) : addM m = cntR m := by funext e; unfold addM cntR; rw [if_neg h]
theorem bel_bel {m : MV} (h : m.k = 4) : belM m = belR m := by
  funext e; unfold belM belR
  by_cases hn : e.name.data.toList = m.below
  · rw [if_pos ⟨h, hn⟩, if_pos hn]
  · rw [if_neg (fun q => hn q.2), if_neg hn]
theorem bel_none {m : MV} (h : m.k ≠ 4) (E : List EV) : tot (belM m) E = 0 := by
  have h1 := tot_bd (belM m) 0 E (fun e _ => by unfold belM; rw [if_neg (fun q => h q.1)]; omega)
  omega
theorem sumR_bd (m : MV) (e : EV) (h : -1099511627776 ≤ e.value ∧ e.value ≤ 1099511627776) : -1099511627776 ≤ sumR m e ∧ sumR m e ≤ 1099511627776 := by unfold sumR; split <;> omega
theorem cntR_bd (m : MV) (e : EV) : -1099511627776 ≤ cntR m e ∧ cntR m e ≤ 1099511627776 := by unfold cntR; split <;> omega
theorem belR_bd (m : MV) (e : EV) (h : -1099511627776 ≤ e.value ∧ e.value ≤ 1099511627776) : -1099511627776 ≤ belR m e ∧ belR m e ≤ 1099511627776 := by unfold belR; split <;> omega
theorem lim_r (n cap : Int) (u : World) : Calls Tryd.prog 51 #[.int .i64 n, .int .i64 cap] u fun r u' => r = .returned (.int .i64 (limI n cap)) ∧ u' = u := by
  go_enter Tryd.func51, Tryd.ntmps51
  go_wp2
  go_ret
  exact ⟨rfl, rfl⟩
theorem msE_take (E : List EV) {k : Nat} (hk : k < E.length) : msE (E.take (k + 1)) = if E[k].kind = 2 then msE (E.take k) ++ [E[k]] else msE (E.take k) := by
  rw [take_at E hk]
  unfold msE
  rw [List.filter_append]
  by_cases h : E[k].kind = 2 <;> simp [h]
/-- What holds at the head of a round of the reference's sum. -/
structure RSum (m : MV) (w wr : World) (a : Option Addr) (E : List EV) (k : Nat) (s t : ByteArray) (x n y : Int) : Prop where
  box : Own wr w.heap.size #[.int .i64 m.k, .string s, .string t, .int .i64 m.win, .int .i64 m.cap, .int .i64 m.least, .int .i64 m.before] 29
  below : Below w.heap.size w wr
  evs : EvsAt wr.cell? a E
  x : x = tot (sumR m) (msE (E.take k))
  n : n = tot (cntR m) (msE (E.take k))
  y : y = tot (belR m) (msE (E.take k))
theorem RSum.world {m : MV} {w wr wv : World} {a : Option Addr} {E : List EV} {k : Nat} {s t : ByteArray} {x n y : Int} (h : RSum m w wr a E k s t x n y) (hb : Below wr.heap.size wr wv) : RSum m w wv a E k s t x n y :=
  ⟨h.box.below hb h.box.lt, h.below.trans (hb.mono h.below.size), h.evs.below hb, h.x, h.n, h.y⟩
theorem RSum.skip {m : MV} {w wr : World} {a : Option Addr} {E : List EV} {k : Nat} {s t : ByteArray} {x n y : Int} (h : RSum m w wr a E k s t x n y) (hk : k < E.length) (h2 : E[k].kind ≠ 2) : RSum m w wr a E (k + 1) s t x n y :=
  ⟨h.box, h.below, h.evs, by rw [msE_take E hk, if_neg h2]; exact h.x, by rw [msE_take E hk, if_neg h2]; exact h.n, by rw [msE_take E hk, if_neg h2]; exact h.y⟩
theorem RSum.next {m : MV} {w wr : World} {a : Option Addr} {E : List EV} {k : Nat} {s t : ByteArray} {x n y x' n' y' : Int} (h : RSum m w wr a E k s t x n y) (hk : k < E.length) (h2 : E[k].kind = 2) (hx : x' = x + sumR m E[k]) (hn : n' = n + cntR m E[k]) (hy : y' = y + belR m E[k]) : RSum m w wr a E (k + 1) s t x' n' y' :=
  ⟨h.box, h.below, h.evs, by rw [msE_take E hk, if_pos h2, tot_snoc, ← h.x]; exact hx, by rw [msE_take E hk, if_pos h2, tot_snoc, ← h.n]; exact hn, by rw [msE_take E hk, if_pos h2, tot_snoc, ← h.y]; exact hy⟩
theorem RSum.bds {m : MV} {w wr : World} {a : Option Addr} {E : List EV} {k : Nat} {s t : ByteArray} {x n y : Int} (h : RSum m w wr a E k s t x n y) (hl : E.length ≤ 100000) (hs : Small E) :
    (-200000000000000000 ≤ x ∧ x ≤ 200000000000000000) ∧ (-200000000000000000 ≤ n ∧ n ≤ 200000000000000000) ∧ -200000000000000000 ≤ y ∧ y ≤ 200000000000000000 := by
  have hl2 : (msE (E.take k)).length ≤ 100000 := Nat.le_trans (msE_len _) (by rw [List.length_take]; omega)
  have hm : ∀ e ∈ msE (E.take k), -1099511627776 ≤ e.value ∧ e.value ≤ 1099511627776 := fun e he => hs e (List.mem_of_mem_take (List.mem_filter.1 he).1)
  rw [h.x, h.n, h.y]
  exact ⟨tot_small _ _ hl2 fun e he => sumR_bd m e (hm e he), tot_small _ _ hl2 fun e he => cntR_bd m e, tot_small _ _ hl2 fun e he => belR_bd m e (hm e he)⟩

set_option maxRecDepth 100000 in
set_option maxHeartbeats 40000000 in
theorem value_r (m : MV) (s t : ByteArray) (a : Option Addr) (c : Nat) (E : List EV) (w : World) (hs : s.data.toList = m.name) (ht : t.data.toList = m.below) (hsz : s.size ≤ maxLen) (htz : t.size ≤ maxLen) (hE : EvsAt w.cell? a E) (hn : E.length ≤ 100000) (hsm : Small E) :
    Calls Tryd.prog 20 #[.agg #[.int .i64 m.k, .string s, .string t, .int .i64 m.win, .int .i64 m.cap, .int .i64 m.least, .int .i64 m.before], .slice a E.length c] w fun e w' => e = .returned (valM m E) ∧ Below w.heap.size w w' := by
  have hO := Lib.hid (Own.new w #[.int .i64 m.k, .string s, .string t, .int .i64 m.win, .int .i64 m.cap, .int .i64 m.least, .int .i64 m.before] 29)
  have hB := Lib.hid (show Below w.heap.size w (w.alloc (.cells #[.int .i64 m.k, .string s, .string t, .int .i64 m.win, .int .i64 m.cap, .int .i64 m.least, .int .i64 m.before] 29)) from (Below.refl _ _).alloc (Nat.le_refl _) _)
  replace hs := Lib.hid hs
  replace ht := Lib.hid ht
  replace hE := Lib.hid hE
  replace hsm := Lib.hid hsm
  replace hsz := Lib.hid hsz
  replace htz := Lib.hid htz
  go_enter Tryd.func20, Tryd.ntmps20
  go_wp2_with fail
  refine (check_mr m s t _ hs.out ht.out hsz.out htz.out).mono ?_
  rintro e w1 ⟨rfl, hb1⟩
  have hO1 := Lib.hid (hO.out.below hb1 hO.out.lt)
  have hB1 := Lib.hid (hB.out.trans (hb1.mono hB.out.size))
  clear hb1 hO hB
  by_cases ea : chkM m = 0
  case neg =>
    have hQ := Lib.hid (show valM m E = .tuple #[.int .i64 0, .int .i64 0] by unfold valM; rw [if_neg ea])
    have e1 : (chkM m != 0) = true := by simp [ea]
    clear ea
    generalize chkM m = ck at e1 hQ ⊢
    go_wp2
    go_ret2
    exact ⟨ret2 hQ.out.symm, hB1.out⟩
  have hM := Lib.hid (mok ea)
  have hPV := Lib.hid (show valM m E = .tuple #[.int .i64 (limI (tot (addM m) (msE E)) m.cap), .int .i64 (limI (tot (belM m) (msE E)) m.cap)] by unfold valM; rw [if_pos ea])
  rw [ea]
  clear ea
  have hV := Lib.hid (show RSum m w w1 a E 0 s t 0 0 0 from ⟨hO1.out, hB1.out, hE.out.below hB1.out, rfl, rfl, rfl⟩)
  clear hO1 hB1 hE
  go_wp2_with fail
  go_loopw [6, 7, 8, 9] (fun s6 s7 s8 s9 wr => ∃ (k : Nat) (x n y : Int), k ≤ E.length ∧ s9 = .int .i64 k ∧ s6 = .int .i64 x ∧ s7 = .int .i64 n ∧ s8 = .int .i64 y ∧ Hid (RSum m w wr a E k s t x n y)) (fun _ _ _ s9 _ => E.length - (intOf s9).toNat)
  case atStart => exact ⟨0, 0, 0, 0, Nat.zero_le _, rfl, rfl, rfl, rfl, hV⟩
  case round =>
    obtain ⟨k, x, n, y, hk, rfl, rfl, rfl, rfl, hV'⟩ := hrel
    clear hV
    by_cases hlt : k < E.length
    · obtain ⟨e0, he0⟩ : ∃ e0, Hid (e0 = E[k]) := ⟨_, Lib.hid rfl⟩
      have hke : E[k]? = some e0 := by rw [he0.out]; exact List.getElem?_eq_getElem hlt
      obtain ⟨blk, off, rfl, hblk, c0, c1, c2, c3', c4, c5, c6, c7, c8, c9⟩ := hV'.out.evs.cells hke
      obtain ⟨⟨x1, x2⟩, ⟨n1, n2⟩, y1, y2⟩ := hV'.out.bds hn hsm.out
      have hev : -1099511627776 ≤ e0.value ∧ e0.value ≤ 1099511627776 := by rw [he0.out]; exact hsm.out _ (List.getElem_mem _)
      obtain ⟨v1, v2⟩ := hev
      clear hke
      have m0 : (0 : Int) ≤ (k : Int) := Int.natCast_nonneg _
      have m1 : (k : Int) < (E.length : Int) := by omega
      have hV1 := Lib.hid (hV'.out.world (wv := wr.alloc (.cells (evA e0) 40)) ((Below.refl _ _).alloc (Nat.le_refl _) _))
      have hX := Lib.hid (Own.new wr (evA e0) 40)
      have hwr := hV'.out.below.size
      obtain ⟨p0, p1, p2, p3, p4, p5, p6⟩ := box7 hV'.out.box
      have hbl := hV'.out.box.lt
      go_upto_region 8 with fail
      clear c0 c1 c2 c3' c4 c5 c6 c7 c8 c9 p0 p1 p2 p3 p4 p5 p6 hV'
      have hebl := Lib.hid (show wr.heap.size < (wr.alloc (.cells (evA e0) 40)).heap.size by simp)
      unfold evA at hV1 hX hebl
      generalize wr.alloc (.cells _ 40) = wx at hV1 hX hebl ⊢
      have hne : w.heap.size < wr.heap.size := hbl
      generalize wr.heap.size = eb at hX hebl hblk hwr hne ⊢
      clear hbl hblk hwr
      obtain ⟨p0, p1, p2, p3, p4, p5, p6⟩ := box7 hV1.out.box
      have x2' := hX.out.cell 2
      have x5 := hX.out.cell 5
      have x9 := hX.out.cell 9
      simp only [List.getElem?_toArray, List.getElem?_cons_zero, List.getElem?_cons_succ] at x2' x5 x9
      have hxl : eb < wx.heap.size := hebl.out
      have hbx : w.heap.size < wx.heap.size := hV1.out.box.lt
      by_cases hq : e0.kind = 2
      · have hq2 : (e0.kind != 2) = false := by simp [hq]
        have hq3 := Lib.hid (show E[k].kind = 2 by rw [← he0.out]; exact hq)
        clear hq
        have ha : ((e0.name.toList == s.toList) = false ∧ Hid (sumR m E[k] = 0 ∧ cntR m E[k] = 0)) ∨ ((e0.name.toList == s.toList) = true ∧ decide (m.least ≤ e0.value) = false ∧ Hid (sumR m E[k] = 0 ∧ cntR m E[k] = 0)) ∨ ((e0.name.toList == s.toList) = true ∧ decide (m.least ≤ e0.value) = true ∧ Hid (sumR m E[k] = e0.value ∧ cntR m E[k] = 1)) := by
          rw [← he0.out]
          by_cases h1 : e0.name = s
          · by_cases h2 : m.least ≤ e0.value
            · refine Or.inr (Or.inr ⟨bytes_eqB h1, by simpa using h2, Lib.hid ?_⟩)
              unfold sumR cntR
              rw [if_pos ⟨by rw [h1, hs.out], h2⟩, if_pos ⟨by rw [h1, hs.out], h2⟩]
              exact ⟨rfl, rfl⟩
            · refine Or.inr (Or.inl ⟨bytes_eqB h1, by simpa using h2, Lib.hid ?_⟩)
              unfold sumR cntR
              rw [if_neg (fun h => h2 h.2), if_neg (fun h => h2 h.2)]
              exact ⟨rfl, rfl⟩
          · refine Or.inl ⟨bytes_neB h1, Lib.hid ?_⟩
            unfold sumR cntR
            rw [if_neg (fun h => h1 (ba_ext (by rw [h.1, hs.out]))), if_neg (fun h => h1 (ba_ext (by rw [h.1, hs.out])))]
            exact ⟨rfl, rfl⟩
        have hb : ((e0.name.toList == t.toList) = false ∧ Hid (belR m E[k] = 0)) ∨ ((e0.name.toList == t.toList) = true ∧ Hid (belR m E[k] = e0.value)) := by
          rw [← he0.out]
          by_cases h1 : e0.name = t
          · refine Or.inr ⟨bytes_eqB h1, Lib.hid ?_⟩
            unfold belR
            rw [if_pos (by rw [h1, ht.out])]
          · refine Or.inl ⟨bytes_neB h1, Lib.hid ?_⟩
            unfold belR
            rw [if_neg (fun h => h1 (ba_ext (by rw [h, ht.out])))]
        rcases ha with ⟨h1, ha⟩ | ⟨h1, h2, ha⟩ | ⟨h1, h2, ha⟩
        all_goals rcases hb with ⟨h3, hb⟩ | ⟨h3, hb⟩
        all_goals
          go_wp2
          go_roundw
          case rel => exact ⟨k + 1, _, _, _, by omega, by go_num, rfl, rfl, rfl, Lib.hid (hV1.out.next hlt hq3.out (by rw [ha.out.1]; try omega) (by rw [ha.out.2]; try omega) (by rw [hb.out]; try omega))⟩
          case measure => (first | (simp [intOf]; omega) | simp [intOf])
      · have hq2 : (e0.kind != 2) = true := by simp [hq]
        have hq3 := Lib.hid (show E[k].kind ≠ 2 by rw [← he0.out]; exact hq)
        clear hq
        go_wp2
        go_roundw
        case rel => exact ⟨k + 1, _, _, _, by omega, by go_num, rfl, rfl, rfl, Lib.hid (hV1.out.skip hlt hq3.out)⟩
        case measure => (first | (simp [intOf]; omega) | simp [intOf])
    · obtain rfl : k = E.length := by omega
      have hx := Lib.hid hV'.out.x
      have hn' := Lib.hid hV'.out.n
      have hy := Lib.hid hV'.out.y
      obtain ⟨p0, p1, p2, p3, p4, p5, p6⟩ := box7 hV'.out.box
      have hk4 := hM.out.k
      have hcap := Lib.hid hM.out.cap
      rcases (show m.k = 1 ∨ m.k = 2 ∨ m.k = 3 ∨ m.k = 4 by omega) with h1 | h1 | h1 | h1
      all_goals
        rw [h1] at p0
        replace h1 := Lib.hid h1
        clear hk4
      · go_wp2_with fail
        refine (lim_r x m.cap _).mono ?_
        rintro e w4 ⟨rfl, rfl⟩
        go_wp2
        go_ret2
        refine ⟨ret2 ?_, hV'.out.below⟩
        rw [hPV.out, bel_none (by rw [h1.out]; decide), add_sum (Or.inl h1.out), hx.out, List.take_length]
        unfold limI
        rw [show max (0 : Int) (min 0 m.cap) = 0 by have := hcap.out; omega]
        rfl
      · go_wp2_with fail
        refine (lim_r n m.cap _).mono ?_
        rintro e w4 ⟨rfl, rfl⟩
        go_wp2
        go_ret2
        refine ⟨ret2 ?_, hV'.out.below⟩
        rw [hPV.out, bel_none (by rw [h1.out]; decide), add_cnt (by rw [h1.out]; decide), hn'.out, List.take_length]
        unfold limI
        rw [show max (0 : Int) (min 0 m.cap) = 0 by have := hcap.out; omega]
        rfl
      · go_wp2_with fail
        refine (lim_r n 1 _).mono ?_
        rintro e w4 ⟨rfl, rfl⟩
        go_wp2
        go_ret2
        refine ⟨ret2 ?_, hV'.out.below⟩
        rw [hPV.out, bel_none (by rw [h1.out]; decide), add_cnt (by rw [h1.out]; decide), hn'.out, List.take_length, hM.out.share h1.out]
        rfl
      · go_wp2_with fail
        go_quiet ((go_at_call 51; (first | with_reducible exact Calls.quiet_of_same (lim_r x m.cap _) | with_reducible exact Calls.quiet_of_same (lim_r y m.cap _))))
        go_wp2
        go_ret2
        refine ⟨ret2 ?_, blw_drewN hV'.out.below _⟩
        rw [hPV.out, bel_bel h1.out, add_sum (Or.inr h1.out), hx.out, hy.out, List.take_length]
        rfl

end Go.Proofs.YtnghpjijfdpmkaaDoor.metric

