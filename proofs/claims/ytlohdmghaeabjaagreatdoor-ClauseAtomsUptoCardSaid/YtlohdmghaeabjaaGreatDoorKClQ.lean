/- Whether two conditions are of one content: the reference's SameExpr; the place of a condition in a list: Index. -/
import Derived.Test.YtlohdmghaeabjaaGreatDoorKClY
import Derived.Test.YtlohdmghaeabjaaGreatDoorKClV
namespace Go.Proofs.YtlohdmghaeabjaaGreatDoor.clause
open Go.RowKit Go.Sort Go.Proofs.YtlohdmghaeabjaaGreatDoor Go.Proofs.YtlohdmghaeabjaaGreatDoor.schema Go.Proofs.YtlohdmghaeabjaaGreatDoor.value Go.Proofs.YtlohdmghaeabjaaGreatDoor.text Go.Proofs.YtlohdmghaeabjaaGreatDoor.draw

theorem below_rg (w : World) (dq : Nat) (os : Array Obj) : Below w.heap.size w (Sort.grow (redrawn w dq) os) := below_regrown w dq os

set_option maxRecDepth 100000 in
set_option maxHeartbeats 4000000 in
theorem reqV (xs ys : List VD) (a b : Option Addr) (n m c d : Nat) (w : World) (hX : RowsAt w.cell? 4 (.slice a n c) (xs.map VD.row)) (hY : RowsAt w.cell? 4 (.slice b m d) (ys.map VD.row)) (hLx : ∀ v ∈ xs, LAt w.cell? v) (hLy : ∀ v ∈ ys, LAt w.cell? v) :
    Calls Tryz.prog 62 #[.slice a n c, .slice b m d] w fun e w' => e = .returned (.bool (sameVL xs ys)) ∧ Below w.heap.size w w' := by
  have hn := (len_of hX).1
  have hm := (len_of hY).1
  have hn2 := (len_of hX).2
  have hm2 := (len_of hY).2
  simp only [List.length_map] at hn hm
  subst hn; subst hm
  replace hX := Lib.hid hX
  replace hY := Lib.hid hY
  replace hLx := Lib.hid hLx
  replace hLy := Lib.hid hLy
  go_enter Tryz.func62, Tryz.ntmps62
  by_cases hl : xs.length = ys.length
  case neg =>
    have hQ := Lib.hid (sameVL_len hl)
    have hne : ((xs.length : Int) != (ys.length : Int)) = true := by simp; omega
    go_wp2
    go_ret
    exact ⟨ret_to hQ.out, Below.refl _ _⟩
  rw [← hl]
  replace hl := Lib.hid hl
  go_wp2
  go_loopw [5] (fun i wr => ∃ k : Nat, k ≤ xs.length ∧ i = .int .i64 k ∧ Hid (Below w.heap.size w wr) ∧ Hid (RV xs ys k)) (fun i _ => xs.length - (intOf i).toNat)
  case atStart => exact ⟨0, Nat.zero_le _, rfl, Lib.hid (Below.refl _ _), Lib.hid rfl⟩
  case round =>
    obtain ⟨k, hk, rfl, hb, hT⟩ := hrel
    by_cases hlt : k < xs.length
    case neg =>
      have hE := Lib.hid (rv_end hlt hl.out hT.out)
      go_wp2
      go_ret
      exact ⟨ret_to hE.out, hb.out⟩
    have hly : k < ys.length := by have := hl.out; omega
    obtain ⟨bx, ox, rfl, x0, x1, x2, x3⟩ := vd_at (hX.out.mono (sub_of_below hb.out)) hlt
    obtain ⟨bY, oy, rfl, y0, y1, y2, y3⟩ := vd_at (hY.out.mono (sub_of_below hb.out)) hly
    have hlx := (hLx.out _ (List.getElem_mem hlt)).mono (sub_of_below hb.out)
    have hlyy := (hLy.out _ (List.getElem_mem hly)).mono (sub_of_below hb.out)
    have n0 : (0 : Int) ≤ (k : Int) := by omega
    have n1 : (k : Int) < (xs.length : Int) := by omega
    have hHit := Lib.hid (fun h1 => rv_hit hlt hly h1 hT.out)
    have hMiss := Lib.hid (fun h1 => rv_miss hlt hly h1 hT.out)
    generalize xs[k] = u at x0 x1 x2 x3 hlx hHit hMiss
    generalize ys[k] = v at y0 y1 y2 y3 hlyy hHit hMiss
    have cK := Lib.hid (fun (dq : Nat) (os : Array Obj) => Calls.regrown_of (eqr_any u v (Sort.grow (redrawn wr dq) os) (hlx.mono (sub_of_below (below_regrown wr dq os))) (hlyy.mono (sub_of_below (below_regrown wr dq os)))))
    have k0 := cell_regrown x0
    have k1 := cell_regrown x1
    have k2 := cell_regrown x2
    have k3 := cell_regrown x3
    have m0 := cell_regrown y0
    have m1 := cell_regrown y1
    have m2 := cell_regrown y2
    have m3 := cell_regrown y3
    clear hlx hlyy x0 x1 x2 x3 y0 y1 y2 y3
    go_wp2_with fail
    refine wp_region_quiet_below (by kernel_rfl) (by kernel_rfl) ?_
    repeat (go_big_quiet_step (exact cK.out _ _))
    refine wpQuiet_nil ?_
    intro _ hw'
    obtain ⟨⟨dq, osq⟩, hw''⟩ := hw'
    subst hw''
    have hbr := Lib.hid (hb.out.trans ((below_regrown wr dq osq).mono hb.out.size))
    clear cK k0 k1 k2 k3 m0 m1 m2 m3
    generalize Sort.grow (redrawn wr dq) osq = w5 at hbr ⊢
    cases h1 : eqV u v with
    | false =>
      have hq := Lib.hid (hHit.out h1)
      clear hHit hMiss
      go_wp2
      go_ret
      exact ⟨ret_to hq.out, hbr.out⟩
    | true =>
      have hq := Lib.hid (hMiss.out h1)
      clear hHit hMiss
      go_wp2
      go_roundw
      case rel => exact ⟨k + 1, by omega, by go_num, hbr, hq⟩
      case measure => simp [intOf]; omega

set_option maxRecDepth 100000 in
set_option maxHeartbeats 4000000 in
theorem reqE (xs ys : List ED) (rx ry : List (List Value)) (a b : Option Addr) (n m c d : Nat) (w : World) (hX : RowsAt w.cell? 5 (.slice a n c) rx) (hY : RowsAt w.cell? 5 (.slice b m d) ry) (hlx : rx.length = xs.length) (hly : ry.length = ys.length)
    (hLx : ∀ (i : Nat) (r : List Value) (k : ED), rx[i]? = some r → xs[i]? = some k → EAt w.cell? k r) (hLy : ∀ (i : Nat) (r : List Value) (k : ED), ry[i]? = some r → ys[i]? = some k → EAt w.cell? k r)
    (hcl : ∀ (i : Nat) (r r' : List Value) (k k' : ED) (w' : World), rx[i]? = some r → xs[i]? = some k → ry[i]? = some r' → ys[i]? = some k' → Below w.heap.size w w' → Calls Tryz.prog 27 #[.agg r.toArray, .agg r'.toArray] w' fun e w'' => e = .returned (.bool (sameB k k')) ∧ Below w'.heap.size w' w'') :
    Calls Tryz.prog 63 #[.slice a n c, .slice b m d] w fun e w' => e = .returned (.bool (sameKL xs ys)) ∧ Below w.heap.size w w' := by
  have hn := (len_of hX).1
  have hm := (len_of hY).1
  have hn2 := (len_of hX).2
  have hm2 := (len_of hY).2
  rw [hlx] at hn
  rw [hly] at hm
  subst hn; subst hm
  replace hX := Lib.hid hX
  replace hY := Lib.hid hY
  replace hLx := Lib.hid hLx
  replace hcl := Lib.hid hcl
  replace hlx := Lib.hid hlx
  replace hly := Lib.hid hly
  replace hLy := Lib.hid hLy
  go_enter Tryz.func63, Tryz.ntmps63
  by_cases hl : xs.length = ys.length
  case neg =>
    have hQ := Lib.hid (sameKL_len hl)
    have hne : ((xs.length : Int) != (ys.length : Int)) = true := by simp; omega
    go_wp2
    go_ret
    exact ⟨ret_to hQ.out, Below.refl _ _⟩
  rw [← hl]
  replace hl := Lib.hid hl
  go_wp2
  go_loopw [5] (fun i wr => ∃ k : Nat, k ≤ xs.length ∧ i = .int .i64 k ∧ Hid (Below w.heap.size w wr) ∧ Hid (RK xs ys k)) (fun i _ => xs.length - (intOf i).toNat)
  case atStart => exact ⟨0, Nat.zero_le _, rfl, Lib.hid (Below.refl _ _), Lib.hid rfl⟩
  case round =>
    obtain ⟨k, hk, rfl, hb, hT⟩ := hrel
    by_cases hlt : k < xs.length
    case neg =>
      have hE := Lib.hid (rk_end hlt hl.out hT.out)
      go_wp2
      go_ret
      exact ⟨ret_to hE.out, hb.out⟩
    have hky : k < ys.length := by have := hl.out; omega
    obtain ⟨bx, ox, xop, xkind, xname, xva, xvn, xvc, xka, xkn, xkc, rfl, x0, x1, x2, x3, x4, hrx⟩ := kid_at (hX.out.mono (sub_of_below hb.out)) hlx.out (fun j r k h1 h2 => hLx.out j r k h1 h2) hlt
    obtain ⟨bY, oy, yop, ykind, yname, yva, yvn, yvc, yka, ykn, ykc, rfl, y0, y1, y2, y3, y4, hry⟩ := kid_at (hY.out.mono (sub_of_below hb.out)) hly.out (fun j r k h1 h2 => hLy.out j r k h1 h2) hky
    have n0 : (0 : Int) ≤ (k : Int) := by omega
    have n1 : (k : Int) < (xs.length : Int) := by omega
    have hHit := Lib.hid (fun h1 => rk_hit hlt hky h1 hT.out)
    have hMiss := Lib.hid (fun h1 => rk_miss hlt hky h1 hT.out)
    have cK := Lib.hid (fun (dq : Nat) (os : Array Obj) => Calls.regrown_of (hcl.out k _ _ xs[k] ys[k] (Sort.grow (redrawn wr dq) os) hrx (List.getElem?_eq_getElem hlt) hry (List.getElem?_eq_getElem hky) (hb.out.trans ((below_regrown wr dq os).mono hb.out.size))))
    have k0 := cell_regrown x0
    have k1 := cell_regrown x1
    have k2 := cell_regrown x2
    have k3 := cell_regrown x3
    have k4 := cell_regrown x4
    have m0 := cell_regrown y0
    have m1 := cell_regrown y1
    have m2 := cell_regrown y2
    have m3 := cell_regrown y3
    have m4 := cell_regrown y4
    clear hrx hry x0 x1 x2 x3 x4 y0 y1 y2 y3 y4
    generalize xs[k] = u at cK hHit hMiss
    generalize ys[k] = v at cK hHit hMiss
    go_wp2_with fail
    refine wp_region_quiet_below (by kernel_rfl) (by kernel_rfl) ?_
    repeat (go_big_quiet_step (exact cK.out _ _))
    refine wpQuiet_nil ?_
    intro _ hw'
    obtain ⟨⟨dq, osq⟩, hw''⟩ := hw'
    subst hw''
    have hbr := Lib.hid (hb.out.trans ((below_regrown wr dq osq).mono hb.out.size))
    clear cK k0 k1 k2 k3 k4 m0 m1 m2 m3 m4
    generalize Sort.grow (redrawn wr dq) osq = w5 at hbr ⊢
    cases h1 : sameB u v with
    | false =>
      have hq := Lib.hid (hHit.out h1)
      clear hHit hMiss
      go_wp2
      go_ret
      exact ⟨ret_to hq.out, hbr.out⟩
    | true =>
      have hq := Lib.hid (hMiss.out h1)
      clear hHit hMiss
      go_wp2
      go_roundw
      case rel => exact ⟨k + 1, by omega, by go_num, hbr, hq⟩
      case measure => simp [intOf]; omega

set_option maxRecDepth 100000 in
set_option maxHeartbeats 4000000 in
theorem rsame_step (m : Mem) (op : Int) (kind name : ByteArray) (vals : List VD) (kids : List ED) (vs ks : Value) (rows : List (List Value)) (hv : RowsAt m 4 vs (vals.map VD.row)) (hk : RowsAt m 5 ks rows) (hl : rows.length = kids.length) (hL : ∀ v ∈ vals, LAt m v)
    (hE : ∀ (i : Nat) (r : List Value) (k : ED), rows[i]? = some r → kids[i]? = some k → EAt m k r)
    (ih : ∀ (j : Nat) (r : List Value) (k : ED), rows[j]? = some r → kids[j]? = some k → SameOk 27 m k r) :
    SameOk 27 m (.mk op kind name vals kids) [.int .i64 op, .string kind, .string name, vs, ks] := by
  intro m' d' r' h' w hs hs'
  obtain ⟨op', kind', name', va', vn', vc', ka', kn', kc', rfl⟩ := eat_five h'
  obtain ⟨vals', kids', rows', rfl, hv', hk', hl', hL', hE'⟩ := eat_parts h'
  obtain ⟨va, vn, vc, rfl⟩ : ∃ a n c, vs = .slice a n c := by obtain ⟨a, c, h, -⟩ := hv; exact ⟨_, _, _, h⟩
  obtain ⟨ka, kn, kc, rfl⟩ : ∃ a n c, ks = .slice a n c := by obtain ⟨a, c, h, -⟩ := hk; exact ⟨_, _, _, h⟩
  have hB : Below w.heap.size w ((w.alloc (.cells #[.int .i64 op, .string kind, .string name, .slice va vn vc, .slice ka kn kc] 29)).alloc (.cells #[.int .i64 op', .string kind', .string name', .slice va' vn' vc', .slice ka' kn' kc'] 29)) := ((Below.refl _ _).alloc (Nat.le_refl _) _).alloc (by simp) _
  have hX := (Own.new w #[.int .i64 op, .string kind, .string name, .slice va vn vc, .slice ka kn kc] 29).alloc (.cells #[.int .i64 op', .string kind', .string name', .slice va' vn' vc', .slice ka' kn' kc'] 29)
  have hY := Own.new (w.alloc (.cells #[.int .i64 op, .string kind, .string name, .slice va vn vc, .slice ka kn kc] 29)) #[.int .i64 op', .string kind', .string name', .slice va' vn' vc', .slice ka' kn' kc'] 29
  rw [World.size_alloc] at hY
  have hs1 := hs.trans (sub_of_below hB)
  have hs1' := hs'.trans (sub_of_below hB)
  have hgoV := Lib.hid (reqV vals vals' va va' vn vn' vc vc' _ (hv.mono hs1) (hv'.mono hs1') (fun v hm => (hL v hm).mono hs1) (fun v hm => (hL' v hm).mono hs1'))
  have hgoE := Lib.hid (fun (w1 : World) (hb : Below ((w.alloc (.cells #[.int .i64 op, .string kind, .string name, .slice va vn vc, .slice ka kn kc] 29)).alloc (.cells #[.int .i64 op', .string kind', .string name', .slice va' vn' vc', .slice ka' kn' kc'] 29)).heap.size ((w.alloc (.cells #[.int .i64 op, .string kind, .string name, .slice va vn vc, .slice ka kn kc] 29)).alloc (.cells #[.int .i64 op', .string kind', .string name', .slice va' vn' vc', .slice ka' kn' kc'] 29)) w1) => reqE kids kids' rows rows' ka ka' kn kn' kc kc' w1 (hk.mono (hs1.trans (sub_of_below hb))) (hk'.mono (hs1'.trans (sub_of_below hb))) hl hl' (fun i r k h1 h2 => (hE i r k h1 h2).mono (hs1.trans (sub_of_below hb))) (fun i r k h1 h2 => (hE' i r k h1 h2).mono (hs1'.trans (sub_of_below hb)))
    (fun i r r' k k' w' h1 h2 h3 h4 hb' => ih i r k h1 h2 m' k' r' (hE' i r' k' h3 h4) w' ((hs1.trans (sub_of_below hb)).trans (sub_of_below hb')) ((hs1'.trans (sub_of_below hb)).trans (sub_of_below hb'))))
  have hQ := Lib.hid (show sameB (.mk op kind name vals kids) (.mk op' kind' name' vals' kids') = (op == op' && (kind.toList == kind'.toList && (name.toList == name'.toList && (sameVL vals vals' && sameKL kids kids')))) from rfl)
  clear hv hk hl hL hE ih hv' hk' hl' hL' hE' h' hs hs' hs1 hs1'
  have hxl := hX.lt
  have hyl := hY.lt
  go_enter Tryz.func27, Tryz.ntmps27
  cases e1 : (op == op') with
  | false =>
    rw [e1] at hQ
    replace hB := Lib.hid hB
    go_wp2
    go_ret
    exact ⟨ret_to (by rw [hQ.out]; rfl), hB.out⟩
  | true =>
  rw [e1] at hQ
  cases e2 : (kind.toList == kind'.toList) with
  | false =>
    rw [e2] at hQ
    replace hB := Lib.hid hB
    go_wp2
    go_ret
    exact ⟨ret_to (by rw [hQ.out]; rfl), hB.out⟩
  | true =>
  rw [e2] at hQ
  cases e3 : (name.toList == name'.toList) with
  | false =>
    rw [e3] at hQ
    replace hB := Lib.hid hB
    go_wp2
    go_ret
    exact ⟨ret_to (by rw [hQ.out]; rfl), hB.out⟩
  | true =>
  rw [e3] at hQ
  replace hB := Lib.hid hB
  go_wp2_with fail
  refine hgoV.out.mono ?_
  rintro e w1 ⟨rfl, hb1⟩
  have hX1 := hX.below hb1 hxl
  have hY1 := hY.below hb1 hyl
  have hB1 := Lib.hid (hB.out.trans (hb1.mono hB.out.size))
  have hgo := Lib.hid (hgoE.out w1 hb1)
  obtain ⟨x0, x1, x2, x3, x4⟩ := own5z hX1
  obtain ⟨y0, y1, y2, y3, y4⟩ := own5z hY1
  have hxl1 := hX1.lt
  have hyl1 := hY1.lt
  clear hb1 hX1 hY1 hgoV hgoE hX hY hxl hyl
  cases e4 : sameVL vals vals' with
  | false =>
    rw [e4] at hQ
    go_wp2
    go_ret
    exact ⟨ret_to (by rw [hQ.out]; rfl), hB1.out⟩
  | true =>
  rw [e4] at hQ
  go_wp2_with fail
  refine hgo.out.mono ?_
  rintro e w2 ⟨rfl, hb2⟩
  have hB2 := Lib.hid (hB1.out.trans (hb2.mono hB1.out.size))
  clear hgo hb2
  generalize sameKL kids kids' = bb at hQ ⊢
  go_wp2
  go_ret
  exact ⟨ret_to (by rw [hQ.out]; rfl), hB2.out⟩

/-- The reference's comparison of conditions. -/
theorem rsame_any (m : Mem) (d : ED) (r : List Value) (h : EAt m d r) : SameOk 27 m d r := by
  induction h with
  | mk rows hv hk hl hL hE ih => exact rsame_step m _ _ _ _ _ _ _ rows hv hk hl hL hE ih

/-- The reference's place of a condition in a list. -/
def PlaceIs (b : Bool) (e : Ending) : Prop := ∃ q : Int, e = .returned (.int .i64 q) ∧ decide (q < 0) = !b ∧ -1 ≤ q
set_option maxRecDepth 100000 in
set_option maxHeartbeats 4000000 in
theorem rindex_any (acc : List ED) (rows : List (List Value)) (a : Option Addr) (n c : Nat) (m m' : Mem) (d : ED) (r : List Value) (hd : EAt m' d r) (w : World) (hX : RowsAt w.cell? 5 (.slice a n c) rows) (hlx : rows.length = acc.length)
    (hLx : ∀ (i : Nat) (r : List Value) (k : ED), rows[i]? = some r → acc[i]? = some k → EAt m k r) (hm : Sub m w.cell?) (hm' : Sub m' w.cell?) :
    Calls Tryz.prog 86 #[.slice a n c, .agg r.toArray] w fun e w' => PlaceIs (acc.any fun x => sameB x d) e ∧ Below w.heap.size w w' := by
  obtain ⟨op, kind, name, va, vn, vc, ka, kn, kc, rfl⟩ := eat_five hd
  have hB : Below w.heap.size w (w.alloc (.cells #[.int .i64 op, .string kind, .string name, .slice va vn vc, .slice ka kn kc] 29)) := (Below.refl _ _).alloc (Nat.le_refl _) _
  have hO := Own.new w #[.int .i64 op, .string kind, .string name, .slice va vn vc, .slice ka kn kc] 29
  have hn := (len_of hX).1
  have hn2 := (len_of hX).2
  rw [hlx] at hn
  subst hn
  have hX1 := Lib.hid (hX.mono (sub_of_below hB))
  have hm1 := Lib.hid (hm.trans (sub_of_below hB))
  have hm1' := Lib.hid (hm'.trans (sub_of_below hB))
  replace hLx := Lib.hid hLx
  replace hlx := Lib.hid hlx
  replace hd := Lib.hid hd
  replace hB := Lib.hid hB
  have hol := hO.lt
  replace hO := Lib.hid hO
  clear hX hm hm'
  go_enter Tryz.func86, Tryz.ntmps86
  go_wp2_with fail
  generalize w.alloc (.cells #[.int .i64 op, .string kind, .string name, .slice va vn vc, .slice ka kn kc] 29) = w1 at hB hX1 hm1 hm1' hol hO ⊢
  obtain ⟨Be, hBe⟩ : ∃ B : Nat, B = w.heap.size := ⟨_, rfl⟩
  rw [← hBe] at hO hol ⊢
  clear hBe
  go_loopw [5] (fun i wr => ∃ k : Nat, k ≤ acc.length ∧ i = .int .i64 k ∧ Hid (Below w1.heap.size w1 wr) ∧ Hid (AnyE (fun x => sameB x d) acc k)) (fun i _ => acc.length - (intOf i).toNat)
  case atStart => exact ⟨0, Nat.zero_le _, rfl, Lib.hid (Below.refl _ _), Lib.hid rfl⟩
  case round =>
    obtain ⟨k, hk, rfl, hb, hT⟩ := hrel
    have hBw := Lib.hid (hB.out.trans (hb.out.mono hB.out.size))
    by_cases hlt : k < acc.length
    case neg =>
      have hE := Lib.hid (anyE_end hlt hT.out)
      go_wp2
      go_ret
      exact ⟨⟨-1, rfl, by rw [hE.out]; rfl, by omega⟩, hBw.out⟩
    obtain ⟨bx, ox, xop, xkind, xname, xva, xvn, xvc, xka, xkn, xkc, rfl, x0, x1, x2, x3, x4, hrx⟩ := kid_at (hX1.out.mono (sub_of_below hb.out)) hlx.out (fun j r k h1 h2 => hLx.out j r k h1 h2) hlt
    have hOb := hO.out.below hb.out hol
    obtain ⟨y0, y1, y2, y3, y4⟩ := own5z hOb
    have n0 : (0 : Int) ≤ (k : Int) := by omega
    have n1 : (k : Int) < (acc.length : Int) := by omega
    have hHit := Lib.hid (fun h1 => anyE_hit hlt h1 hT.out)
    have hMiss := Lib.hid (fun h1 => anyE_miss hlt h1 hT.out)
    have cK := Lib.hid (fun (dq : Nat) (os : Array Obj) => Calls.regrown_of (rsame_any m acc[k] _ (hLx.out k _ acc[k] hrx (List.getElem?_eq_getElem hlt)) m' d _ hd.out (Sort.grow (redrawn wr dq) os) ((hm1.out.trans (sub_of_below hb.out)).trans (sub_of_below (below_regrown wr dq os))) ((hm1'.out.trans (sub_of_below hb.out)).trans (sub_of_below (below_regrown wr dq os)))))
    have k0 := cell_regrown x0
    have k1 := cell_regrown x1
    have k2 := cell_regrown x2
    have k3 := cell_regrown x3
    have k4 := cell_regrown x4
    have m0 := cell_regrown y0
    have m1 := cell_regrown y1
    have m2 := cell_regrown y2
    have m3 := cell_regrown y3
    have m4 := cell_regrown y4
    clear hrx x0 x1 x2 x3 x4 y0 y1 y2 y3 y4 hOb
    generalize acc[k] = u at cK hHit hMiss
    go_wp2_with fail
    refine wp_region_quiet_below (by kernel_rfl) (by kernel_rfl) ?_
    repeat (go_big_quiet_step (exact cK.out _ _))
    refine wpQuiet_nil ?_
    intro _ hw'
    obtain ⟨⟨dq, osq⟩, hw''⟩ := hw'
    subst hw''
    have hbr := Lib.hid (hb.out.trans ((below_regrown wr dq osq).mono hb.out.size))
    have hBr := Lib.hid (hBw.out.trans ((below_regrown wr dq osq).mono hBw.out.size))
    clear cK k0 k1 k2 k3 k4 m0 m1 m2 m3 m4
    generalize Sort.grow (redrawn wr dq) osq = w5 at hbr hBr ⊢
    cases h1 : sameB u d with
    | true =>
      have hq := Lib.hid (hHit.out (by simpa using h1))
      clear hHit hMiss
      go_wp2
      go_ret
      exact ⟨⟨_, rfl, by rw [hq.out]; simp, by omega⟩, hBr.out⟩
    | false =>
      have hq := Lib.hid (hMiss.out (by simpa using h1))
      clear hHit hMiss
      go_wp2
      go_roundw
      case rel => exact ⟨k + 1, by omega, by go_num, hbr, hq⟩
      case measure => simp [intOf]; omega

end Go.Proofs.YtlohdmghaeabjaaGreatDoor.clause

