/- Whether two conditions are of one content: the reference's SameExpr; the place of a condition in a list: Index. SourceNests: the walk of the law. What the row sourceNestsRow gives the walks. SourceNests: the walk, with what the row gives it. -/
import Derived.Test.YtfffpflflggonaaGreatDoorKS47
import Derived.Test.YtfffpflflggonaaGreatDoorKS35
import Derived.Test.YtfffpflflggonaaGreatDoorKS34
import Derived.Test.YtfffpflflggonaaGreatDoorKRfK
import Derived.Test.YtfffpflflggonaaGreatDoorKS17
import Derived.Test.YtfffpflflggonaaGreatDoorKS8
import Derived.Test.YtfffpflflggonaaGreatDoorKTextB
import Derived.Test.YtfffpflflggonaaGreatDoorRows
import Derived.MakeChecks
import Derived.Stop.LaidErr
namespace Go.Proofs.YtfffpflflggonaaGreatDoor.clause
open Go.RowKit Go.Sort Go.Proofs.YtfffpflflggonaaGreatDoor Go.Proofs.YtfffpflflggonaaGreatDoor.schema Go.Proofs.YtfffpflflggonaaGreatDoor.value Go.Proofs.YtfffpflflggonaaGreatDoor.text Go.Proofs.YtfffpflflggonaaGreatDoor.draw

set_option maxRecDepth 100000 in
set_option maxHeartbeats 4000000 in
theorem reqV (xs ys : List VD) (a b : Option Addr) (n m c d : Nat) (w : World) (hX : RowsAt w.cell? 4 (.slice a n c) (xs.map VD.row)) (hY : RowsAt w.cell? 4 (.slice b m d) (ys.map VD.row)) (hLx : ∀ v ∈ xs, LAt w.cell? v) (hLy : ∀ v ∈ ys, LAt w.cell? v) :
    Calls Tryz.prog 27 #[.slice a n c, .slice b m d] w fun e w' => e = .returned (.bool (sameVL xs ys)) ∧ Below w.heap.size w w' := by
  have hn := (len_of hX).1
  have hm := (len_of hY).1
  have hn2 := (len_of hX).2
  have hm2 := (len_of hY).2
  simp only [List.length_map] at hn hm
  subst hn; subst hm
  replace hX := Lib.hid hX
  replace hY := Lib.hid hY
  replace hLx := Lib.hid hLx
  replace hLy := Lib.hid hLy
  go_enter Tryz.func27, Tryz.ntmps27
  by_cases hl : xs.length = ys.length
  case neg =>
    have hQ := Lib.hid (sameVL_len hl)
    have hne : ((xs.length : Int) != (ys.length : Int)) = true := by simp; omega
    go_wp2
    go_ret
    exact ⟨ret_to hQ.out, Below.refl _ _⟩
  rw [← hl]
  replace hl := Lib.hid hl
  go_wp2
  go_loopw [5] (fun i wr => ∃ k : Nat, k ≤ xs.length ∧ i = .int .i64 k ∧ Hid (Below w.heap.size w wr) ∧ Hid (RV xs ys k)) (fun i _ => xs.length - (intOf i).toNat)
  case atStart => exact ⟨0, Nat.zero_le _, rfl, Lib.hid (Below.refl _ _), Lib.hid rfl⟩
  case round =>
    obtain ⟨k, hk, rfl, hb, hT⟩ := hrel
    by_cases hlt : k < xs.length
    case neg =>
      have hE := Lib.hid (rv_end hlt hl.out hT.out)
      go_wp2
      go_ret
      exact ⟨ret_to hE.out, hb.out⟩
    have hly : k < ys.length := by have := hl.out; omega
    obtain ⟨bx, ox, rfl, x0, x1, x2, x3⟩ := vd_at (hX.out.mono (sub_of_below hb.out)) hlt
    obtain ⟨bY, oy, rfl, y0, y1, y2, y3⟩ := vd_at (hY.out.mono (sub_of_below hb.out)) hly
    have hlx := (hLx.out _ (List.getElem_mem hlt)).mono (sub_of_below hb.out)
    have hlyy := (hLy.out _ (List.getElem_mem hly)).mono (sub_of_below hb.out)
    have n0 : (0 : Int) ≤ (k : Int) := by omega
    have n1 : (k : Int) < (xs.length : Int) := by omega
    have hHit := Lib.hid (fun h1 => rv_hit hlt hly h1 hT.out)
    have hMiss := Lib.hid (fun h1 => rv_miss hlt hly h1 hT.out)
    generalize xs[k] = u at x0 x1 x2 x3 hlx hHit hMiss
    generalize ys[k] = v at y0 y1 y2 y3 hlyy hHit hMiss
    have cK := Lib.hid (fun (dq : Nat) (os : Array Obj) => Calls.regrown_of (eqr_any u v (Sort.grow (redrawn wr dq) os) (hlx.mono (sub_of_below (below_regrown wr dq os))) (hlyy.mono (sub_of_below (below_regrown wr dq os)))))
    have k0 := cell_regrown x0
    have k1 := cell_regrown x1
    have k2 := cell_regrown x2
    have k3 := cell_regrown x3
    have m0 := cell_regrown y0
    have m1 := cell_regrown y1
    have m2 := cell_regrown y2
    have m3 := cell_regrown y3
    clear hlx hlyy x0 x1 x2 x3 y0 y1 y2 y3
    go_wp2_with fail
    refine wp_region_quiet_below (by kernel_rfl) (by kernel_rfl) ?_
    repeat (go_big_quiet_step (exact cK.out _ _))
    refine wpQuiet_nil ?_
    intro _ hw'
    obtain ⟨⟨dq, osq⟩, hw''⟩ := hw'
    subst hw''
    have hbr := Lib.hid (hb.out.trans ((below_regrown wr dq osq).mono hb.out.size))
    clear cK k0 k1 k2 k3 m0 m1 m2 m3
    generalize Sort.grow (redrawn wr dq) osq = w5 at hbr ⊢
    cases h1 : eqV u v with
    | false =>
      have hq := Lib.hid (hHit.out h1)
      clear hHit hMiss
      go_wp2
      go_ret
      exact ⟨ret_to hq.out, hbr.out⟩
    | true =>
      have hq := Lib.hid (hMiss.out h1)
      clear hHit hMiss
      go_wp2
      go_roundw
      case rel => exact ⟨k + 1, by omega, by go_num, hbr, hq⟩
      case measure => simp [intOf]; omega

set_option maxRecDepth 100000 in
set_option maxHeartbeats 4000000 in
theorem reqE (xs ys : List ED) (rx ry : List (List Value)) (a b : Option Addr) (n m c d : Nat) (w : World) (hX : RowsAt w.cell? 5 (.slice a n c) rx) (hY : RowsAt w.cell? 5 (.slice b m d) ry) (hlx : rx.length = xs.length) (hly : ry.length = ys.length)
    (hLx : ∀ (i : Nat) (r : List Value) (k : ED), rx[i]? = some r → xs[i]? = some k → EAt w.cell? k r) (hLy : ∀ (i : Nat) (r : List Value) (k : ED), ry[i]? = some r → ys[i]? = some k → EAt w.cell? k r)
    (hcl : ∀ (i : Nat) (r r' : List Value) (k k' : ED) (w' : World), rx[i]? = some r → xs[i]? = some k → ry[i]? = some r' → ys[i]? = some k' → Below w.heap.size w w' → Calls Tryz.prog 11 #[.agg r.toArray, .agg r'.toArray] w' fun e w'' => e = .returned (.bool (sameB k k')) ∧ Below w'.heap.size w' w'') :
    Calls Tryz.prog 28 #[.slice a n c, .slice b m d] w fun e w' => e = .returned (.bool (sameKL xs ys)) ∧ Below w.heap.size w w' := by
  have hn := (len_of hX).1
  have hm := (len_of hY).1
  have hn2 := (len_of hX).2
  have hm2 := (len_of hY).2
  rw [hlx] at hn
  rw [hly] at hm
  subst hn; subst hm
  replace hX := Lib.hid hX
  replace hY := Lib.hid hY
  replace hLx := Lib.hid hLx
  replace hcl := Lib.hid hcl
  replace hlx := Lib.hid hlx
  replace hly := Lib.hid hly
  replace hLy := Lib.hid hLy
  go_enter Tryz.func28, Tryz.ntmps28
  by_cases hl : xs.length = ys.length
  case neg =>
    have hQ := Lib.hid (sameKL_len hl)
    have hne : ((xs.length : Int) != (ys.length : Int)) = true := by simp; omega
    go_wp2
    go_ret
    exact ⟨ret_to hQ.out, Below.refl _ _⟩
  rw [← hl]
  replace hl := Lib.hid hl
  go_wp2
  go_loopw [5] (fun i wr => ∃ k : Nat, k ≤ xs.length ∧ i = .int .i64 k ∧ Hid (Below w.heap.size w wr) ∧ Hid (RK xs ys k)) (fun i _ => xs.length - (intOf i).toNat)
  case atStart => exact ⟨0, Nat.zero_le _, rfl, Lib.hid (Below.refl _ _), Lib.hid rfl⟩
  case round =>
    obtain ⟨k, hk, rfl, hb, hT⟩ := hrel
    by_cases hlt : k < xs.length
    case neg =>
      have hE := Lib.hid (rk_end hlt hl.out hT.out)
      go_wp2
      go_ret
      exact ⟨ret_to hE.out, hb.out⟩
    have hky : k < ys.length := by have := hl.out; omega
    obtain ⟨bx, ox, xop, xkind, xname, xva, xvn, xvc, xka, xkn, xkc, rfl, x0, x1, x2, x3, x4, hrx⟩ := kid_at (hX.out.mono (sub_of_below hb.out)) hlx.out (fun j r k h1 h2 => hLx.out j r k h1 h2) hlt
    obtain ⟨bY, oy, yop, ykind, yname, yva, yvn, yvc, yka, ykn, ykc, rfl, y0, y1, y2, y3, y4, hry⟩ := kid_at (hY.out.mono (sub_of_below hb.out)) hly.out (fun j r k h1 h2 => hLy.out j r k h1 h2) hky
    have n0 : (0 : Int) ≤ (k : Int) := by omega
    have n1 : (k : Int) < (xs.length : Int) := by omega
    have hHit := Lib.hid (fun h1 => rk_hit hlt hky h1 hT.out)
    have hMiss := Lib.hid (fun h1 => rk_miss hlt hky h1 hT.out)
    have cK := Lib.hid (fun (dq : Nat) (os : Array Obj) => Calls.regrown_of (hcl.out k _ _ xs[k] ys[k] (Sort.grow (redrawn wr dq) os) hrx (List.getElem?_eq_getElem hlt) hry (List.getElem?_eq_getElem hky) (hb.out.trans ((below_regrown wr dq os).mono hb.out.size))))
    have k0 := cell_regrown x0
    have k1 := cell_regrown x1
    have k2 := cell_regrown x2
    have k3 := cell_regrown x3
    have k4 := cell_regrown x4
    have m0 := cell_regrown y0
    have m1 := cell_regrown y1
    have m2 := cell_regrown y2
    have m3 := cell_regrown y3
    have m4 := cell_regrown y4
    clear hrx hry x0 x1 x2 x3 x4 y0 y1 y2 y3 y4
    generalize xs[k] = u at cK hHit hMiss
    generalize ys[k] = v at cK hHit hMiss
    go_wp2_with fail
    refine wp_region_quiet_below (by kernel_rfl) (by kernel_rfl) ?_
    repeat (go_big_quiet_step (exact cK.out _ _))
    refine wpQuiet_nil ?_
    intro _ hw'
    obtain ⟨⟨dq, osq⟩, hw''⟩ := hw'
    subst hw''
    have hbr := Lib.hid (hb.out.trans ((below_regrown wr dq osq).mono hb.out.size))
    clear cK k0 k1 k2 k3 k4 m0 m1 m2 m3 m4
    generalize Sort.grow (redrawn wr dq) osq = w5 at hbr ⊢
    cases h1 : sameB u v with
    | false =>
      have hq := Lib.hid (hHit.out h1)
      clear hHit hMiss
      go_wp2
      go_ret
      exact ⟨ret_to hq.out, hbr.out⟩
    | true =>
      have hq := Lib.hid (hMiss.out h1)
      clear hHit hMiss
      go_wp2
      go_roundw
      case rel => exact ⟨k + 1, by omega, by go_num, hbr, hq⟩
      case measure => simp [intOf]; omega

set_option maxRecDepth 100000 in
set_option maxHeartbeats 4000000 in
theorem rsame_step (m : Mem) (op : Int) (kind name : ByteArray) (vals : List VD) (kids : List ED) (vs ks : Value) (rows : List (List Value)) (hv : RowsAt m 4 vs (vals.map VD.row)) (hk : RowsAt m 5 ks rows) (hl : rows.length = kids.length) (hL : ∀ v ∈ vals, LAt m v)
    (hE : ∀ (i : Nat) (r : List Value) (k : ED), rows[i]? = some r → kids[i]? = some k → EAt m k r)
    (ih : ∀ (j : Nat) (r : List Value) (k : ED), rows[j]? = some r → kids[j]? = some k → SameOk 11 m k r) :
    SameOk 11 m (.mk op kind name vals kids) [.int .i64 op, .string kind, .string name, vs, ks] := by
  intro m' d' r' h' w hs hs'
  obtain ⟨op', kind', name', va', vn', vc', ka', kn', kc', rfl⟩ := eat_five h'
  obtain ⟨vals', kids', rows', rfl, hv', hk', hl', hL', hE'⟩ := eat_parts h'
  obtain ⟨va, vn, vc, rfl⟩ : ∃ a n c, vs = .slice a n c := by obtain ⟨a, c, h, -⟩ := hv; exact ⟨_, _, _, h⟩
  obtain ⟨ka, kn, kc, rfl⟩ : ∃ a n c, ks = .slice a n c := by obtain ⟨a, c, h, -⟩ := hk; exact ⟨_, _, _, h⟩
  have hB : Below w.heap.size w ((w.alloc (.cells #[.int .i64 op, .string kind, .string name, .slice va vn vc, .slice ka kn kc] 31)).alloc (.cells #[.int .i64 op', .string kind', .string name', .slice va' vn' vc', .slice ka' kn' kc'] 31)) := ((Below.refl _ _).alloc (Nat.le_refl _) _).alloc (by simp) _
  have hX := (Own.new w #[.int .i64 op, .string kind, .string name, .slice va vn vc, .slice ka kn kc] 31).alloc (.cells #[.int .i64 op', .string kind', .string name', .slice va' vn' vc', .slice ka' kn' kc'] 31)
  have hY := Own.new (w.alloc (.cells #[.int .i64 op, .string kind, .string name, .slice va vn vc, .slice ka kn kc] 31)) #[.int .i64 op', .string kind', .string name', .slice va' vn' vc', .slice ka' kn' kc'] 31
  rw [World.size_alloc] at hY
  have hs1 := hs.trans (sub_of_below hB)
  have hs1' := hs'.trans (sub_of_below hB)
  have hgoV := Lib.hid (reqV vals vals' va va' vn vn' vc vc' _ (hv.mono hs1) (hv'.mono hs1') (fun v hm => (hL v hm).mono hs1) (fun v hm => (hL' v hm).mono hs1'))
  have hgoE := Lib.hid (fun (w1 : World) (hb : Below ((w.alloc (.cells #[.int .i64 op, .string kind, .string name, .slice va vn vc, .slice ka kn kc] 31)).alloc (.cells #[.int .i64 op', .string kind', .string name', .slice va' vn' vc', .slice ka' kn' kc'] 31)).heap.size ((w.alloc (.cells #[.int .i64 op, .string kind, .string name, .slice va vn vc, .slice ka kn kc] 31)).alloc (.cells #[.int .i64 op', .string kind', .string name', .slice va' vn' vc', .slice ka' kn' kc'] 31)) w1) => reqE kids kids' rows rows' ka ka' kn kn' kc kc' w1 (hk.mono (hs1.trans (sub_of_below hb))) (hk'.mono (hs1'.trans (sub_of_below hb))) hl hl' (fun i r k h1 h2 => (hE i r k h1 h2).mono (hs1.trans (sub_of_below hb))) (fun i r k h1 h2 => (hE' i r k h1 h2).mono (hs1'.trans (sub_of_below hb)))
    (fun i r r' k k' w' h1 h2 h3 h4 hb' => ih i r k h1 h2 m' k' r' (hE' i r' k' h3 h4) w' ((hs1.trans (sub_of_below hb)).trans (sub_of_below hb')) ((hs1'.trans (sub_of_below hb)).trans (sub_of_below hb'))))
  have hQ := Lib.hid (show sameB (.mk op kind name vals kids) (.mk op' kind' name' vals' kids') = (op == op' && (kind.toList == kind'.toList && (name.toList == name'.toList && (sameVL vals vals' && sameKL kids kids')))) from rfl)
  clear hv hk hl hL hE ih hv' hk' hl' hL' hE' h' hs hs' hs1 hs1'
  have hxl := hX.lt
  have hyl := hY.lt
  go_enter Tryz.func11, Tryz.ntmps11
  cases e1 : (op == op') with
  | false =>
    rw [e1] at hQ
    replace hB := Lib.hid hB
    go_wp2
    go_ret
    exact ⟨ret_to (by rw [hQ.out]; rfl), hB.out⟩
  | true =>
  rw [e1] at hQ
  cases e2 : (kind.toList == kind'.toList) with
  | false =>
    rw [e2] at hQ
    replace hB := Lib.hid hB
    go_wp2
    go_ret
    exact ⟨ret_to (by rw [hQ.out]; rfl), hB.out⟩
  | true =>
  rw [e2] at hQ
  cases e3 : (name.toList == name'.toList) with
  | false =>
    rw [e3] at hQ
    replace hB := Lib.hid hB
    go_wp2
    go_ret
    exact ⟨ret_to (by rw [hQ.out]; rfl), hB.out⟩
  | true =>
  rw [e3] at hQ
  replace hB := Lib.hid hB
  go_wp2_with fail
  refine hgoV.out.mono ?_
  rintro e w1 ⟨rfl, hb1⟩
  have hX1 := hX.below hb1 hxl
  have hY1 := hY.below hb1 hyl
  have hB1 := Lib.hid (hB.out.trans (hb1.mono hB.out.size))
  have hgo := Lib.hid (hgoE.out w1 hb1)
  obtain ⟨x0, x1, x2, x3, x4⟩ := own5z hX1
  obtain ⟨y0, y1, y2, y3, y4⟩ := own5z hY1
  have hxl1 := hX1.lt
  have hyl1 := hY1.lt
  clear hb1 hX1 hY1 hgoV hgoE hX hY hxl hyl
  cases e4 : sameVL vals vals' with
  | false =>
    rw [e4] at hQ
    go_wp2
    go_ret
    exact ⟨ret_to (by rw [hQ.out]; rfl), hB1.out⟩
  | true =>
  rw [e4] at hQ
  go_wp2_with fail
  refine hgo.out.mono ?_
  rintro e w2 ⟨rfl, hb2⟩
  have hB2 := Lib.hid (hB1.out.trans (hb2.mono hB1.out.size))
  clear hgo hb2
  generalize sameKL kids kids' = bb at hQ ⊢
  go_wp2
  go_ret
  exact ⟨ret_to (by rw [hQ.out]; rfl), hB2.out⟩

/-- The reference's comparison of conditions. -/
theorem rsame_any (m : Mem) (d : ED) (r : List Value) (h : EAt m d r) : SameOk 11 m d r := by
  induction h with
  | mk rows hv hk hl hL hE ih => exact rsame_step m _ _ _ _ _ _ _ rows hv hk hl hL hE ih

end Go.Proofs.YtfffpflflggonaaGreatDoor.clause

namespace Go.Proofs.YtfffpflflggonaaGreatDoor.src
open Go.RowKit Go.Proofs.YtfffpflflggonaaGreatDoor Go.Proofs.YtfffpflflggonaaGreatDoor.lex Go.Proofs.YtfffpflflggonaaGreatDoor.value Go.Proofs.YtfffpflflggonaaGreatDoor.text Go.Proofs.YtfffpflflggonaaGreatDoor.schema Go.Proofs.YtfffpflflggonaaGreatDoor.draw Go.Proofs.YtfffpflflggonaaGreatDoor.clause

/- Conditions of one content are alike. -/
theorem bytes_eq {a b : ByteArray} (h : a.data.toList = b.data.toList) : a = b := ByteArray.ext (Array.ext' h)
theorem vv_eqV {a b : VD} (h : vv a = vv b) : eqV a b = true := by
  unfold vv at h
  injection h with h1 h2 h3 h4
  unfold eqV eqVV
  rw [h1, h2, bytes_eq h3, h4]
  simp
theorem vv_B : ∀ {a b : List VD}, a.map vv = b.map vv → sameVL a b = true
  | [], [], _ => rfl
  | [], _ :: _, h => by cases h
  | _ :: _, [], h => by cases h
  | x :: r, y :: s, h => by
    rw [List.map_cons, List.map_cons] at h
    injection h with h1 h2
    rw [sameVL, vv_eqV h1, vv_B h2]; rfl
mutual
theorem pe_B : ∀ {a b : ED}, pe a = pe b → sameB a b = true
  | .mk op k n v ks, .mk op' k' n' v' ks', h => by
    rw [pe, pe] at h
    injection h with h1 h2 h3 h4 h5
    rw [sameB, h1, bytes_eq h2, bytes_eq h3, vv_B h4, pe_LB h5]
    simp
theorem pe_LB : ∀ {a b : List ED}, peL a = peL b → sameKL a b = true
  | [], [], _ => rfl
  | [], _ :: _, h => by rw [peL, peL] at h; cases h
  | _ :: _, [], h => by rw [peL, peL] at h; cases h
  | x :: r, y :: s, h => by
    rw [peL, peL] at h
    injection h with h1 h2
    rw [sameKL, pe_B h1, pe_LB h2]; rfl
end

/-- What a reader hands back: the condition, the line and the kind of the fault. -/
def outS : Except (Int × Int) PE → PE × Int × Int
  | .ok x => (x, 0, 0)
  | .error (q, L) => (.mk 0 [] [] [] [], L, q)
theorem zero_at (M : Mem) : ExAt M (.mk 0 [] [] [] []) [.int .i64 0, .string ⟨#[]⟩, .string ⟨#[]⟩, .slice none 0 0, .slice none 0 0] :=
  ⟨.mk 0 ⟨#[]⟩ ⟨#[]⟩ [] [], .mk (vals := []) (kids := []) [] (rows_nil _ _) (rows_nil _ _) rfl (fun v h => by cases h) (fun i r k h => by simp at h), rfl⟩
theorem parse_out {l : List UInt8} {w : World} {e : Ending} {w' : World} {x : PE} {L q : Int} (h : ParseIs l w e w') (ho : outS (readS l) = (x, L, q)) : Below w.heap.size w w' ∧ ∃ r, e = .returned (.tuple #[.agg r.toArray, .int .i64 L, .int .i64 q]) ∧ ExAt w'.cell? x r := by
  obtain ⟨hb, hm⟩ := h
  refine ⟨hb, ?_⟩
  cases hr : readS l with
  | ok y =>
    rw [hr] at hm ho
    injection ho with h1 h2
    injection h2 with h2 h3
    subst h1; subst h2; subst h3
    exact hm
  | error z =>
    obtain ⟨z, Z⟩ := z
    rw [hr] at hm ho
    injection ho with h1 h2
    injection h2 with h2 h3
    subst h1; subst h2; subst h3
    exact ⟨_, hm, zero_at _⟩
theorem ex_row {M : Mem} {x : PE} {r : List Value} (h : ExAt M x r) : ∃ (op : Int) (kd nm : ByteArray) (va ka : Option Addr) (vn vc kn kc : Nat), r = [.int .i64 op, .string kd, .string nm, .slice va vn vc, .slice ka kn kc] := by
  obtain ⟨op, kd, nm, vals, va, vn, vc, ka, kn, kc, rows, e, -⟩ := h.parts
  exact ⟨op, kd, nm, va, ka, vn, vc, kn, kc, e⟩
/-- How the reading of a nested condition turns out. -/
theorem nest_out (l : List Bool) (hl : l.length ≤ 1000) (s : List UInt8) (h : s = nestS l) : ∃ (x : PE) (L q : Int), outS (readS s) = (x, L, q) ∧ ((l.length ≤ 101 ∧ L = 0) ∨ (101 < l.length ∧ L = 1 ∧ q = 18)) := by
  subst h
  obtain ⟨h1, h2⟩ := nest_read l hl
  by_cases hn : l.length ≤ 101
  · rw [h1 hn]
    by_cases hf : formS (nestE l) = 0
    · rw [if_pos hf]; exact ⟨_, 0, 0, rfl, Or.inl ⟨hn, rfl⟩⟩
    · rw [if_neg hf]; exact ⟨_, 0, _, rfl, Or.inl ⟨hn, rfl⟩⟩
  · rw [h2 (by omega)]
    exact ⟨_, 1, 18, rfl, Or.inr ⟨by omega, rfl, rfl⟩⟩

theorem size_list (s : ByteArray) : s.size = s.data.toList.length := Array.length_toList.symm
theorem cat_list (s t : ByteArray) : (s ++ t).data.toList = s.data.toList ++ t.data.toList := by rw [ByteArray.data_append, Array.toList_append]

set_option maxRecDepth 100000 in
set_option maxHeartbeats 8000000 in
theorem nests_walk (a0 : Int) (a : Option Addr) (n c : Nat) (w : World) (h0 : -9223372036854775808 ≤ a0) (h1 : a0 ≤ 9223372036854775807) (hby : BytesAt w.cell? a n c) (hT : Tabs w) (hsp : SpaceTab w) :
    Calls Tryz.prog 3 #[.int .i64 a0, .slice a n c] w fun e w' => e = .returned (.bool true) ∧ Below w.heap.size w w' := by
  replace hT := Lib.hid hT
  replace hsp := Lib.hid hsp
  replace hby := Lib.hid hby
  go_enter Tryz.func3, Tryz.ntmps3
  go_wp2_with fail
  refine (src.awake_any w hT.out hsp.out).mono ?_
  rintro e w1 ⟨rfl, hb1⟩
  have hby1 := Lib.hid (hby.out.mono (sub_of_below hb1))
  replace hb1 := Lib.hid hb1
  go_wp2_with fail
  refine (mod_any a0 106 _ (by omega) (by omega) h0 h1).mono ?_
  rintro e w2 ⟨⟨m, rfl, hm0, hm1⟩, rfl⟩
  obtain ⟨N, rfl⟩ := Int.eq_ofNat_of_zero_le hm0
  have hN : N < 106 := by omega
  clear hm0 hm1
  go_wp2_with fail
  refine (new_any a n c 120 _ (by omega) (by omega) hby1.out).mono ?_
  rintro e w3 ⟨rfl, ⟨a', n', c', hC⟩, hb3⟩
  have hB3 := Lib.hid (hb1.out.trans (hb3.mono hb1.out.size))
  have hC3 := Lib.hid hC
  have hbl := hb1.out.size
  clear hC hb3
  obtain ⟨b, hb⟩ : ∃ z : Nat, Hid (z = w1.heap.size) := ⟨_, Lib.hid rfl⟩
  rw [← hb.out] at hC3 ⊢
  have hbw : w.heap.size ≤ b := by have := hb.out; omega
  replace hbw := Lib.hid hbw
  clear hbl
  go_wp2
  go_loopw [6, 7, 8] (fun v6 v7 v8 wr => ∃ (k : Nat) (l : List Bool) (s t : ByteArray), l.length = k ∧ k ≤ N ∧ v6 = .string s ∧ v7 = .string t ∧ v8 = .int .i64 k ∧ Hid (s.data.toList = preN l) ∧ Hid (t.data.toList = List.replicate (closeN l) 41) ∧ Hid (Head b a' n' c' wr) ∧ Hid (w3.grownBy wr (some b))) (fun _ _ i _ => N - (intOf i).toNat)
  case atStart => exact ⟨0, [], _, _, rfl, Nat.zero_le _, rfl, rfl, rfl, rfl, rfl, hC3.out.1, grown_refl _ _⟩
  case round =>
    obtain ⟨k, l, s, t, hlk, hk, rfl, rfl, rfl, hs, ht, hH, hG⟩ := hrel
    have hs1 : s.size ≤ 4 * k := by rw [size_list, hs.out, ← hlk]; exact preN_len l
    have ht1 : t.size ≤ k := by rw [size_list, ht.out, List.length_replicate, ← hlk]; exact closeN_le l
    by_cases hlt : k < N
    · go_wp2_with fail
      refine (next_any b a' n' c' _ 12 (by omega) (by omega) (hC3.out.still hG.out hH.out)).mono ?_
      rintro e w4 ⟨⟨m, rfl, hm0, hm1⟩, hH4, hG4⟩
      have hH5 := Lib.hid hH4
      have hG5 := Lib.hid (grown_trans hG.out hG4)
      clear hH4 hG4 hH hG
      have g1 : ¬ 9223372036854775807 < s.size + 4 := by omega
      have g2 : ¬ 9223372036854775807 < s.size + 1 := by omega
      have g3 : ¬ 9223372036854775807 < t.size + 1 := by omega
      by_cases hm : m = 1
      · subst hm
        go_wp2
        go_roundw
        case rel => exact ⟨k + 1, l ++ [true], _, _, by simp [hlk], by omega, rfl, rfl, by go_num, by rw [preN_add, cat_list, hs.out]; rfl, by rw [closeN_add, ht.out]; rfl, hH5.out, hG5.out⟩
        case measure => simp [intOf]; omega
      · have hm' : (m == 1) = false := by simpa using hm
        go_wp2
        go_roundw
        case rel => exact ⟨k + 1, l ++ [false], _, _, by simp [hlk], by omega, rfl, rfl, by go_num, by rw [preN_add, cat_list, hs.out]; rfl, by show _ = _; rw [closeN_add, cat_list, ht.out]; simp [List.replicate_succ'], hH5.out, hG5.out⟩
        case measure => simp [intOf]; omega
    · have hkN : k = N := by omega
      subst hkN
      have hBr := Lib.hid (hB3.out.grown hG.out hB3.out.size (fun k e => by cases e; exact hbw.out))
      have hTr := Lib.hid (hT.out.below hBr.out)
      have hspr := Lib.hid (show SpaceTab wr from var_below hBr.out hsp.out)
      have g1 : ¬ 9223372036854775807 < 15 + t.size := by omega
      have g2 : ¬ 9223372036854775807 < s.size + (15 + t.size) := by omega
      obtain ⟨str, hstr⟩ : ∃ z : ByteArray, Hid (z = s ++ (⟨#[117, 115, 101, 114, 46, 97, 103, 101, 32, 101, 120, 105, 115, 116, 115]⟩ ++ t)) := ⟨_, Lib.hid rfl⟩
      have hsd := Lib.hid (show str.data.toList = nestS l by rw [hstr.out, cat_list, cat_list, hs.out, ht.out]; rfl)
      have hsz : str.size ≤ 140737488355328 := by rw [hstr.out, ByteArray.size_append, ByteArray.size_append]; have : (⟨#[117, 115, 101, 114, 46, 97, 103, 101, 32, 101, 120, 105, 115, 116, 115]⟩ : ByteArray).size = 15 := rfl; omega
      obtain ⟨x, L, q, hout, hway⟩ := nest_out l (by omega) str.data.toList hsd.out
      replace hout := Lib.hid hout
      replace hway := Lib.hid hway
      clear hs ht hH hG
      go_wp2_with fail
      rw [← hstr.out]
      refine (parse_any str wr hsz hTr.out hspr.out).mono ?_
      rintro e w5 h5
      obtain ⟨hb5, r, rfl, hX⟩ := parse_out h5 hout.out
      obtain ⟨op, kd, nm, va, ka, vn, vc, kn, kc, rfl⟩ := ex_row hX
      have hx := Lib.hid (Own.new w5 #[.int .i64 op, .string kd, .string nm, .slice va vn vc, .slice ka kn kc] 31)
      have hb6 := (Below.refl w5.heap.size w5).alloc (Nat.le_refl _) (.cells #[.int .i64 op, .string kd, .string nm, .slice va vn vc, .slice ka kn kc] 31)
      have hB5 := hBr.out.trans (hb5.mono hBr.out.size)
      have hB6 := Lib.hid (hB5.trans (hb6.mono hB5.size))
      have hX6 := Lib.hid (hX.mono (sub_of_below hb6))
      have hT6 := Lib.hid (hT.out.below hB6.out)
      have hsp6 := Lib.hid (show SpaceTab _ from var_below hB6.out hsp.out)
      clear h5 hb5 hX hb6 hB5
      go_upto_region 15 with fail
      generalize w5.alloc (.cells #[.int .i64 op, .string kd, .string nm, .slice va vn vc, .slice ka kn kc] 31) = w6 at hx hB6 hX6 hT6 hsp6 ⊢
      obtain ⟨gx, hgx⟩ : ∃ z : Nat, Hid (z = w5.heap.size) := ⟨_, Lib.hid rfl⟩
      rw [← hgx.out] at hx ⊢
      go_wp2_with fail
      refine (parse_ref str w6 hsz hT6.out hsp6.out).mono ?_
      rintro e w7 h7
      obtain ⟨hb7, r, rfl, hY⟩ := parse_out h7 hout.out
      obtain ⟨op', kd', nm', va', ka', vn', vc', kn', kc', rfl⟩ := ex_row hY
      have hx7 := hx.out.below hb7 hx.out.lt
      have hb8 := (Below.refl w7.heap.size w7).alloc (Nat.le_refl _) (.cells #[.int .i64 op', .string kd', .string nm', .slice va' vn' vc', .slice ka' kn' kc'] 31)
      have hB7 := hB6.out.trans (hb7.mono hB6.out.size)
      have hB8 := Lib.hid (hB7.trans (hb8.mono hB7.size))
      have hX8 := Lib.hid ((hX6.out.mono (sub_of_below hb7)).mono (sub_of_below hb8))
      have hY8 := Lib.hid (hY.mono (sub_of_below hb8))
      have hx8 := Lib.hid (hx7.alloc (.cells #[.int .i64 op', .string kd', .string nm', .slice va' vn' vc', .slice ka' kn' kc'] 31))
      have hy8 := Lib.hid (Own.new w7 #[.int .i64 op', .string kd', .string nm', .slice va' vn' vc', .slice ka' kn' kc'] 31)
      clear h7 hb7 hY hb8 hB7 hx7 hx
      go_upto_region 16 with fail
      generalize w7.alloc (.cells #[.int .i64 op', .string kd', .string nm', .slice va' vn' vc', .slice ka' kn' kc'] 31) = w8 at hx8 hy8 hB8 hX8 hY8 ⊢
      obtain ⟨gy, hgy⟩ : ∃ z : Nat, Hid (z = w7.heap.size) := ⟨_, Lib.hid rfl⟩
      rw [← hgy.out] at hy8 ⊢
      obtain ⟨x0, x1, x2, x3, x4, -⟩ := own5z hx8.out
      obtain ⟨y0, y1, y2, y3, y4, -⟩ := own5z hy8.out
      have hxl := hx8.out.lt
      have hyl := hy8.out.lt
      have hsame := Lib.hid (show Calls Tryz.prog 11 #[.agg #[.int .i64 op, .string kd, .string nm, .slice va vn vc, .slice ka kn kc], .agg #[.int .i64 op', .string kd', .string nm', .slice va' vn' vc', .slice ka' kn' kc']] w8 fun e w' => e = .returned (.bool true) ∧ Below w8.heap.size w8 w' from by
        obtain ⟨d, hd, e1⟩ := hX8.out
        obtain ⟨d', hd', e2⟩ := hY8.out
        have := rsame_any _ d _ hd _ d' _ hd' w8 (fun _ _ h => h) (fun _ _ h => h)
        rw [pe_B (e1.trans e2.symm)] at this
        exact this)
      rcases hway.out with ⟨hN1, rfl⟩ | ⟨hN1, rfl, rfl⟩
      · have qm : decide ((101 : Int) < (k : Int)) = false := decide_eq_false (by omega)
        by_cases hq : q = 18
        · subst hq
          go_wp2_with fail
          refine hsame.out.mono ?_
          rintro e w9 ⟨rfl, hb9⟩
          have hF := Lib.hid (hB8.out.trans (hb9.mono hB8.out.size))
          clear hb9
          go_wp2
          go_ret
          exact ⟨rfl, hF.out⟩
        · have hq' : (q == 18) = false := by simpa using hq
          go_wp2_with fail
          refine hsame.out.mono ?_
          rintro e w9 ⟨rfl, hb9⟩
          have hF := Lib.hid (hB8.out.trans (hb9.mono hB8.out.size))
          clear hb9
          go_wp2
          go_ret
          exact ⟨rfl, hF.out⟩
      · have qm : decide ((101 : Int) < (k : Int)) = true := decide_eq_true (by omega)
        go_wp2_with fail
        refine hsame.out.mono ?_
        rintro e w9 ⟨rfl, hb9⟩
        have hF := Lib.hid (hB8.out.trans (hb9.mono hB8.out.size))
        clear hb9
        go_wp2
        go_ret
        exact ⟨rfl, hF.out⟩

end Go.Proofs.YtfffpflflggonaaGreatDoor.src

namespace Go.Proofs.YtfffpflflggonaaGreatDoor.sourceNestsRow
open Go.RowKit Go.Lib Go.Proofs.YtfffpflflggonaaGreatDoor.text

theorem pow_data : (Rows.laid_internal_strconv_uint64pow10 : DataW Unit) = tabData .u64 pow10Tab := by kernel_rfl
theorem sp_data : (Rows.laid_strings_asciiSpace : DataW Unit) = tabData .u8 asciiSpaceTab := by kernel_rfl
theorem first_data : (Rows.laid_unicode_utf8_first : DataW Unit) = firstData := by kernel_rfl
theorem accept_data : (Rows.laid_unicode_utf8_acceptRanges : DataW Unit) = acceptData := by kernel_rfl
theorem star : "*" ++ "errors.errorString" = "*errors.errorString" := by decide
theorem errRow (u : TypeId) (h : Tryz.prog.typeName? 3 u = some "*errors.errorString") : u = 368 :=
  typeName_ptr_named (nm := "errors.errorString") (by rw [star]; kernel_rfl) (by kernel_rfl) (by decide) u (by rw [star]; exact h)
theorem stabs_of_laid {w : World} (h : laidMetH Tryz.prog Rows.sourceNestsRow.laid w) (hsh : w.ShapedOpen Tryz.prog) : Tabs w ∧ SpaceTab w := by
  rw [MakeChecks.laidMetH_plain _ _ _ (by kernel_rfl)] at h
  have hp := Lib.laidMet.reads h (n := "internal/strconv.uint64pow10") (d := Rows.laid_internal_strconv_uint64pow10) (by simp [Rows.sourceNestsRow])
  have hs := Lib.laidMet.reads h (n := "strings.asciiSpace") (d := Rows.laid_strings_asciiSpace) (by simp [Rows.sourceNestsRow])
  have h3 := Lib.laidMet.reads h (n := "unicode/utf8.first") (d := Rows.laid_unicode_utf8_first) (by simp [Rows.sourceNestsRow])
  have h4 := Lib.laidMet.reads h (n := "unicode/utf8.acceptRanges") (d := Rows.laid_unicode_utf8_acceptRanges) (by simp [Rows.sourceNestsRow])
  rw [pow_data] at hp
  rw [sp_data] at hs
  rw [first_data] at h3
  rw [accept_data] at h4
  refine ⟨⟨utf8Tabs_of_readsT (U8Types.of196 Tryz.laysValid) ⟨by kernel_rfl, by kernel_rfl, by kernel_rfl, by kernel_rfl, by kernel_rfl, by kernel_rfl, by kernel_rfl⟩ h3 h4,
    tab_of_reads (g := 11) (by kernel_rfl) (by kernel_rfl) Tryz.underlying372 Tryz.underlying266 (by kernel_rfl) (by kernel_rfl) hp, ?_, ?_⟩,
    tab_of_reads (g := 7) (by kernel_rfl) (by kernel_rfl) Tryz.underlying288 Tryz.underlying5 (by kernel_rfl) (by kernel_rfl) hs⟩
  · obtain ⟨a, s, hv, -, -, -⟩ := laid_sentinel (g := 10) h.tail.tail.tail.tail (by kernel_rfl) (by kernel_rfl) Tryz.underlying244 errRow Tryz.underlying368 Tryz.underlying370 rfl rfl Tryz.underlying9 (by kernel_rfl) (by kernel_rfl)
    exact ⟨_, _, hv⟩
  · exact Tryz.laysM146.s1_3 w hsh

end Go.Proofs.YtfffpflflggonaaGreatDoor.sourceNestsRow

namespace Go.Proofs.YtfffpflflggonaaGreatDoor.law
open Go.RowKit Go.Lib Go.Proofs.YtfffpflflggonaaGreatDoor Go.Proofs.YtfffpflflggonaaGreatDoor.text Go.Proofs.YtfffpflflggonaaGreatDoor.src

theorem i64_bdN {v : Int} (h : (Lit.int .i64 v).wf = true) : -9223372036854775808 ≤ v ∧ v ≤ 9223372036854775807 := by
  simpa [Lit.wf, IntKind.min, IntKind.max, IntKind.signed, IntKind.bits] using h
theorem sourceNests_final (W : World) (hL : laidMetH Tryz.prog Rows.sourceNestsRow.laid W) (hsh : W.ShapedOpen Tryz.prog)
    (a0 : Int) (w0 : (Lit.int .i64 a0).wf = true) (a1 : Option Addr) (len1 cap1 : Nat) (z1 : List Int) (w1 : IsRow .u8 W a1 len1 cap1 z1) :
    Calls Tryz.prog 3 #[.int .i64 a0, .slice a1 len1 cap1] W fun e W' => e = .returned (.bool true) ∧ Below W.heap.size W W' :=
  nests_walk a0 a1 len1 cap1 W (i64_bdN w0).1 (i64_bdN w0).2 (draw.bytes_of_row w1) (sourceNestsRow.stabs_of_laid hL hsh).1 (sourceNestsRow.stabs_of_laid hL hsh).2

end Go.Proofs.YtfffpflflggonaaGreatDoor.law
