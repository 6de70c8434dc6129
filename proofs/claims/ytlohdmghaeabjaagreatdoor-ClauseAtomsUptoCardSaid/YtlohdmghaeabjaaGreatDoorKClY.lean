/- Whether two conditions are of one content: the program's Expr. -/
import Derived.Test.YtlohdmghaeabjaaGreatDoorKClE
import Derived.Test.YtlohdmghaeabjaaGreatDoorKClX
namespace Go.Proofs.YtlohdmghaeabjaaGreatDoor.clause
open Go.RowKit Go.Proofs.YtlohdmghaeabjaaGreatDoor Go.Proofs.YtlohdmghaeabjaaGreatDoor.schema Go.Proofs.YtlohdmghaeabjaaGreatDoor.value Go.Proofs.YtlohdmghaeabjaaGreatDoor.text Go.Proofs.YtlohdmghaeabjaaGreatDoor.draw

set_option maxRecDepth 100000 in
set_option maxHeartbeats 2000000 in
theorem sameV_prog (k l n m : Int) (s t : ByteArray) (la lb : Option Addr) (ca cb : Nat) (xs ys : List ByteArray) (w : World) (hX : LIn w la xs) (hY : LIn w lb ys) (hm : xs.length ≤ 9223372036854775807) :
    Calls Tryz.prog 102 #[.agg #[.int .i64 k, .int .i64 n, .string s, .slice la xs.length ca], .agg #[.int .i64 l, .int .i64 m, .string t, .slice lb ys.length cb]] w fun e w' => e = .returned (.bool (eqVV k l n m s t (lsL xs == lsL ys))) ∧ Below w.heap.size w w' := by
  have hB := Lib.hid (show Below w.heap.size w ((w.alloc (.cells #[.int .i64 k, .int .i64 n, .string s, .slice la xs.length ca] 43)).alloc (.cells #[.int .i64 l, .int .i64 m, .string t, .slice lb ys.length cb] 43)) from ((Below.refl _ _).alloc (Nat.le_refl _) _).alloc (by simp) _)
  have hX1 := Lib.hid (hX.below hB.out)
  have hY1 := Lib.hid (hY.below hB.out)
  go_enter Tryz.func102, Tryz.ntmps102
  cases hk : (k == l) with
  | false =>
    have hQ := Lib.hid (show false = eqVV k l n m s t (lsL xs == lsL ys) by unfold eqVV; rw [hk]; rfl)
    go_wp2
    go_ret
    exact ⟨ret_b hQ.out, hB.out⟩
  | true =>
    cases hn : (n == m) with
    | false =>
      have hQ := Lib.hid (show false = eqVV k l n m s t (lsL xs == lsL ys) by unfold eqVV; rw [hk, hn]; rfl)
      go_wp2
      go_ret
      exact ⟨ret_b hQ.out, hB.out⟩
    | true =>
      cases ht : (s.toList == t.toList) with
      | false =>
        have hQ := Lib.hid (show false = eqVV k l n m s t (lsL xs == lsL ys) by unfold eqVV; rw [hk, hn, ht]; rfl)
        go_wp2
        go_ret
        exact ⟨ret_b hQ.out, hB.out⟩
      | true =>
        have hQ := Lib.hid (show (lsL xs == lsL ys) = eqVV k l n m s t (lsL xs == lsL ys) by unfold eqVV; rw [hk, hn, ht]; rfl)
        go_wp2_with fail
        refine (eqList_any la lb ca cb xs ys _ hX1.out hY1.out hm).mono ?_
        rintro e w1 ⟨rfl, hb1⟩
        have hB2 := Lib.hid (hB.out.trans (hb1.mono hB.out.size))
        go_wp2
        go_ret
        exact ⟨ret_b hQ.out, hB2.out⟩

/-- Two values are held against each other. -/
theorem sv_any (a b : VD) (w : World) (ha : LAt w.cell? a) (hb : LAt w.cell? b) :
    Calls Tryz.prog 102 #[.agg #[.int .i64 a.kind, .int .i64 a.num, .string a.text, .slice a.ptr a.len a.cap], .agg #[.int .i64 b.kind, .int .i64 b.num, .string b.text, .slice b.ptr b.len b.cap]] w fun e w' => e = .returned (.bool (eqV a b)) ∧ Below w.heap.size w w' := by
  rw [vd_len ha, vd_len hb]
  exact sameV_prog a.kind b.kind a.num b.num a.text b.text a.ptr b.ptr a.cap b.cap a.ls b.ls w (lin_of_rows ha.rows) (lin_of_rows hb.rows) (lenI ha)

def sameVL : List VD → List VD → Bool
  | [], [] => true
  | a :: r, b :: s => eqV a b && sameVL r s
  | _, _ => false
mutual
def sameB : ED → ED → Bool
  | .mk op k n v ks, .mk op' k' n' v' ks' => op == op' && (k.toList == k'.toList && (n.toList == n'.toList && (sameVL v v' && sameKL ks ks')))
def sameKL : List ED → List ED → Bool
  | [], [] => true
  | a :: r, b :: s => sameB a b && sameKL r s
  | _, _ => false
end
theorem sameVL_len : ∀ {a b : List VD}, a.length ≠ b.length → sameVL a b = false
  | [], [], h => absurd rfl h
  | [], _ :: _, _ => rfl
  | _ :: _, [], _ => rfl
  | x :: r, y :: s, h => by rw [sameVL, sameVL_len (a := r) (b := s) (by simpa using h), Bool.and_false]
theorem sameKL_len : ∀ {a b : List ED}, a.length ≠ b.length → sameKL a b = false
  | [], [], h => absurd rfl h
  | [], _ :: _, _ => rfl
  | _ :: _, [], _ => rfl
  | x :: r, y :: s, h => by rw [sameKL, sameKL_len (a := r) (b := s) (by simpa using h), Bool.and_false]
def RV (a b : List VD) (k : Nat) : Prop := sameVL (a.drop k) (b.drop k) = sameVL a b
theorem rv_hit {a b : List VD} {k : Nat} (h : k < a.length) (h' : k < b.length) (h1 : eqV a[k] b[k] = false) (T : RV a b k) : sameVL a b = false := by
  unfold RV at T; rw [← T, List.drop_eq_getElem_cons h, List.drop_eq_getElem_cons h', sameVL, h1]; rfl
theorem rv_miss {a b : List VD} {k : Nat} (h : k < a.length) (h' : k < b.length) (h1 : eqV a[k] b[k] = true) (T : RV a b k) : RV a b (k + 1) := by
  unfold RV at *; rw [← T, List.drop_eq_getElem_cons h, List.drop_eq_getElem_cons h', sameVL, h1]; rfl
theorem rv_end {a b : List VD} {k : Nat} (h : ¬ k < a.length) (h' : a.length = b.length) (T : RV a b k) : sameVL a b = true := by
  unfold RV at T; rw [← T, List.drop_eq_nil_of_le (by omega), List.drop_eq_nil_of_le (by omega)]; rfl
def RK (a b : List ED) (k : Nat) : Prop := sameKL (a.drop k) (b.drop k) = sameKL a b
theorem rk_hit {a b : List ED} {k : Nat} (h : k < a.length) (h' : k < b.length) (h1 : sameB a[k] b[k] = false) (T : RK a b k) : sameKL a b = false := by
  unfold RK at T; rw [← T, List.drop_eq_getElem_cons h, List.drop_eq_getElem_cons h', sameKL, h1]; rfl
theorem rk_miss {a b : List ED} {k : Nat} (h : k < a.length) (h' : k < b.length) (h1 : sameB a[k] b[k] = true) (T : RK a b k) : RK a b (k + 1) := by
  unfold RK at *; rw [← T, List.drop_eq_getElem_cons h, List.drop_eq_getElem_cons h', sameKL, h1]; rfl
theorem rk_end {a b : List ED} {k : Nat} (h : ¬ k < a.length) (h' : a.length = b.length) (T : RK a b k) : sameKL a b = true := by
  unfold RK at T; rw [← T, List.drop_eq_nil_of_le (by omega), List.drop_eq_nil_of_le (by omega)]; rfl

set_option maxRecDepth 100000 in
set_option maxHeartbeats 4000000 in
theorem eqfV (xs ys : List VD) (a b : Option Addr) (n m c d : Nat) (w : World) (hX : RowsAt w.cell? 4 (.slice a n c) (xs.map VD.row)) (hY : RowsAt w.cell? 4 (.slice b m d) (ys.map VD.row)) (hLx : ∀ v ∈ xs, LAt w.cell? v) (hLy : ∀ v ∈ ys, LAt w.cell? v) :
    Calls Tryz.prog 101 #[.slice a n c, .slice b m d, .func (.func 102) #[] #[]] w fun e w' => e = .returned (.bool (sameVL xs ys)) ∧ Below w.heap.size w w' := by
  have hn := (len_of hX).1
  have hm := (len_of hY).1
  have hn2 := (len_of hX).2
  simp only [List.length_map] at hn hm
  subst hn; subst hm
  replace hX := Lib.hid hX
  replace hY := Lib.hid hY
  replace hLx := Lib.hid hLx
  replace hLy := Lib.hid hLy
  go_enter Tryz.func101, Tryz.ntmps101
  by_cases hl : xs.length = ys.length
  case neg =>
    have hQ := Lib.hid (sameVL_len hl)
    have hne : ((xs.length : Int) != (ys.length : Int)) = true := by simp; omega
    go_wp2
    go_ret
    exact ⟨ret_to hQ.out, Below.refl _ _⟩
  rw [← hl]
  replace hl := Lib.hid hl
  go_wp2
  go_loopw [17] (fun i wr => ∃ k : Nat, k ≤ xs.length ∧ i = .int .i64 k ∧ Hid (Below w.heap.size w wr) ∧ Hid (RV xs ys k)) (fun i _ => xs.length - (intOf i).toNat)
  case atStart => exact ⟨0, Nat.zero_le _, rfl, Lib.hid (Below.refl _ _), Lib.hid rfl⟩
  case round =>
    obtain ⟨k, hk, rfl, hb, hT⟩ := hrel
    by_cases hlt : k < xs.length
    case neg =>
      have hE := Lib.hid (rv_end hlt hl.out hT.out)
      go_wp2
      go_ret
      exact ⟨ret_to hE.out, hb.out⟩
    have hly : k < ys.length := by have := hl.out; omega
    obtain ⟨bx, ox, rfl, x0, x1, x2, x3⟩ := vd_at (hX.out.mono (sub_of_below hb.out)) hlt
    obtain ⟨bY, oy, rfl, y0, y1, y2, y3⟩ := vd_at (hY.out.mono (sub_of_below hb.out)) hly
    have hlx := (hLx.out _ (List.getElem_mem hlt)).mono (sub_of_below hb.out)
    have hlyy := (hLy.out _ (List.getElem_mem hly)).mono (sub_of_below hb.out)
    have n0 : (0 : Int) ≤ (k : Int) := by omega
    have n1 : (k : Int) < (xs.length : Int) := by omega
    have hbx : bx < wr.heap.size := World.block_lt_of_cell? wr _ x0
    have hby : bY < wr.heap.size := World.block_lt_of_cell? wr _ y0
    have hHit := Lib.hid (fun h1 => rv_hit hlt hly h1 hT.out)
    have hMiss := Lib.hid (fun h1 => rv_miss hlt hly h1 hT.out)
    generalize xs[k] = u at x0 x1 x2 x3 hlx hHit hMiss
    generalize ys[k] = v at y0 y1 y2 y3 hlyy hHit hMiss
    have hb1 : Below wr.heap.size wr ((wr.alloc (.cells #[.int .i64 u.kind, .int .i64 u.num, .string u.text, .slice u.ptr u.len u.cap] 43)).alloc (.cells #[.int .i64 v.kind, .int .i64 v.num, .string v.text, .slice v.ptr v.len v.cap] 43)) := ((Below.refl _ _).alloc (Nat.le_refl _) _).alloc (by simp) _
    have hgo := Lib.hid (sv_any u v _ (hlx.mono (sub_of_below hb1)) (hlyy.mono (sub_of_below hb1)))
    have hbb := Lib.hid (hb.out.trans (hb1.mono hb.out.size))
    clear hb1 hlx hlyy
    go_wp2_with fail
    refine hgo.out.mono ?_
    rintro e w4 ⟨rfl, hb4⟩
    have hb5 := Lib.hid (hbb.out.trans (hb4.mono hbb.out.size))
    clear hgo hb4 x0 x1 x2 x3 y0 y1 y2 y3
    cases h1 : eqV u v with
    | false =>
      have hq := Lib.hid (hHit.out h1)
      clear hHit hMiss
      go_wp2
      go_ret
      exact ⟨ret_to hq.out, hb5.out⟩
    | true =>
      have hq := Lib.hid (hMiss.out h1)
      clear hHit hMiss
      go_wp2
      go_roundw
      case rel => exact ⟨k + 1, by omega, by go_num, hb5, hq⟩
      case measure => simp [intOf]; omega

set_option maxRecDepth 100000 in
set_option maxHeartbeats 4000000 in
theorem eqfE (xs ys : List ED) (rx ry : List (List Value)) (a b : Option Addr) (n m c d : Nat) (w : World) (hX : RowsAt w.cell? 5 (.slice a n c) rx) (hY : RowsAt w.cell? 5 (.slice b m d) ry) (hlx : rx.length = xs.length) (hly : ry.length = ys.length)
    (hLx : ∀ (i : Nat) (r : List Value) (k : ED), rx[i]? = some r → xs[i]? = some k → EAt w.cell? k r) (hLy : ∀ (i : Nat) (r : List Value) (k : ED), ry[i]? = some r → ys[i]? = some k → EAt w.cell? k r)
    (hcl : ∀ (i : Nat) (r r' : List Value) (k k' : ED) (w' : World), rx[i]? = some r → xs[i]? = some k → ry[i]? = some r' → ys[i]? = some k' → Below w.heap.size w w' → Calls Tryz.prog 84 #[.agg r.toArray, .agg r'.toArray] w' fun e w'' => e = .returned (.bool (sameB k k')) ∧ Below w'.heap.size w' w'') :
    Calls Tryz.prog 103 #[.slice a n c, .slice b m d, .func (.func 84) #[] #[]] w fun e w' => e = .returned (.bool (sameKL xs ys)) ∧ Below w.heap.size w w' := by
  have hn := (len_of hX).1
  have hm := (len_of hY).1
  have hn2 := (len_of hX).2
  rw [hlx] at hn
  rw [hly] at hm
  subst hn; subst hm
  replace hX := Lib.hid hX
  replace hY := Lib.hid hY
  replace hLx := Lib.hid hLx
  replace hcl := Lib.hid hcl
  replace hlx := Lib.hid hlx
  replace hly := Lib.hid hly
  replace hLy := Lib.hid hLy
  go_enter Tryz.func103, Tryz.ntmps103
  by_cases hl : xs.length = ys.length
  case neg =>
    have hQ := Lib.hid (sameKL_len hl)
    have hne : ((xs.length : Int) != (ys.length : Int)) = true := by simp; omega
    go_wp2
    go_ret
    exact ⟨ret_to hQ.out, Below.refl _ _⟩
  rw [← hl]
  replace hl := Lib.hid hl
  go_wp2
  go_loopw [17] (fun i wr => ∃ k : Nat, k ≤ xs.length ∧ i = .int .i64 k ∧ Hid (Below w.heap.size w wr) ∧ Hid (RK xs ys k)) (fun i _ => xs.length - (intOf i).toNat)
  case atStart => exact ⟨0, Nat.zero_le _, rfl, Lib.hid (Below.refl _ _), Lib.hid rfl⟩
  case round =>
    obtain ⟨k, hk, rfl, hb, hT⟩ := hrel
    by_cases hlt : k < xs.length
    case neg =>
      have hE := Lib.hid (rk_end hlt hl.out hT.out)
      go_wp2
      go_ret
      exact ⟨ret_to hE.out, hb.out⟩
    have hky : k < ys.length := by have := hl.out; omega
    obtain ⟨bx, ox, xop, xkind, xname, xva, xvn, xvc, xka, xkn, xkc, rfl, x0, x1, x2, x3, x4, hrx⟩ := kid_at (hX.out.mono (sub_of_below hb.out)) hlx.out (fun j r k h1 h2 => hLx.out j r k h1 h2) hlt
    obtain ⟨bY, oy, yop, ykind, yname, yva, yvn, yvc, yka, ykn, ykc, rfl, y0, y1, y2, y3, y4, hry⟩ := kid_at (hY.out.mono (sub_of_below hb.out)) hly.out (fun j r k h1 h2 => hLy.out j r k h1 h2) hky
    have n0 : (0 : Int) ≤ (k : Int) := by omega
    have n1 : (k : Int) < (xs.length : Int) := by omega
    have hbx : bx < wr.heap.size := World.block_lt_of_cell? wr _ x0
    have hby : bY < wr.heap.size := World.block_lt_of_cell? wr _ y0
    have hHit := Lib.hid (fun h1 => rk_hit hlt hky h1 hT.out)
    have hMiss := Lib.hid (fun h1 => rk_miss hlt hky h1 hT.out)
    have hb1 : Below wr.heap.size wr ((wr.alloc (.cells #[.int .i64 xop, .string xkind, .string xname, .slice xva xvn xvc, .slice xka xkn xkc] 29)).alloc (.cells #[.int .i64 yop, .string ykind, .string yname, .slice yva yvn yvc, .slice yka ykn ykc] 29)) := ((Below.refl _ _).alloc (Nat.le_refl _) _).alloc (by simp) _
    have hbb := Lib.hid (hb.out.trans (hb1.mono hb.out.size))
    have hgo := Lib.hid (hcl.out k _ _ xs[k] ys[k] _ hrx (List.getElem?_eq_getElem hlt) hry (List.getElem?_eq_getElem hky) hbb.out)
    clear hb1 hrx hry
    generalize xs[k] = u at hgo hHit hMiss
    generalize ys[k] = v at hgo hHit hMiss
    go_wp2_with fail
    refine hgo.out.mono ?_
    rintro e w4 ⟨rfl, hb4⟩
    have hb5 := Lib.hid (hbb.out.trans (hb4.mono hbb.out.size))
    clear hgo hb4 x0 x1 x2 x3 x4 y0 y1 y2 y3 y4
    cases h1 : sameB u v with
    | false =>
      have hq := Lib.hid (hHit.out h1)
      clear hHit hMiss
      go_wp2
      go_ret
      exact ⟨ret_to hq.out, hb5.out⟩
    | true =>
      have hq := Lib.hid (hMiss.out h1)
      clear hHit hMiss
      go_wp2
      go_roundw
      case rel => exact ⟨k + 1, by omega, by go_num, hb5, hq⟩
      case measure => simp [intOf]; omega

/-- The contract for one condition on the left, whatever stands on the right. -/
def SameOk (f : FuncId) (m : Mem) (d : ED) (r : List Value) : Prop := ∀ (m' : Mem) (d' : ED) (r' : List Value), EAt m' d' r' → ∀ w : World, Sub m w.cell? → Sub m' w.cell? → Calls Tryz.prog f #[.agg r.toArray, .agg r'.toArray] w fun e w' => e = .returned (.bool (sameB d d')) ∧ Below w.heap.size w w'

set_option maxRecDepth 100000 in
set_option maxHeartbeats 4000000 in
theorem same_step (m : Mem) (op : Int) (kind name : ByteArray) (vals : List VD) (kids : List ED) (vs ks : Value) (rows : List (List Value)) (hv : RowsAt m 4 vs (vals.map VD.row)) (hk : RowsAt m 5 ks rows) (hl : rows.length = kids.length) (hL : ∀ v ∈ vals, LAt m v)
    (hE : ∀ (i : Nat) (r : List Value) (k : ED), rows[i]? = some r → kids[i]? = some k → EAt m k r)
    (ih : ∀ (j : Nat) (r : List Value) (k : ED), rows[j]? = some r → kids[j]? = some k → SameOk 84 m k r) :
    SameOk 84 m (.mk op kind name vals kids) [.int .i64 op, .string kind, .string name, vs, ks] := by
  intro m' d' r' h' w hs hs'
  obtain ⟨op', kind', name', va', vn', vc', ka', kn', kc', rfl⟩ := eat_five h'
  obtain ⟨vals', kids', rows', rfl, hv', hk', hl', hL', hE'⟩ := eat_parts h'
  obtain ⟨va, vn, vc, rfl⟩ : ∃ a n c, vs = .slice a n c := by obtain ⟨a, c, h, -⟩ := hv; exact ⟨_, _, _, h⟩
  obtain ⟨ka, kn, kc, rfl⟩ : ∃ a n c, ks = .slice a n c := by obtain ⟨a, c, h, -⟩ := hk; exact ⟨_, _, _, h⟩
  have hB : Below w.heap.size w ((w.alloc (.cells #[.int .i64 op, .string kind, .string name, .slice va vn vc, .slice ka kn kc] 29)).alloc (.cells #[.int .i64 op', .string kind', .string name', .slice va' vn' vc', .slice ka' kn' kc'] 29)) := ((Below.refl _ _).alloc (Nat.le_refl _) _).alloc (by simp) _
  have hX := (Own.new w #[.int .i64 op, .string kind, .string name, .slice va vn vc, .slice ka kn kc] 29).alloc (.cells #[.int .i64 op', .string kind', .string name', .slice va' vn' vc', .slice ka' kn' kc'] 29)
  have hY := Own.new (w.alloc (.cells #[.int .i64 op, .string kind, .string name, .slice va vn vc, .slice ka kn kc] 29)) #[.int .i64 op', .string kind', .string name', .slice va' vn' vc', .slice ka' kn' kc'] 29
  rw [World.size_alloc] at hY
  have hs1 := hs.trans (sub_of_below hB)
  have hs1' := hs'.trans (sub_of_below hB)
  have hgoV := Lib.hid (eqfV vals vals' va va' vn vn' vc vc' _ (hv.mono hs1) (hv'.mono hs1') (fun v hm => (hL v hm).mono hs1) (fun v hm => (hL' v hm).mono hs1'))
  have hgoE := Lib.hid (fun (w1 : World) (hb : Below ((w.alloc (.cells #[.int .i64 op, .string kind, .string name, .slice va vn vc, .slice ka kn kc] 29)).alloc (.cells #[.int .i64 op', .string kind', .string name', .slice va' vn' vc', .slice ka' kn' kc'] 29)).heap.size ((w.alloc (.cells #[.int .i64 op, .string kind, .string name, .slice va vn vc, .slice ka kn kc] 29)).alloc (.cells #[.int .i64 op', .string kind', .string name', .slice va' vn' vc', .slice ka' kn' kc'] 29)) w1) => eqfE kids kids' rows rows' ka ka' kn kn' kc kc' w1 (hk.mono (hs1.trans (sub_of_below hb))) (hk'.mono (hs1'.trans (sub_of_below hb))) hl hl' (fun i r k h1 h2 => (hE i r k h1 h2).mono (hs1.trans (sub_of_below hb))) (fun i r k h1 h2 => (hE' i r k h1 h2).mono (hs1'.trans (sub_of_below hb)))
    (fun i r r' k k' w' h1 h2 h3 h4 hb' => ih i r k h1 h2 m' k' r' (hE' i r' k' h3 h4) w' ((hs1.trans (sub_of_below hb)).trans (sub_of_below hb')) ((hs1'.trans (sub_of_below hb)).trans (sub_of_below hb'))))
  have hQ := Lib.hid (show sameB (.mk op kind name vals kids) (.mk op' kind' name' vals' kids') = (op == op' && (kind.toList == kind'.toList && (name.toList == name'.toList && (sameVL vals vals' && sameKL kids kids')))) from rfl)
  clear hv hk hl hL hE ih hv' hk' hl' hL' hE' h' hs hs' hs1 hs1'
  have hxl := hX.lt
  have hyl := hY.lt
  go_enter Tryz.func84, Tryz.ntmps84
  cases e1 : (op == op') with
  | false =>
    rw [e1] at hQ
    replace hB := Lib.hid hB
    go_wp2
    go_ret
    exact ⟨ret_to (by rw [hQ.out]; rfl), hB.out⟩
  | true =>
  rw [e1] at hQ
  cases e2 : (kind.toList == kind'.toList) with
  | false =>
    rw [e2] at hQ
    replace hB := Lib.hid hB
    go_wp2
    go_ret
    exact ⟨ret_to (by rw [hQ.out]; rfl), hB.out⟩
  | true =>
  rw [e2] at hQ
  cases e3 : (name.toList == name'.toList) with
  | false =>
    rw [e3] at hQ
    replace hB := Lib.hid hB
    go_wp2
    go_ret
    exact ⟨ret_to (by rw [hQ.out]; rfl), hB.out⟩
  | true =>
  rw [e3] at hQ
  replace hB := Lib.hid hB
  go_wp2_with fail
  refine hgoV.out.mono ?_
  rintro e w1 ⟨rfl, hb1⟩
  have hX1 := hX.below hb1 hxl
  have hY1 := hY.below hb1 hyl
  have hB1 := Lib.hid (hB.out.trans (hb1.mono hB.out.size))
  have hgo := Lib.hid (hgoE.out w1 hb1)
  obtain ⟨x0, x1, x2, x3, x4⟩ := own5z hX1
  obtain ⟨y0, y1, y2, y3, y4⟩ := own5z hY1
  have hxl1 := hX1.lt
  have hyl1 := hY1.lt
  clear hb1 hX1 hY1 hgoV hgoE hX hY hxl hyl
  cases e4 : sameVL vals vals' with
  | false =>
    rw [e4] at hQ
    go_wp2
    go_ret
    exact ⟨ret_to (by rw [hQ.out]; rfl), hB1.out⟩
  | true =>
  rw [e4] at hQ
  go_wp2_with fail
  refine hgo.out.mono ?_
  rintro e w2 ⟨rfl, hb2⟩
  have hB2 := Lib.hid (hB1.out.trans (hb2.mono hB1.out.size))
  clear hgo hb2
  generalize sameKL kids kids' = bb at hQ ⊢
  go_wp2
  go_ret
  exact ⟨ret_to (by rw [hQ.out]; rfl), hB2.out⟩

/-- The program's comparison of conditions. -/
theorem same_any (m : Mem) (d : ED) (r : List Value) (h : EAt m d r) : SameOk 84 m d r := by
  induction h with
  | mk rows hv hk hl hL hE ih => exact same_step m _ _ _ _ _ _ _ rows hv hk hl hL hE ih

end Go.Proofs.YtlohdmghaeabjaaGreatDoor.clause

