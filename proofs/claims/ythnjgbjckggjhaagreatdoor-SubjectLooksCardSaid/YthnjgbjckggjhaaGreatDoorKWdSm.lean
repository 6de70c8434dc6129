/- The reference's Same: two subjects of equal content. -/
import Derived.Test.YthnjgbjckggjhaaGreatDoorKJ18
import Derived.Test.YthnjgbjckggjhaaGreatDoorKJ8
import Derived.Deep.RegionHeld3
import Derived.Lib.QuietBelow
import Derived.Test.YthnjgbjckggjhaaGreatDoorKWd
namespace Go.Proofs.YthnjgbjckggjhaaGreatDoor.subj.wide
open Go.RowKit Go.Sort Go.Proofs.YthnjgbjckggjhaaGreatDoor Go.Proofs.YthnjgbjckggjhaaGreatDoor.schema Go.Proofs.YthnjgbjckggjhaaGreatDoor.value Go.Proofs.YthnjgbjckggjhaaGreatDoor.text Go.Proofs.YthnjgbjckggjhaaGreatDoor.clause Go.Proofs.YthnjgbjckggjhaaGreatDoor.draw

attribute [local go_sem ↓] Go.wp_at_zero Go.wp_at_succ

theorem lin_of_rowsS {w : World} {a : Option Addr} {n c : Nat} {ls : List ByteArray} (h : RowsAt w.cell? 1 (.slice a n c) (ls.map strRow)) : LIn w a ls := by
  obtain ⟨a0, c0, h1, h2, h3, h4⟩ := h
  injection h1 with e1 e2 e3
  subst e1
  rcases h4 with h4 | ⟨blk, off, rfl, hc⟩
  · exact Or.inl (by simpa using h4)
  · refine Or.inr ⟨blk, off, rfl, fun k hk => ?_⟩
    have := hc k (strRow ls[k]) (by simp [hk]) 0 (.string ls[k]) rfl
    rw [Nat.mul_one, Nat.add_zero] at this
    exact this
theorem eqs_ref (a b : VD) (w : World) (ha : LAt w.cell? a) (hb : LAt w.cell? b) :
    Calls Tryz.prog 15 #[.agg #[.int .i64 a.kind, .int .i64 a.num, .string a.text, .slice a.ptr a.len a.cap], .agg #[.int .i64 b.kind, .int .i64 b.num, .string b.text, .slice b.ptr b.len b.cap]] w fun e w' => e = .returned (.bool (eqV a b)) ∧ Below w.heap.size w w' := by
  rw [show a.len = a.ls.length by have := (len_of ha.rows).1; simpa using this, show b.len = b.ls.length by have := (len_of hb.rows).1; simpa using this]
  exact equal_ref a.kind b.kind a.num b.num a.text b.text a.ptr b.ptr a.cap b.cap a.ls b.ls w (lin_of_rowsS ha.rows) (lin_of_rowsS hb.rows) (by have := ha.few; omega)

/-- Two lists whose parts fit pairwise. -/
def Pairs {α : Type} (R : α → α → Prop) (l l' : List α) : Prop := l.length = l'.length ∧ ∀ i (h : i < l.length) (h' : i < l'.length), R l[i] l'[i]
def Pre {α : Type} (R : α → α → Prop) (l l' : List α) (k : Nat) : Prop := ∀ i, i < k → ∀ (h : i < l.length) (h' : i < l'.length), R l[i] l'[i]
theorem Pre.zero {α : Type} (R : α → α → Prop) (l l' : List α) : Pre R l l' 0 := fun i h => absurd h (by omega)
theorem Pre.next {α : Type} {R : α → α → Prop} {l l' : List α} {k : Nat} (h : Pre R l l' k) (h1 : k < l.length) (h2 : k < l'.length) (hr : R l[k] l'[k]) : Pre R l l' (k + 1) := fun i hi g g' => by
  rcases Nat.lt_or_ge i k with h3 | h3
  · exact h i h3 g g'
  · obtain rfl : i = k := by omega
    exact hr
theorem Pre.done {α : Type} {R : α → α → Prop} {l l' : List α} {k : Nat} (h : Pre R l l' k) (hk : ¬ k < l.length) (hl : l.length = l'.length) : Pairs R l l' := ⟨hl, fun i g g' => h i (by omega) g g'⟩
def AEq (x y : AD) : Prop := (x.name.toList == y.name.toList) = true ∧ eqV x.val y.val = true
def CEq (x y : CT) : Prop := (x.kind.toList == y.kind.toList) = true ∧ (x.key.toList == y.key.toList) = true ∧ Pairs AEq x.attrs y.attrs
def SameIs (P : Prop) (e : Ending) : Prop := ∃ b, e = .returned (.bool b) ∧ (b = true ↔ P)
theorem same_no {P : Prop} (h : ¬ P) : SameIs P (.returned (.bool false)) := ⟨false, rfl, by simp [h]⟩
theorem same_yes {P : Prop} (h : P) : SameIs P (.returned (.bool true)) := ⟨true, rfl, by simp [h]⟩
theorem _root_.Go.Proofs.YthnjgbjckggjhaaGreatDoor.subj.Aft.alloc {w u : World} (h : Aft w u) (o : Obj) : Aft w (u.alloc o) := Below.alloc h h.size o

set_option maxRecDepth 100000 in
set_option maxHeartbeats 16000000 in
theorem same_ref (l l' : List CT) (a a' : Option Addr) (n n' c c' : Nat) (w : World) (h : SAt w.cell? (.slice a n c) l) (h' : SAt w.cell? (.slice a' n' c') l') :
    Calls Tryz.prog 12 #[.agg #[.slice a n c], .agg #[.slice a' n' c']] w fun e w' => SameIs (Pairs CEq l l') e ∧ Below w.heap.size w w' := by
  have hn := (len_of h.rows).1
  have hm := (len_of h.rows).2
  have hn' := (len_of h'.rows).1
  simp only [List.length_map] at hn hn'
  have hB : Below w.heap.size w ((w.alloc (.cells #[.slice a n c] 24)).alloc (.cells #[.slice a' n' c'] 24)) := ((Below.refl _ _).alloc (Nat.le_refl _) _).alloc (by simp) _
  have hX := Lib.hid ((Own.new w #[.slice a n c] 24).alloc (.cells #[.slice a' n' c'] 24))
  have hY := Lib.hid (Own.new' (w := w.alloc (.cells #[.slice a n c] 24)) (n := w.heap.size + 1) (A := #[.slice a' n' c']) (t := 24) (by simp))
  have hS := Lib.hid (h.mono (sub_of_below hB))
  have hS' := Lib.hid (h'.mono (sub_of_below hB))
  replace hB := Lib.hid hB
  clear h h'
  by_cases hlen : n = n'
  case neg =>
    have hne : ¬ (n : Int) = (n' : Int) := by omega
    have hno : ¬ Pairs CEq l l' := fun h => hlen (by rw [hn, hn', h.1])
    replace hno := Lib.hid hno
    replace hn := Lib.hid hn
    replace hn' := Lib.hid hn'
    go_enter Tryz.func12, Tryz.ntmps12
    go_wp2
    go_ret
    exact ⟨same_no hno.out, hB.out⟩
  subst hlen
  go_enter Tryz.func12, Tryz.ntmps12
  replace hn := Lib.hid hn
  replace hn' := Lib.hid hn'
  go_wp2_with fail
  generalize (w.alloc (.cells #[.slice a n c] 24)).alloc (.cells #[.slice a' n c'] 24) = w0 at hB hX hY hS hS' ⊢
  obtain ⟨gx, hgx⟩ : ∃ g : Nat, Hid (g = w.heap.size) := ⟨_, Lib.hid rfl⟩
  rw [← hgx.out] at hX hY ⊢
  go_loopw [5] (fun s5 wr => ∃ i : Nat, i ≤ n ∧ s5 = .int .i64 i ∧ Hid (Below w0.heap.size w0 wr) ∧ Hid (Pre CEq l l' i)) (fun s5 _ => n - (intOf s5).toNat)
  case atStart => exact ⟨0, by omega, rfl, Lib.hid (Below.refl _ _), Lib.hid (Pre.zero _ _ _)⟩
  case round =>
    obtain ⟨i, hi, rfl, hy, hpre⟩ := hrel
    have hBr := Lib.hid (hB.out.trans (hy.out.mono hB.out.size))
    have hXr := hX.out.below hy.out hX.out.lt
    have hYr := hY.out.below hy.out hY.out.lt
    have x0 := hXr.cell 0
    have y0 := hYr.cell 0
    simp only [List.getElem?_toArray, List.getElem?_cons_zero] at x0 y0
    have hxl := hXr.lt
    have hyl := hYr.lt
    by_cases hlt : i < n
    case neg =>
      have hyes := Lib.hid (hpre.out.done (by have := hn.out; omega) (by rw [← hn.out, ← hn'.out]))
      go_wp2
      go_ret
      exact ⟨same_yes hyes.out, hBr.out⟩
    have h1 : i < l.length := by have := hn.out; omega
    have h2 : i < l'.length := by have := hn'.out; omega
    obtain ⟨b1, o1, rfl, -, -, c0, c1, c2⟩ := ct_at (hS.out.rows.mono (sub_of_below hy.out)) h1
    obtain ⟨b2, o2, rfl, -, -, d0, d1, d2⟩ := ct_at (hS'.out.rows.mono (sub_of_below hy.out)) h2
    have hC := Lib.hid ((hS.out.each l[i] (List.getElem_mem h1)).mono (sub_of_below hy.out))
    have hD := Lib.hid ((hS'.out.each l'[i] (List.getElem_mem h2)).mono (sub_of_below hy.out))
    have hnext := Lib.hid (fun hr => hpre.out.next h1 h2 hr)
    have hbad := Lib.hid (show ¬ CEq l[i] l'[i] → ¬ Pairs CEq l l' from fun hq hp => hq (hp.2 i h1 h2))
    generalize l[i] = ct at c0 c1 c2 hC hnext hbad
    generalize l'[i] = dt at d0 d1 d2 hD hnext hbad
    obtain ⟨ckd, cky, cp, cn, cc, ca⟩ := ct
    obtain ⟨dkd, dky, dp, dn, dc, da⟩ := dt
    simp only at c0 c1 c2 d0 d1 d2
    have n0 : (0 : Int) ≤ (i : Int) := by omega
    have n1 : (i : Int) < (n : Int) := by omega
    replace hXr := Lib.hid hXr
    replace hYr := Lib.hid hYr
    go_upto_region 6 with fail
    have hKp : Hid (∀ u, Aft wr u → u.cell? ⟨gx, 0, none⟩ = some (.slice (some ⟨b1, o1, none⟩) n c) ∧ u.cell? ⟨gx + 1, 0, none⟩ = some (.slice (some ⟨b2, o2, none⟩) n c') ∧ u.cell? ⟨b1, o1 + i * 3, none⟩ = some (.string ckd) ∧ u.cell? ⟨b1, o1 + i * 3 + 1, none⟩ = some (.string cky) ∧ u.cell? ⟨b1, o1 + i * 3 + 2, none⟩ = some (.slice cp cn cc) ∧
        u.cell? ⟨b2, o2 + i * 3, none⟩ = some (.string dkd) ∧ u.cell? ⟨b2, o2 + i * 3 + 1, none⟩ = some (.string dky) ∧ u.cell? ⟨b2, o2 + i * 3 + 2, none⟩ = some (.slice dp dn dc)) :=
      Lib.hid fun u hb => ⟨cell_later hb x0, cell_later hb y0, cell_later hb c0, cell_later hb c1, cell_later hb c2, cell_later hb d0, cell_later hb d1, cell_later hb d2⟩
    clear x0 y0 c0 c1 c2 d0 d1 d2
    go_cut [6, 7] (fun t6 t7 wy => ∃ gp gq : Nat, t6 = .pointer (some ⟨gp, 0, none⟩) ∧ t7 = .pointer (some ⟨gq, 0, none⟩) ∧ Hid (Own wy gp #[.string ckd, .string cky, .slice cp cn cc] 37 ∧ Own wy gq #[.string dkd, .string dky, .slice dp dn dc] 37 ∧ Aft wr wy))
    case first =>
      go_region_held3 (fun u => u.cell? ⟨gx, 0, none⟩ = some (.slice (some ⟨b1, o1, none⟩) n c) ∧ u.cell? ⟨gx + 1, 0, none⟩ = some (.slice (some ⟨b2, o2, none⟩) n c') ∧ u.cell? ⟨b1, o1 + i * 3, none⟩ = some (.string ckd) ∧ u.cell? ⟨b1, o1 + i * 3 + 1, none⟩ = some (.string cky) ∧ u.cell? ⟨b1, o1 + i * 3 + 2, none⟩ = some (.slice cp cn cc) ∧
          u.cell? ⟨b2, o2 + i * 3, none⟩ = some (.string dkd) ∧ u.cell? ⟨b2, o2 + i * 3 + 1, none⟩ = some (.string dky) ∧ u.cell? ⟨b2, o2 + i * 3 + 2, none⟩ = some (.slice dp dn dc))
        (exact hKp.out _ (by repeat (first | assumption | exact Aft.refl _ | apply Aft.dr | apply Aft.alloc)))
        (fail)
      all_goals
        go_wp2_with fail
        go_meet
        first
          | exact ⟨_, _, rfl, rfl, Lib.hid ⟨(Own.new wr _ _).alloc _, Own.new' (by simp), (by repeat (first | exact Aft.refl _ | apply Aft.dr | apply Aft.alloc))⟩⟩
          | exact ⟨_, _, rfl, rfl, Lib.hid ⟨Own.new' (by simp), (Own.new wr _ _).alloc _, (by repeat (first | exact Aft.refl _ | apply Aft.dr | apply Aft.alloc))⟩⟩
    case rest =>
      obtain ⟨gp, gq, rfl, rfl, hW⟩ := hcut
      obtain ⟨hP, hQ, hyw⟩ := hW.out
      have hBw := Lib.hid (hBr.out.trans (Below.mono hyw hBr.out.size))
      have hyw0 := Lib.hid (hy.out.trans (Below.mono hyw hy.out.size))
      have hCw := Lib.hid (hC.out.mono (sub_of_below hyw))
      have hDw := Lib.hid (hD.out.mono (sub_of_below hyw))
      have hcl := (len_of hCw.out.rows).1
      have hdl := (len_of hDw.out.rows).1
      have hcm := (len_of hCw.out.rows).2
      simp only [List.length_map] at hcl hdl hcm
      obtain ⟨p0, p1, p2⟩ := own3c hP
      obtain ⟨q0, q1, q2⟩ := own3c hQ
      have hpl := hP.lt
      have hql := hQ.lt
      replace hP := Lib.hid hP
      replace hQ := Lib.hid hQ
      replace hcl := Lib.hid hcl
      replace hdl := Lib.hid hdl
      clear hKp hW hyw hC hD hy hBr hpre
      cases hk1 : (ckd.toList == dkd.toList)
      case false =>
        have hno := Lib.hid (hbad.out (fun hq => Bool.noConfusion (hk1.symm.trans hq.1)))
        go_wp2
        go_ret
        exact ⟨same_no hno.out, hBw.out⟩
      case true =>
      cases hk2 : (cky.toList == dky.toList)
      case false =>
        have hno := Lib.hid (hbad.out (fun hq => Bool.noConfusion (hk2.symm.trans hq.2.1)))
        go_wp2
        go_ret
        exact ⟨same_no hno.out, hBw.out⟩
      case true =>
      by_cases hk3 : cn = dn
      case neg =>
        have hk4 : ¬ (cn : Int) = (dn : Int) := by omega
        have hno := Lib.hid (hbad.out (fun hq => hk3 (hcl.out.trans (hq.2.2.1.trans hdl.out.symm))))
        go_wp2
        go_ret
        exact ⟨same_no hno.out, hBw.out⟩
      subst hk3
      have hfit := Lib.hid (fun hp => hnext.out ⟨hk1, hk2, hp⟩)
      have hmis := Lib.hid (show ¬ Pairs AEq ca da → ¬ Pairs CEq l l' from fun hq => hbad.out (fun hr => hq hr.2.2))
      clear hnext hbad
      go_wp2_with fail
      clear p0 p1 p2 q0 q1 q2 hpl hql
      go_loopw [8] (fun s8 wq => ∃ k : Nat, k ≤ cn ∧ s8 = .int .i64 k ∧ Hid (Below wc.heap.size wc wq) ∧ Hid (Pre AEq ca da k)) (fun s8 _ => cn - (intOf s8).toNat)
      case atStart => exact ⟨0, by omega, rfl, Lib.hid (Below.refl _ _), Lib.hid (Pre.zero _ _ _)⟩
      case round =>
        obtain ⟨k, hk, rfl, hq, hpa⟩ := hrel
        have hBq := Lib.hid (hBw.out.trans (hq.out.mono hBw.out.size))
        have hPq := hP.out.below hq.out hP.out.lt
        have hQq := hQ.out.below hq.out hQ.out.lt
        have p2 := hPq.cell 2
        have q2 := hQq.cell 2
        simp only [List.getElem?_toArray, List.getElem?_cons_zero, List.getElem?_cons_succ] at p2 q2
        have hpl := hPq.lt
        have hql := hQq.lt
        replace hPq := Lib.hid hPq
        replace hQq := Lib.hid hQq
        by_cases hlk : k < cn
        case neg =>
          have hyq := Lib.hid (hyw0.out.trans (hq.out.mono hyw0.out.size))
          have hup := Lib.hid (hfit.out (hpa.out.done (by have := hcl.out; omega) (by rw [← hcl.out, ← hdl.out])))
          go_wp2
          go_roundw
          case rel => exact ⟨i + 1, by omega, by go_num, hyq, hup⟩
          case measure => simp [intOf]; omega
        have g1 : k < ca.length := by have := hcl.out; omega
        have g2 : k < da.length := by have := hdl.out; omega
        obtain ⟨b3, o3, rfl, a0, a1, a2, a3, a4⟩ := ad_at (hCw.out.rows.mono (sub_of_below hq.out)) g1
        obtain ⟨b4, o4, rfl, e0, e1, e2, e3, e4⟩ := ad_at (hDw.out.rows.mono (sub_of_below hq.out)) g2
        have hL1 := Lib.hid ((hCw.out.each ca[k] (List.getElem_mem g1)).mono (sub_of_below hq.out))
        have hL2 := Lib.hid ((hDw.out.each da[k] (List.getElem_mem g2)).mono (sub_of_below hq.out))
        have hpn := Lib.hid (fun hr => hpa.out.next g1 g2 hr)
        have hpx := Lib.hid (show ¬ AEq ca[k] da[k] → ¬ Pairs CEq l l' from fun hr => hmis.out (fun hp => hr (hp.2 k g1 g2)))
        generalize ca[k] = x at a0 a1 a2 a3 a4 hL1 hpn hpx
        generalize da[k] = z at e0 e1 e2 e3 e4 hL2 hpn hpx
        obtain ⟨xn, xk, xm, xt, xp, xl, xc, xls⟩ := x
        obtain ⟨zn, zk, zm, zt, zp, zl, zc, zls⟩ := z
        simp only at a0 a1 a2 a3 a4 e0 e1 e2 e3 e4
        have cK := Lib.hid (fun (dq : Nat) (os : Array Obj) => Calls.regrown_of (eqs_ref ⟨xk, xm, xt, xp, xl, xc, xls⟩ ⟨zk, zm, zt, zp, zl, zc, zls⟩ (Sort.grow (redrawn wr dq) os) (hL1.out.mono (sub_of_below (below_regrown wr dq os))) (hL2.out.mono (sub_of_below (below_regrown wr dq os)))))
        simp only at cK
        have n2 : (0 : Int) ≤ (k : Int) := by omega
        have n3 : (k : Int) < (cn : Int) := by omega
        have j0 := cell_regrown p2
        have j1 := cell_regrown q2
        have r0 := cell_regrown a0
        have r1 := cell_regrown a1
        have r2 := cell_regrown a2
        have r3 := cell_regrown a3
        have r4 := cell_regrown a4
        have t0 := cell_regrown e0
        have t1 := cell_regrown e1
        have t2 := cell_regrown e2
        have t3 := cell_regrown e3
        have t4 := cell_regrown e4
        obtain ⟨bv, hbv⟩ : ∃ b, eqV ⟨xk, xm, xt, xp, xl, xc, xls⟩ ⟨zk, zm, zt, zp, zl, zc, zls⟩ = b := ⟨_, rfl⟩
        rw [hbv] at cK
        clear hL1 hL2
        cases hk5 : (xn.toList == zn.toList)
        case false =>
          have hno := Lib.hid (hpx.out (fun hr => Bool.noConfusion (hk5.symm.trans hr.1)))
          go_wp2_with fail
          clear a0 a1 a2 a3 a4 e0 e1 e2 e3 e4
          refine wp_region_quiet_below (by kernel_rfl) (by kernel_rfl) ?_
          repeat (go_big_quiet_step (fail))
          refine wpQuiet_nil ?_
          intro _ hw'
          obtain ⟨⟨dq, osq⟩, hw''⟩ := hw'
          subst hw''
          have hBz := Lib.hid (hBq.out.trans ((below_regrown wr dq osq).mono hBq.out.size))
          go_wp2
          go_ret
          exact ⟨same_no hno.out, hBz.out⟩
        case true =>
        have hsf := Lib.hid (show bv = false → ¬ Pairs CEq l l' from fun hb => hpx.out (fun hr => Bool.noConfusion (hb.symm.trans (hbv.symm.trans hr.2))))
        have hst := Lib.hid (show bv = true → Pre AEq ca da (k + 1) from fun hb => hpn.out ⟨hk5, hbv.trans hb⟩)
        clear hpx hpn
        replace hbv := Lib.hid hbv
        go_wp2_with fail
        clear a0 a1 a2 a3 a4 e0 e1 e2 e3 e4
        refine wp_region_quiet_below (by kernel_rfl) (by kernel_rfl) ?_
        repeat (go_big_quiet_step (with_reducible exact cK.out _ _))
        refine wpQuiet_nil ?_
        intro _ hw'
        obtain ⟨⟨dq, osq⟩, hw''⟩ := hw'
        subst hw''
        have hBz := Lib.hid (hBq.out.trans ((below_regrown wr dq osq).mono hBq.out.size))
        have hqz := Lib.hid (hq.out.trans ((below_regrown wr dq osq).mono hq.out.size))
        clear cK j0 j1 r0 r1 r2 r3 r4 t0 t1 t2 t3 t4 p2 q2 hpl hql hPq hQq hq
        cases bv
        case false =>
          have hno := Lib.hid (hsf.out rfl)
          clear hsf hst
          go_wp2
          go_ret
          exact ⟨same_no hno.out, hBz.out⟩
        case true =>
          have hpr := Lib.hid (hst.out rfl)
          clear hsf hst
          go_wp2
          go_roundw
          case rel => exact ⟨k + 1, by omega, by go_num, hqz, hpr⟩
          case measure => simp [intOf]; omega

end Go.Proofs.YthnjgbjckggjhaaGreatDoor.subj.wide

