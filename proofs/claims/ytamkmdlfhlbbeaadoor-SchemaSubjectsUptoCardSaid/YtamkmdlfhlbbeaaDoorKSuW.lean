/- Which subjects fit the declared attributes, or the first error: the program's schema.Subject and the reference's. -/
import Derived.Test.YtamkmdlfhlbbeaaDoorKSuE
import Derived.Test.YtamkmdlfhlbbeaaDoorKSuT
import Derived.Test.YtamkmdlfhlbbeaaDoorKJ1
import Derived.Lib.QuietBelow
namespace Go.Proofs.YtamkmdlfhlbbeaaDoor.subj
open Go.RowKit Go.Sort Go.Proofs.YtamkmdlfhlbbeaaDoor Go.Proofs.YtamkmdlfhlbbeaaDoor.schema Go.Proofs.YtamkmdlfhlbbeaaDoor.value Go.Proofs.YtamkmdlfhlbbeaaDoor.text Go.Proofs.YtamkmdlfhlbbeaaDoor.clause Go.Proofs.YtamkmdlfhlbbeaaDoor.draw

theorem type_refb (v : Value) (l : List DD) (kind name : ByteArray) (w : World) (h : RowsAt w.cell? 3 v (l.map DD.row)) :
    Calls Tryd.prog 17 #[v, .string kind, .string name] w fun e w' => e = .returned (.int .i64 (typeOf kind.toList name.toList l)) ∧ Below w.heap.size w w' :=
  (rtype_any v l kind name w h).mono (fun e w' h => ⟨h.1, by rw [← h.2]; exact Below.refl _ _⟩)

set_option maxRecDepth 100000 in
set_option maxHeartbeats 8000000 in
theorem sub9_any (decl : List DD) (dv : Value) (l : List CT) (va : Option Addr) (n vc : Nat) (w : World) (hD : RowsAt w.cell? 3 dv (decl.map DD.row)) (h : SAt w.cell? (.slice va n vc) l) (hT : STabs w) :
    Calls Tryd.prog 8 #[dv, .agg #[.slice va n vc]] w fun e w' => e = .returned (.int .i64 (subjS decl l)) ∧ Below w.heap.size w w' := by
  have hn := (len_of h.rows).1
  have hm := (len_of h.rows).2
  simp only [List.length_map] at hn
  subst hn
  have hB0 : Below w.heap.size w (w.alloc (.cells #[.slice va l.length vc] 25)) := (Below.refl _ _).alloc (Nat.le_refl _) _
  have hSx := Lib.hid (Own.new w #[.slice va l.length vc] 25)
  have hA := Lib.hid (h.mono (sub_of_below hB0))
  replace hD := Lib.hid (hD.mono (sub_of_below hB0))
  replace hT := Lib.hid (hT.below hB0)
  replace hB0 := Lib.hid hB0
  clear h
  go_enter Tryd.func8, Tryd.ntmps8
  go_wp2_with fail
  generalize w.alloc (.cells #[.slice va l.length vc] 25) = w0 at hB0 hSx hA hT hD ⊢
  obtain ⟨gs, hgs⟩ : ∃ g : Nat, Hid (g = w.heap.size) := ⟨_, Lib.hid rfl⟩
  rw [← hgs.out] at hSx ⊢
  refine (scheck_any l va l.length vc _ hA.out hT.out).mono ?_
  rintro e w1 ⟨rfl, hb1⟩
  have hB1 := Lib.hid (hB0.out.trans (hb1.mono hB0.out.size))
  have hS1 := Lib.hid (hSx.out.below hb1 hSx.out.lt)
  have hA1 := Lib.hid (hA.out.mono (sub_of_below hb1))
  have hD1 := Lib.hid (hD.out.mono (sub_of_below hb1))
  have s0 := hS1.out.cell 0
  have hsl := hS1.out.lt
  simp only [List.getElem?_toArray, List.getElem?_cons_zero] at s0
  clear hb1 hSx hA hD hT hB0
  by_cases hok : subS l = 0
  case neg =>
    have hE := Lib.hid (subj_bad decl hok)
    generalize subS l = cv at hok hE ⊢
    go_wp2
    go_ret
    exact ⟨text.ret_int hE.out.symm, hB1.out⟩
  have hQ := Lib.hid (subj_fit decl hok)
  rw [hok]
  clear hok
  go_wp2_with fail
  clear s0 hsl
  go_loopw [18] (fun s wr => ∃ k : Nat, k ≤ l.length ∧ s = .int .i64 k ∧ Hid (Below w1.heap.size w1 wr) ∧ Hid (FitC decl l k)) (fun s _ => l.length - (intOf s).toNat)
  case atStart => exact ⟨0, by omega, rfl, Lib.hid (Below.refl _ _), Lib.hid rfl⟩
  case round =>
    obtain ⟨k, hk, rfl, hBw, hF⟩ := hrel
    have hSr := hS1.out.below hBw.out hS1.out.lt
    have s0 := hSr.cell 0
    have hsl := hSr.lt
    simp only [List.getElem?_toArray, List.getElem?_cons_zero] at s0
    by_cases hlt : k < l.length
    case neg =>
      have hE := Lib.hid (hQ.out.trans (hF.out.done hlt))
      have hBx := Lib.hid (hB1.out.trans (hBw.out.mono hB1.out.size))
      go_wp2
      go_ret
      exact ⟨text.ret_int hE.out.symm, hBx.out⟩
    obtain ⟨blk, off, rfl, -, -, c0, c1, c2⟩ := ct_at (hA1.out.rows.mono (sub_of_below hBw.out)) hlt
    have hCk := hA1.out.each l[k] (List.getElem_mem hlt)
    have hbad := Lib.hid (fun h1 => hF.out.bad hlt h1)
    have hnext := Lib.hid (fun h1 => hF.out.next hlt h1)
    have n0 : (0 : Int) ≤ (k : Int) := by omega
    have n1 : (k : Int) < (l.length : Int) := by omega
    have hbl : blk < wr.heap.size := World.block_lt_of_cell? wr _ c0
    generalize l[k] = ct at c0 c1 c2 hCk hbad hnext
    obtain ⟨ck, cy, cp, cl, cc, ca⟩ := ct
    simp only at c0 c1 c2
    have hcl := (len_of hCk.rows).1
    have hcm := (len_of hCk.rows).2
    simp only [List.length_map] at hcl
    subst hcl
    simp only at hcm
    have hbx : Below wr.heap.size wr (wr.alloc (.cells #[.string ck, .string cy, .slice cp ca.length cc] 54)) := (Below.refl _ _).alloc (Nat.le_refl _) _
    have hX := Lib.hid (Own.new wr #[.string ck, .string cy, .slice cp ca.length cc] 54)
    have hB2 := Lib.hid (hBw.out.trans (hbx.mono hBw.out.size))
    have hS2 := Lib.hid (hSr.below hbx hSr.lt)
    replace hCk := Lib.hid hCk
    have hx0 : wr.heap.size < (wr.alloc (.cells #[.string ck, .string cy, .slice cp ca.length cc] 54)).heap.size := by simp
    clear hbx hSr
    go_wp2_with fail
    generalize wr.alloc (.cells #[.string ck, .string cy, .slice cp ca.length cc] 54) = w2 at hX hB2 hS2 hx0 ⊢
    obtain ⟨gx, hgx⟩ : ∃ g : Nat, g = wr.heap.size := ⟨_, rfl⟩
    rw [← hgx] at hX hx0 ⊢
    clear hgx c0 c1 c2 hbl s0 hsl hBw
    go_loopw [25] (fun s wq => ∃ i : Nat, i ≤ ca.length ∧ s = .int .i64 i ∧ Hid (Below w2.heap.size w2 wq) ∧ Hid (FitA decl ck ca i)) (fun s _ => ca.length - (intOf s).toNat)
    case atStart => exact ⟨0, by omega, rfl, Lib.hid (Below.refl _ _), Lib.hid rfl⟩
    case round =>
      obtain ⟨i, hi, rfl, hBq, hG⟩ := hrel
      have hXq := hX.out.below hBq.out hx0
      obtain ⟨x0, x1, x2⟩ := own3c hXq
      have hxl := hXq.lt
      have hB3 := Lib.hid (hB2.out.trans (hBq.out.mono hB2.out.size))
      replace hXq := Lib.hid hXq
      by_cases hil : i < ca.length
      case neg =>
        have hN1 := Lib.hid (hnext.out (hG.out.done hil))
        go_wp2
        go_roundw
        case rel => exact ⟨k + 1, by omega, by go_num, hB3, hN1⟩
        case measure => simp [intOf]; omega
      obtain ⟨ab, ao, rfl, a0, a1, a2, a3, a4⟩ := ad_at (hCk.out.rows.mono (sub_of_below hB3.out)) hil
      have gnone := Lib.hid (fun h1 => hG.out.none hil h1)
      have gbad := Lib.hid (fun h1 h2 => hG.out.bad hil h1 h2)
      have gnext := Lib.hid (fun h1 h2 => hG.out.next hil h1 h2)
      have m0 : (0 : Int) ≤ (i : Int) := by omega
      have m1 : (i : Int) < (ca.length : Int) := by omega
      have hab : ab < wr.heap.size := World.block_lt_of_cell? wr _ a0
      generalize ca[i] = at1 at a0 a1 a2 a3 a4 gnone gbad gnext
      obtain ⟨an, av⟩ := at1
      simp only at a0 a1 a2 a3 a4
      have hby : Below wr.heap.size wr (wr.alloc (.cells #[.string an, .int .i64 av.kind, .int .i64 av.num, .string av.text, .slice av.ptr av.len av.cap] 58)) := (Below.refl _ _).alloc (Nat.le_refl _) _
      have hY := Lib.hid (Own.new wr #[.string an, .int .i64 av.kind, .int .i64 av.num, .string av.text, .slice av.ptr av.len av.cap] 58)
      have hB4 := Lib.hid (hBq.out.trans (hby.mono hBq.out.size))
      have hD4 := Lib.hid (hD1.out.mono (sub_of_below (hB3.out.trans (hby.mono hB3.out.size))))
      have hX4 := Lib.hid (hXq.out.below hby hXq.out.lt)
      clear hby
      go_wp2_with fail
      generalize wr.alloc (.cells #[.string an, .int .i64 av.kind, .int .i64 av.num, .string av.text, .slice av.ptr av.len av.cap] 58) = w4 at hY hB4 hD4 hX4 ⊢
      obtain ⟨gy, hgy⟩ : ∃ g : Nat, g = wr.heap.size := ⟨_, rfl⟩
      rw [← hgy] at hY ⊢
      clear hgy a0 a1 a2 a3 a4 hab x0 x1 x2 hxl
      refine (type_any dv decl ck an _ hD4.out).mono ?_
      rintro e w5 ⟨rfl, hb5⟩
      have hY5 := hY.out.below hb5 hY.out.lt
      obtain ⟨y0, y1, y2, y3, y4⟩ := own5z hY5
      have hyl := hY5.lt
      have hX5 := Lib.hid (hX4.out.below hb5 hX4.out.lt)
      have hB5 := Lib.hid (hB4.out.trans (hb5.mono hB4.out.size))
      clear hb5 hY hD4 hB4 hX4 hY5
      by_cases ht : typeOf ck.toList an.toList decl = 0
      · have hE := Lib.hid (hQ.out.trans (hbad.out (by rw [gnone.out ht]; decide)))
        have hE2 := Lib.hid (gnone.out ht)
        rw [ht]
        clear ht y0 y1 y2 y3 y4
        have hBx := Lib.hid (hB1.out.trans ((hB2.out.trans (hB5.out.mono hB2.out.size)).mono hB1.out.size))
        go_wp2
        go_ret
        exact ⟨text.ret_int (hE.out.trans hE2.out).symm, hBx.out⟩
      · by_cases ht2 : typeOf ck.toList an.toList decl = av.kind
        · have hN2 := Lib.hid (gnext.out ht ht2)
          have hk0 : (av.kind == 0) = false := beq_eq_false_iff_ne.2 (by rw [← ht2]; exact ht)
          rw [ht2]
          clear ht ht2
          go_wp2
          go_roundw
          case rel => exact ⟨i + 1, by omega, by go_num, hB5, hN2⟩
          case measure => simp [intOf]; omega
        · have hE2 := gbad.out ht ht2
          have hE := Lib.hid (hQ.out.trans ((hbad.out (by rw [hE2]; decide)).trans hE2))
          have hBx := Lib.hid (hB1.out.trans ((hB2.out.trans (hB5.out.mono hB2.out.size)).mono hB1.out.size))
          generalize typeOf ck.toList an.toList decl = tt at ht ht2 ⊢
          have hk0 : (tt == 0) = false := beq_eq_false_iff_ne.2 ht
          have hk1 : (tt == av.kind) = false := beq_eq_false_iff_ne.2 ht2
          clear hE2
          go_wp2
          go_ret
          exact ⟨text.ret_int hE.out.symm, hBx.out⟩

set_option maxRecDepth 100000 in
set_option maxHeartbeats 8000000 in
theorem sub9_ref (decl : List DD) (dv : Value) (l : List CT) (va : Option Addr) (n vc : Nat) (w : World) (hD : RowsAt w.cell? 3 dv (decl.map DD.row)) (h : SAt w.cell? (.slice va n vc) l) (hN : Nm l) (hT : STabs w) :
    Calls Tryd.prog 10 #[dv, .agg #[.slice va n vc]] w fun e w' => e = .returned (.int .i64 (subjS decl l)) ∧ Below w.heap.size w w' := by
  have hn := (len_of h.rows).1
  have hm := (len_of h.rows).2
  simp only [List.length_map] at hn
  subst hn
  have hB0 : Below w.heap.size w (w.alloc (.cells #[.slice va l.length vc] 25)) := (Below.refl _ _).alloc (Nat.le_refl _) _
  have hSx := Lib.hid (Own.new w #[.slice va l.length vc] 25)
  have hA := Lib.hid (h.mono (sub_of_below hB0))
  replace hD := Lib.hid (hD.mono (sub_of_below hB0))
  replace hT := Lib.hid (hT.below hB0)
  replace hB0 := Lib.hid hB0
  replace hN := Lib.hid hN
  clear h
  go_enter Tryd.func10, Tryd.ntmps10
  go_wp2_with fail
  generalize w.alloc (.cells #[.slice va l.length vc] 25) = w0 at hB0 hSx hA hT hD ⊢
  obtain ⟨gs, hgs⟩ : ∃ g : Nat, Hid (g = w.heap.size) := ⟨_, Lib.hid rfl⟩
  rw [← hgs.out] at hSx ⊢
  refine (scheck_ref l va l.length vc _ hA.out hN.out hT.out).mono ?_
  rintro e w1 ⟨rfl, hb1⟩
  have hB1 := Lib.hid (hB0.out.trans (hb1.mono hB0.out.size))
  have hS1 := Lib.hid (hSx.out.below hb1 hSx.out.lt)
  have hA1 := Lib.hid (hA.out.mono (sub_of_below hb1))
  have hD1 := Lib.hid (hD.out.mono (sub_of_below hb1))
  have s0 := hS1.out.cell 0
  have hsl := hS1.out.lt
  simp only [List.getElem?_toArray, List.getElem?_cons_zero] at s0
  clear hb1 hSx hA hD hT hB0
  by_cases hok : subS l = 0
  case neg =>
    have hE := Lib.hid (subj_bad decl hok)
    generalize subS l = cv at hok hE ⊢
    go_wp2
    go_ret
    exact ⟨text.ret_int hE.out.symm, hB1.out⟩
  have hQ := Lib.hid (subj_fit decl hok)
  rw [hok]
  clear hok
  go_wp2_with fail
  clear s0 hsl
  go_loopw [6] (fun s wr => ∃ k : Nat, k ≤ l.length ∧ s = .int .i64 k ∧ Hid (Below w1.heap.size w1 wr) ∧ Hid (FitC decl l k)) (fun s _ => l.length - (intOf s).toNat)
  case atStart => exact ⟨0, by omega, rfl, Lib.hid (Below.refl _ _), Lib.hid rfl⟩
  case round =>
    obtain ⟨k, hk, rfl, hBw, hF⟩ := hrel
    have hSr := hS1.out.below hBw.out hS1.out.lt
    have s0 := hSr.cell 0
    have hsl := hSr.lt
    simp only [List.getElem?_toArray, List.getElem?_cons_zero] at s0
    by_cases hlt : k < l.length
    case neg =>
      have hE := Lib.hid (hQ.out.trans (hF.out.done hlt))
      have hBx := Lib.hid (hB1.out.trans (hBw.out.mono hB1.out.size))
      go_wp2
      go_ret
      exact ⟨text.ret_int hE.out.symm, hBx.out⟩
    obtain ⟨blk, off, rfl, -, -, c0, c1, c2⟩ := ct_at (hA1.out.rows.mono (sub_of_below hBw.out)) hlt
    have hCk := hA1.out.each l[k] (List.getElem_mem hlt)
    have hbad := Lib.hid (fun h1 => hF.out.bad hlt h1)
    have hnext := Lib.hid (fun h1 => hF.out.next hlt h1)
    have n0 : (0 : Int) ≤ (k : Int) := by omega
    have n1 : (k : Int) < (l.length : Int) := by omega
    have hbl : blk < wr.heap.size := World.block_lt_of_cell? wr _ c0
    generalize l[k] = ct at c0 c1 c2 hCk hbad hnext
    obtain ⟨ck, cy, cp, cl, cc, ca⟩ := ct
    simp only at c0 c1 c2
    have hcl := (len_of hCk.rows).1
    have hcm := (len_of hCk.rows).2
    simp only [List.length_map] at hcl
    subst hcl
    simp only at hcm
    have hbx : Below wr.heap.size wr (wr.alloc (.cells #[.string ck, .string cy, .slice cp ca.length cc] 54)) := (Below.refl _ _).alloc (Nat.le_refl _) _
    have hX := Lib.hid (Own.new wr #[.string ck, .string cy, .slice cp ca.length cc] 54)
    have hB2 := Lib.hid (hBw.out.trans (hbx.mono hBw.out.size))
    have hS2 := Lib.hid (hSr.below hbx hSr.lt)
    replace hCk := Lib.hid hCk
    have hx0 : wr.heap.size < (wr.alloc (.cells #[.string ck, .string cy, .slice cp ca.length cc] 54)).heap.size := by simp
    clear hbx hSr
    go_wp2_with fail
    generalize wr.alloc (.cells #[.string ck, .string cy, .slice cp ca.length cc] 54) = w2 at hX hB2 hS2 hx0 ⊢
    obtain ⟨gx, hgx⟩ : ∃ g : Nat, g = wr.heap.size := ⟨_, rfl⟩
    rw [← hgx] at hX hx0 ⊢
    clear hgx c0 c1 c2 hbl s0 hsl hBw
    go_loopw [8] (fun s wq => ∃ i : Nat, i ≤ ca.length ∧ s = .int .i64 i ∧ Hid (Below w2.heap.size w2 wq) ∧ Hid (FitA decl ck ca i)) (fun s _ => ca.length - (intOf s).toNat)
    case atStart => exact ⟨0, by omega, rfl, Lib.hid (Below.refl _ _), Lib.hid rfl⟩
    case round =>
      obtain ⟨i, hi, rfl, hBq, hG⟩ := hrel
      have hXq := hX.out.below hBq.out hx0
      obtain ⟨x0, x1, x2⟩ := own3c hXq
      have hxl := hXq.lt
      have hB3 := Lib.hid (hB2.out.trans (hBq.out.mono hB2.out.size))
      replace hXq := Lib.hid hXq
      by_cases hil : i < ca.length
      case neg =>
        have hN1 := Lib.hid (hnext.out (hG.out.done hil))
        go_wp2
        go_roundw
        case rel => exact ⟨k + 1, by omega, by go_num, hB3, hN1⟩
        case measure => simp [intOf]; omega
      obtain ⟨ab, ao, rfl, a0, a1, a2, a3, a4⟩ := ad_at (hCk.out.rows.mono (sub_of_below hB3.out)) hil
      have gnone := Lib.hid (fun h1 => hG.out.none hil h1)
      have gbad := Lib.hid (fun h1 h2 => hG.out.bad hil h1 h2)
      have gnext := Lib.hid (fun h1 h2 => hG.out.next hil h1 h2)
      have m0 : (0 : Int) ≤ (i : Int) := by omega
      have m1 : (i : Int) < (ca.length : Int) := by omega
      have hab : ab < wr.heap.size := World.block_lt_of_cell? wr _ a0
      generalize ca[i] = at1 at a0 a1 a2 a3 a4 gnone gbad gnext
      obtain ⟨an, av⟩ := at1
      simp only at a0 a1 a2 a3 a4
      have hD4 := hD1.out.mono (sub_of_below hB3.out)
      have cK := Lib.hid (fun (dq : Nat) (os : Array Obj) => Calls.regrown_of (type_refb dv decl ck an (Sort.grow (redrawn wr dq) os) (hD4.mono (sub_of_below (below_regrown wr dq os)))))
      have k0 := cell_regrown x0
      have k2 := cell_regrown x2
      have k3 := cell_regrown a0
      have k4 := cell_regrown a1
      clear hD4
      go_wp2_with fail
      refine wp_region_quiet_below (by kernel_rfl) (by kernel_rfl) ?_
      repeat (go_big_quiet_step (first | (with_reducible exact cK.out _ _)))
      refine wpQuiet_nil ?_
      intro _ hw'
      obtain ⟨⟨dq, osq⟩, hw''⟩ := hw'
      subst hw''
      have y0 := k0 dq osq
      have y2 := k2 dq osq
      have y3 := k3 dq osq
      have y4 := k4 dq osq
      have hB5 := Lib.hid (hBq.out.trans ((below_regrown wr dq osq).mono hBq.out.size))
      have hxl5 : gx < (Sort.grow (redrawn wr dq) osq).heap.size := World.block_lt_of_cell? _ _ y0
      have hab5 : ab < (Sort.grow (redrawn wr dq) osq).heap.size := World.block_lt_of_cell? _ _ y3
      generalize Sort.grow (redrawn wr dq) osq = w5 at hB5 y0 y2 y3 y4 hxl5 hab5 ⊢
      clear cK k0 k2 k3 k4 x0 x1 x2 a0 a1 a2 a3 a4
      by_cases ht : typeOf ck.toList an.toList decl = 0
      · have hE := Lib.hid (hQ.out.trans (hbad.out (by rw [gnone.out ht]; decide)))
        have hE2 := Lib.hid (gnone.out ht)
        rw [ht]
        clear ht
        have hBx := Lib.hid (hB1.out.trans ((hB2.out.trans (hB5.out.mono hB2.out.size)).mono hB1.out.size))
        go_wp2
        go_ret
        exact ⟨text.ret_int (hE.out.trans hE2.out).symm, hBx.out⟩
      · by_cases ht2 : typeOf ck.toList an.toList decl = av.kind
        · have hN2 := Lib.hid (gnext.out ht ht2)
          have hk0 : (av.kind == 0) = false := beq_eq_false_iff_ne.2 (by rw [← ht2]; exact ht)
          rw [ht2]
          clear ht ht2
          go_wp2
          go_roundw
          case rel => exact ⟨i + 1, by omega, by go_num, hB5, hN2⟩
          case measure => simp [intOf]; omega
        · have hE2 := gbad.out ht ht2
          have hE := Lib.hid (hQ.out.trans ((hbad.out (by rw [hE2]; decide)).trans hE2))
          have hBx := Lib.hid (hB1.out.trans ((hB2.out.trans (hB5.out.mono hB2.out.size)).mono hB1.out.size))
          generalize typeOf ck.toList an.toList decl = tt at ht ht2 ⊢
          have hk0 : (tt == 0) = false := beq_eq_false_iff_ne.2 ht
          have hk1 : (tt != av.kind) = true := by simp [ht2]
          clear hE2
          go_wp2
          go_ret
          exact ⟨text.ret_int hE.out.symm, hBx.out⟩

end Go.Proofs.YtamkmdlfhlbbeaaDoor.subj

