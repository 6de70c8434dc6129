/- Which subjects are valid, or the first error: the program's Check and the reference's. -/
import Derived.Test.YthnjgbjckggjhaaGreatDoorKSuC
import Derived.Test.YthnjgbjckggjhaaGreatDoorKClR
namespace Go.Proofs.YthnjgbjckggjhaaGreatDoor.subj
open Go.RowKit Go.Proofs.YthnjgbjckggjhaaGreatDoor Go.Proofs.YthnjgbjckggjhaaGreatDoor.schema Go.Proofs.YthnjgbjckggjhaaGreatDoor.value Go.Proofs.YthnjgbjckggjhaaGreatDoor.text Go.Proofs.YthnjgbjckggjhaaGreatDoor.clause Go.Proofs.YthnjgbjckggjhaaGreatDoor.draw

/-- What one context does to the first error. -/
structure StepC (l : List CT) (k : Nat) (c : CT) (late : Bool) : Prop where
  key : keyS c.kind.data.toList = false → subGo none l = 6
  order : keyS c.kind.data.toList = true → late = false → subGo none l = 9
  text : keyS c.kind.data.toList = true → late = true → (c.key.size = 0 ∨ validS c.key.data.toList = false) → subGo none l = 2
  bad : keyS c.kind.data.toList = true → late = true → ¬ c.key.size = 0 → validS c.key.data.toList = true → attrS c.attrs ≠ 0 → subGo none l = attrS c.attrs
  next : keyS c.kind.data.toList = true → late = true → ¬ c.key.size = 0 → validS c.key.data.toList = true → attrS c.attrs = 0 → AtC l (k + 1)
theorem AtC.step {l : List CT} {k : Nat} (T : AtC l k) (h : k < l.length) : StepC l k l[k] (lateS (prevC l k) l[k].kind.data.toList) :=
  ⟨T.key h, T.order h, T.text h, T.bad h, T.next h⟩

set_option maxRecDepth 100000 in
set_option maxHeartbeats 8000000 in
theorem scheck_any (l : List CT) (va : Option Addr) (n vc : Nat) (w : World) (h : SAt w.cell? (.slice va n vc) l) (hT : STabs w) :
    Calls Tryz.prog 17 #[.agg #[.slice va n vc]] w fun e w' => e = .returned (.int .i64 (subS l)) ∧ Below w.heap.size w w' := by
  have hn := (len_of h.rows).1
  have hm := (len_of h.rows).2
  simp only [List.length_map] at hn
  subst hn
  have hB0 : Below w.heap.size w (w.alloc (.cells #[.slice va l.length vc] 24)) := (Below.refl _ _).alloc (Nat.le_refl _) _
  have hSx := Lib.hid (Own.new w #[.slice va l.length vc] 24)
  have hA := Lib.hid (h.mono (sub_of_below hB0))
  replace hT := Lib.hid (hT.below hB0)
  replace hB0 := Lib.hid hB0
  clear h
  go_enter Tryz.func17, Tryz.ntmps17
  by_cases hlong : 4 < l.length
  · have hQ := Lib.hid (show 5 = subS l by unfold subS; rw [if_pos hlong])
    go_wp2
    go_ret
    exact ⟨text.ret_int hQ.out, hB0.out⟩
  have hQ := Lib.hid (show subS l = subGo none l by unfold subS; rw [if_neg hlong])
  go_wp2_with fail
  generalize w.alloc (.cells #[.slice va l.length vc] 24) = w0 at hB0 hSx hA hT ⊢
  obtain ⟨gs, hgs⟩ : ∃ g : Nat, Hid (g = w.heap.size) := ⟨_, Lib.hid rfl⟩
  rw [← hgs.out] at hSx ⊢
  have hFin : ∀ u, Below w0.heap.size w0 u → Below w.heap.size w u := fun u h => hB0.out.trans (h.mono hB0.out.size)
  replace hFin := Lib.hid hFin
  go_loopw [13] (fun s wr => ∃ k : Nat, k ≤ l.length ∧ s = .int .i64 k ∧ Hid (Below w0.heap.size w0 wr) ∧ Hid (AtC l k)) (fun s _ => l.length - (intOf s).toNat)
  case atStart => exact ⟨0, by omega, rfl, Lib.hid (Below.refl _ _), Lib.hid rfl⟩
  case round =>
    obtain ⟨k, hk, rfl, hBw, hAt⟩ := hrel
    have hSr := hSx.out.below hBw.out hSx.out.lt
    have s0 := hSr.cell 0
    simp only [List.getElem?_toArray, List.getElem?_cons_zero] at s0
    have hsl : gs < wr.heap.size := hSr.lt
    by_cases hlt : k < l.length
    case neg =>
      have hE := Lib.hid ((hAt.out.done hlt).symm.trans hQ.out.symm)
      go_wp2
      go_ret
      exact ⟨text.ret_int hE.out, hFin.out _ hBw.out⟩
    obtain ⟨a0, c0, e1, -, -, h4⟩ := hA.out.rows.mono (sub_of_below hBw.out)
    injection e1 with e1 e2 e3
    subst e1; subst e3; clear e2
    rcases h4 with he | ⟨blk, off, rfl, hc⟩
    · have : l = [] := by simpa using he
      rw [this] at hlt; exact absurd hlt (by simp)
    obtain ⟨c0, c1, c2⟩ := ct_cells hc hlt
    have hSt := hAt.out.step hlt
    have hC := (hA.out.each l[k] (List.getElem_mem hlt)).mono (sub_of_below hBw.out)
    have hPv : (k = 0 ∧ prevC l k = none) ∨ ∃ j, k = j + 1 ∧ ∃ pn : ByteArray, prevC l k = some pn.data.toList ∧ wr.cell? ⟨blk, off + j * 3, none⟩ = some (Value.string pn) := by
      rcases Nat.eq_zero_or_pos k with rfl | hkp
      · exact Or.inl ⟨rfl, rfl⟩
      · obtain ⟨j, rfl⟩ : ∃ j, k = j + 1 := ⟨k - 1, by omega⟩
        exact Or.inr ⟨j, rfl, l[j].kind, prevC_succ (by omega), (ct_cells hc (show j < l.length by omega)).1⟩
    clear hc hAt
    have n0 : (0 : Int) ≤ (k : Int) := by omega
    have n1 : (k : Int) < (l.length : Int) := by omega
    generalize l[k] = at1 at c0 c1 c2 hSt hC
    obtain ⟨ck, cy, cp, cl, cc, ca⟩ := at1
    simp only at c0 c1 c2 hSt hC
    have hblk : blk < wr.heap.size := World.block_lt_of_cell? wr _ c0
    have hbx : Below wr.heap.size wr (wr.alloc (.cells #[.string ck, .string cy, .slice cp cl cc] 37)) := (Below.refl _ _).alloc (Nat.le_refl _) _
    have hX := Lib.hid (Own.new wr #[.string ck, .string cy, .slice cp cl cc] 37)
    replace hC := Lib.hid (hC.mono (sub_of_below hbx))
    have hB1 := Lib.hid (hBw.out.trans (hbx.mono hBw.out.size))
    have hS1 := Lib.hid (hSr.below hbx hSr.lt)
    have hPv1 := Lib.hid (hPv.imp id (fun ⟨j, h1, pn, h2, h3⟩ => (⟨j, h1, pn, h2, cell_later hbx h3⟩ : ∃ j, k = j + 1 ∧ ∃ pn : ByteArray, prevC l k = some pn.data.toList ∧ (wr.alloc (.cells #[.string ck, .string cy, .slice cp cl cc] 37)).cell? ⟨blk, off + j * 3, none⟩ = some (Value.string pn))))
    replace hSt := Lib.hid hSt
    clear hPv hbx hSr
    go_wp2_with fail
    generalize wr.alloc (.cells #[.string ck, .string cy, .slice cp cl cc] 37) = w1 at hX hC hB1 hPv1 hS1 ⊢
    obtain ⟨gx, hgx⟩ : ∃ g : Nat, g = wr.heap.size := ⟨_, rfl⟩
    rw [← hgx] at hX ⊢
    clear hgx c0 c1 c2 hblk s0 hsl
    refine (key_any ck _ (hT.out.below hB1.out).space).mono ?_
    rintro e w2 ⟨rfl, hb2⟩
    have hX2 := Lib.hid (hX.out.below hb2 hX.out.lt)
    have hS2 := Lib.hid (hS1.out.below hb2 hS1.out.lt)
    have hC2 := Lib.hid (hC.out.mono (sub_of_below hb2))
    have hB2 := Lib.hid (hB1.out.trans (hb2.mono hB1.out.size))
    have hD2 := Lib.hid (hb2.size)
    have hPv2 := Lib.hid (hPv1.out.imp id (fun ⟨j, h1, pn, h2, h3⟩ => (⟨j, h1, pn, h2, cell_later hb2 h3⟩ : ∃ j, k = j + 1 ∧ ∃ pn : ByteArray, prevC l k = some pn.data.toList ∧ w2.cell? ⟨blk, off + j * 3, none⟩ = some (Value.string pn))))
    clear hb2 hX hC hB1 hPv1 hS1
    obtain ⟨x0, x1, x2⟩ := own3c hX2.out
    have s0 := hS2.out.cell 0
    simp only [List.getElem?_toArray, List.getElem?_cons_zero] at s0
    have hxl : gx < w2.heap.size := hX2.out.lt
    have hsl : gs < w2.heap.size := hS2.out.lt
    cases hk1 : keyS ck.data.toList with
    | false =>
      have hE := Lib.hid (hQ.out.trans (hSt.out.key hk1))
      clear hk1
      go_wp2
      go_ret
      exact ⟨text.ret_int hE.out.symm, hFin.out _ hB2.out⟩
    | true =>
    replace hk1 := Lib.hid hk1
    rcases hPv2.out with ⟨rfl, hp⟩ | ⟨j, rfl, pn, hp, hpc⟩
    · rw [hp] at hSt
      replace hp := Lib.hid hp
      rw [show ((0 : Nat) : Int) = 0 from rfl]
      go_wp2_with fail
      refine wp_region_quiet_lit (by kernel_rfl) (by kernel_rfl) ?_
      repeat (go_big_quiet_step (fail))
      refine wpQuiet_nil ?_
      intro _ hw'
      obtain ⟨nq, hw''⟩ := hw'
      subst hw''
      have hB3 := Lib.hid (bel_drew hB2.out nq)
      have hC3 := Lib.hid (show CAt (w2.drewN nq).cell? ⟨ck, cy, cp, cl, cc, ca⟩ from hC2.out)
      have hX3 := Lib.hid (hX2.out.drewN nq)
      have hS3 := Lib.hid (hS2.out.drewN nq)
      generalize w2.drewN nq = w3 at hB3 hC3 hX3 hS3 ⊢
      clear x0 x1 x2 s0 hxl hsl
      obtain ⟨x0, x1, x2⟩ := own3c hX3.out
      have hxl : gx < w3.heap.size := hX3.out.lt
      rcases empty_ways cy with ⟨z1, z2, z3, -⟩ | ⟨z1, z2, z3, -⟩
      · have hE := Lib.hid (hQ.out.trans (hSt.out.text hk1.out rfl (Or.inl z1)))
        go_wp2
        go_ret
        exact ⟨text.ret_int hE.out.symm, hFin.out _ hB3.out⟩
      replace z1 := Lib.hid z1
      go_wp2_with fail
      refine (valid_any cy _ (hT.out.below hB3.out).tabs.runes).mono ?_
      rintro e w4 ⟨rfl, hb4⟩
      have hB4 := Lib.hid (hB3.out.trans (hb4.mono hB3.out.size))
      have hX4 := Lib.hid (hX3.out.below hb4 hX3.out.lt)
      have hC4 := Lib.hid (hC3.out.mono (sub_of_below hb4))
      clear hb4 x0 x1 x2 hxl hC3 hX3 hS3 hB3
      obtain ⟨x0, x1, x2⟩ := own3c hX4.out
      have hxl : gx < w4.heap.size := hX4.out.lt
      cases hv : validS cy.data.toList with
      | false =>
        have hE := Lib.hid (hQ.out.trans (hSt.out.text hk1.out rfl (Or.inr hv)))
        clear hv z2 z3
        go_wp2
        go_ret
        exact ⟨text.ret_int hE.out.symm, hFin.out _ hB4.out⟩
      | true =>
      replace hv := Lib.hid hv
      clear z2 z3
      go_wp2_with fail
      refine (attr_any ca cp cl cc _ hC4.out.rows hC4.out.each (hT.out.below hB4.out)).mono ?_
      rintro e w5 ⟨rfl, hb5⟩
      have hB5 := Lib.hid (hB4.out.trans (hb5.mono hB4.out.size))
      clear hb5 x0 x1 x2
      by_cases hcv : attrS ca = 0
      · have hN := Lib.hid (hSt.out.next hk1.out rfl z1.out hv.out hcv)
        rw [hcv]
        go_wp2
        go_roundw
        case rel => exact ⟨1, by omega, by go_num, hB5, hN⟩
        case measure => simp [intOf]; omega
      · have hE := Lib.hid (hQ.out.trans (hSt.out.bad hk1.out rfl z1.out hv.out hcv))
        generalize attrS ca = cv at hcv hE ⊢
        go_wp2
        go_ret
        exact ⟨text.ret_int hE.out.symm, hFin.out _ hB5.out⟩
    · rw [hp] at hSt
      replace hp := Lib.hid hp
      have m0 : (0 : Int) ≤ ((j + 1 : Nat) : Int) := Int.natCast_nonneg _
      have m2 : IntKind.i64.wrap (((j + 1 : Nat) : Int) - 1) = (j : Int) := by rw [IntWalk.i64_in _ (by omega)]; omega
      have m3 : (0 : Int) ≤ (j : Int) := Int.natCast_nonneg _
      have m4 : (j : Int) < (l.length : Int) := by omega
      have m5 : decide ((0 : Int) < ((j + 1 : Nat) : Int)) = true := decide_eq_true (by omega)
      have hblk : blk < w2.heap.size := World.block_lt_of_cell? w2 _ hpc
      cases hless : Op.bytesLess pn.data.toList ck.data.toList with
      | false =>
        have hE := Lib.hid (hQ.out.trans (hSt.out.order hk1.out hless))
        have hb1 := le_of_not hless
        clear hless
        go_wp2_with fail
        refine wp_region_quiet_lit (by kernel_rfl) (by kernel_rfl) ?_
        repeat (go_big_quiet_step (fail))
        refine wpQuiet_nil ?_
        intro _ hw'
        obtain ⟨nq, hw''⟩ := hw'
        subst hw''
        go_wp2
        go_ret
        exact ⟨text.ret_int hE.out.symm, hFin.out _ (bel_drew hB2.out nq)⟩
      | true =>
        have hb1 := not_le_of hless
        replace hless := Lib.hid hless
        go_wp2_with fail
        refine wp_region_quiet_lit (by kernel_rfl) (by kernel_rfl) ?_
        repeat (go_big_quiet_step (fail))
        refine wpQuiet_nil ?_
        intro _ hw'
        obtain ⟨nq, hw''⟩ := hw'
        subst hw''
        clear hpc hb1 m2 m3 m4 m5 hblk
        have hB3 := Lib.hid (bel_drew hB2.out nq)
        have hC3 := Lib.hid (show CAt (w2.drewN nq).cell? ⟨ck, cy, cp, cl, cc, ca⟩ from hC2.out)
        have hX3 := Lib.hid (hX2.out.drewN nq)
        have hS3 := Lib.hid (hS2.out.drewN nq)
        generalize w2.drewN nq = w3 at hB3 hC3 hX3 hS3 ⊢
        clear x0 x1 x2 s0 hxl hsl
        obtain ⟨x0, x1, x2⟩ := own3c hX3.out
        have hxl : gx < w3.heap.size := hX3.out.lt
        rcases empty_ways cy with ⟨z1, z2, z3, -⟩ | ⟨z1, z2, z3, -⟩
        · have hE := Lib.hid (hQ.out.trans (hSt.out.text hk1.out hless.out (Or.inl z1)))
          go_wp2
          go_ret
          exact ⟨text.ret_int hE.out.symm, hFin.out _ hB3.out⟩
        replace z1 := Lib.hid z1
        go_wp2_with fail
        refine (valid_any cy _ (hT.out.below hB3.out).tabs.runes).mono ?_
        rintro e w4 ⟨rfl, hb4⟩
        have hB4 := Lib.hid (hB3.out.trans (hb4.mono hB3.out.size))
        have hX4 := Lib.hid (hX3.out.below hb4 hX3.out.lt)
        have hC4 := Lib.hid (hC3.out.mono (sub_of_below hb4))
        clear hb4 x0 x1 x2 hxl hC3 hX3 hS3 hB3
        obtain ⟨x0, x1, x2⟩ := own3c hX4.out
        have hxl : gx < w4.heap.size := hX4.out.lt
        cases hv : validS cy.data.toList with
        | false =>
          have hE := Lib.hid (hQ.out.trans (hSt.out.text hk1.out hless.out (Or.inr hv)))
          clear hv z2 z3
          go_wp2
          go_ret
          exact ⟨text.ret_int hE.out.symm, hFin.out _ hB4.out⟩
        | true =>
        replace hv := Lib.hid hv
        clear z2 z3
        go_wp2_with fail
        refine (attr_any ca cp cl cc _ hC4.out.rows hC4.out.each (hT.out.below hB4.out)).mono ?_
        rintro e w5 ⟨rfl, hb5⟩
        have hB5 := Lib.hid (hB4.out.trans (hb5.mono hB4.out.size))
        clear hb5 x0 x1 x2
        by_cases hcv : attrS ca = 0
        · have hN := Lib.hid (hSt.out.next hk1.out hless.out z1.out hv.out hcv)
          rw [hcv]
          go_wp2
          go_roundw
          case rel => exact ⟨j + 1 + 1, by omega, by go_num, hB5, hN⟩
          case measure => simp [intOf]; omega
        · have hE := Lib.hid (hQ.out.trans (hSt.out.bad hk1.out hless.out z1.out hv.out hcv))
          generalize attrS ca = cv at hcv hE ⊢
          go_wp2
          go_ret
          exact ⟨text.ret_int hE.out.symm, hFin.out _ hB5.out⟩

end Go.Proofs.YthnjgbjckggjhaaGreatDoor.subj

