/- Which attributes are valid, or the first error: the program's attributes and the reference's. -/
import Derived.Test.YthnjgbjckggjhaaGreatDoorKSuS
import Derived.Test.YthnjgbjckggjhaaGreatDoorKClL
import Derived.Test.YthnjgbjckggjhaaGreatDoorKValG
import Derived.BigQuiet
import Derived.IntWalk
namespace Go.Proofs.YthnjgbjckggjhaaGreatDoor.subj
open Go.RowKit Go.Proofs.YthnjgbjckggjhaaGreatDoor Go.Proofs.YthnjgbjckggjhaaGreatDoor.schema Go.Proofs.YthnjgbjckggjhaaGreatDoor.value Go.Proofs.YthnjgbjckggjhaaGreatDoor.text Go.Proofs.YthnjgbjckggjhaaGreatDoor.clause Go.Proofs.YthnjgbjckggjhaaGreatDoor.draw

/-- What the walks over subjects lean on. -/
structure STabs (w : World) : Prop where
  tabs : Tabs w
  space : SpaceTab w
theorem STabs.below {w w' : World} (h : STabs w) (hb : Below w.heap.size w w') : STabs w' := ⟨h.tabs.below hb, var_below hb h.space⟩
theorem lin_rows {w : World} {a : Option Addr} {n c : Nat} {ls : List ByteArray} (h : RowsAt w.cell? 1 (.slice a n c) (ls.map strRow)) : LIn w a ls := by
  obtain ⟨a0, c0, h1, h2, h3, h4⟩ := h
  injection h1 with e1 e2 e3
  subst e1
  rcases h4 with h4 | ⟨blk, off, rfl, hc⟩
  · exact Or.inl (by simpa using h4)
  · refine Or.inr ⟨blk, off, rfl, fun k hk => ?_⟩
    have := hc k (strRow ls[k]) (by simp [hk]) 0 (.string ls[k]) rfl
    rw [Nat.mul_one, Nat.add_zero] at this
    exact this
theorem ls_len {m : Mem} {d : VD} (h : LAt m d) : d.len = d.ls.length := by have := (len_of h.rows).1; simpa using this
theorem lat_ok {w : World} {d : VD} (h : LAt w.cell? d) : VOk w (vv d) d.text d.ptr d.ls := ⟨rfl, lin_rows h.rows, rfl⟩
/-- Both Checks of a value. -/
theorem vcheck_any (d : VD) (w : World) (h : LAt w.cell? d) (hT : Tabs w) :
    Calls Tryz.prog 47 #[.agg #[.int .i64 d.kind, .int .i64 d.num, .string d.text, .slice d.ptr d.len d.cap]] w fun e w' => e = .returned (.int .i64 (checkS (vv d))) ∧ Below w.heap.size w w' := by
  rw [ls_len h]
  exact check_any (vv d) d.text d.ptr d.cap d.ls w (lat_ok h) (by have := h.few; omega) h.text hT
theorem key_no {s : ByteArray} {b : Bool} (h : (s.data.toList == [107, 101, 121]) = b) : (s.toList == [107, 101, 121]) = b := by rw [ByteArray.toList_eq]; exact h
/-- A name is not behind the one before it, in the walk's own spelling. -/
theorem le_of_not {a b : ByteArray} (h : Op.bytesLess a.data.toList b.data.toList = false) : (Op.bytesLess b.toList a.toList || b.toList == a.toList) = true := by
  rw [ByteArray.toList_eq, ByteArray.toList_eq]
  have := less_tri a.data.toList b.data.toList
  rw [h] at this
  cases hx : (Op.bytesLess b.data.toList a.data.toList || b.data.toList == a.data.toList) with
  | true => rfl
  | false => rw [hx] at this; cases this
theorem not_le_of {a b : ByteArray} (h : Op.bytesLess a.data.toList b.data.toList = true) : (Op.bytesLess b.toList a.toList || b.toList == a.toList) = false := by
  rw [ByteArray.toList_eq, ByteArray.toList_eq]
  have := less_tri a.data.toList b.data.toList
  rw [h] at this
  cases hx : (Op.bytesLess b.data.toList a.data.toList || b.data.toList == a.data.toList) with
  | false => rfl
  | true => rw [hx] at this; cases this

/-- What one attribute does to the first error. -/
structure Step (l : List AD) (k : Nat) (a : AD) (late : Bool) : Prop where
  key : keyS a.name.data.toList = false ∨ (a.name.data.toList == [107, 101, 121]) = true → attrGo none l = 6
  order : keyS a.name.data.toList = true → (a.name.data.toList == [107, 101, 121]) = false → late = false → attrGo none l = 9
  bad : keyS a.name.data.toList = true → (a.name.data.toList == [107, 101, 121]) = false → late = true → checkS (vv a.val) ≠ 0 → attrGo none l = checkS (vv a.val)
  next : keyS a.name.data.toList = true → (a.name.data.toList == [107, 101, 121]) = false → late = true → checkS (vv a.val) = 0 → AtA l (k + 1)
theorem AtA.step {l : List AD} {k : Nat} (T : AtA l k) (h : k < l.length) : Step l k l[k] (lateS (prevA l k) l[k].name.data.toList) :=
  ⟨T.key h, T.order h, T.bad h, T.next h⟩

set_option maxRecDepth 100000 in
set_option maxHeartbeats 8000000 in
theorem attr_any (l : List AD) (va : Option Addr) (n vc : Nat) (w : World) (h : RowsAt w.cell? 5 (.slice va n vc) (l.map AD.row)) (hL : ∀ a ∈ l, LAt w.cell? a.val) (hT : STabs w) :
    Calls Tryz.prog 31 #[.slice va n vc] w fun e w' => e = .returned (.int .i64 (attrS l)) ∧ Below w.heap.size w w' := by
  have hn := (len_of h).1
  have hm := (len_of h).2
  simp only [List.length_map] at hn
  subst hn
  obtain ⟨a0, c0, h1, -, -, h4⟩ := h
  injection h1 with e1 e2 e3
  subst e1; subst e3; clear e2
  replace h4 := Lib.hid h4
  replace hL := Lib.hid hL
  replace hT := Lib.hid hT
  go_enter Tryz.func31, Tryz.ntmps31
  by_cases hlong : 20 < l.length
  · have hQ := Lib.hid (show 5 = attrS l by unfold attrS; rw [if_pos hlong])
    go_wp2
    go_ret
    exact ⟨text.ret_int hQ.out, Below.refl _ _⟩
  have hQ := Lib.hid (show attrS l = attrGo none l by unfold attrS; rw [if_neg hlong])
  go_wp2_with fail
  go_loopw [11] (fun s wr => ∃ k : Nat, k ≤ l.length ∧ s = .int .i64 k ∧ Hid (Below w.heap.size w wr) ∧ Hid (AtA l k)) (fun s _ => l.length - (intOf s).toNat)
  case atStart => exact ⟨0, by omega, rfl, Lib.hid (Below.refl _ _), Lib.hid rfl⟩
  case round =>
    obtain ⟨k, hk, rfl, hBw, hAt⟩ := hrel
    by_cases hlt : k < l.length
    case neg =>
      have hE := Lib.hid ((hAt.out.done hlt).symm.trans hQ.out.symm)
      go_wp2
      go_ret
      exact ⟨text.ret_int hE.out, hBw.out⟩
    rcases h4.out with he | ⟨blk, off, rfl, hc⟩
    · have : l = [] := by simpa using he
      rw [this] at hlt; exact absurd hlt (by simp)
    replace hc := RowsAt.cells_mono (sub_of_below hBw.out) hc
    obtain ⟨a0, a1, a2, a3, a4⟩ := ad_cells hc hlt
    have hSt := hAt.out.step hlt
    have hV := (hL.out l[k] (List.getElem_mem hlt)).mono (sub_of_below hBw.out)
    have hPv : (k = 0 ∧ prevA l k = none) ∨ ∃ j, k = j + 1 ∧ ∃ pn : ByteArray, prevA l k = some pn.data.toList ∧ wr.cell? ⟨blk, off + j * 5, none⟩ = some (Value.string pn) := by
      rcases Nat.eq_zero_or_pos k with rfl | hkp
      · exact Or.inl ⟨rfl, rfl⟩
      · obtain ⟨j, rfl⟩ : ∃ j, k = j + 1 := ⟨k - 1, by omega⟩
        exact Or.inr ⟨j, rfl, l[j].name, prevA_succ (by omega), (ad_cells hc (show j < l.length by omega)).1⟩
    clear hc hAt
    have n0 : (0 : Int) ≤ (k : Int) := by omega
    have n1 : (k : Int) < (l.length : Int) := by omega
    generalize l[k] = at1 at a0 a1 a2 a3 a4 hSt hV
    obtain ⟨an, av⟩ := at1
    simp only at a0 a1 a2 a3 a4 hSt hV
    have hblk : blk < wr.heap.size := World.block_lt_of_cell? wr _ a0
    have hbx : Below wr.heap.size wr (wr.alloc (.cells #[.string an, .int .i64 av.kind, .int .i64 av.num, .string av.text, .slice av.ptr av.len av.cap] 56)) := (Below.refl _ _).alloc (Nat.le_refl _) _
    have hX := Lib.hid (Own.new wr #[.string an, .int .i64 av.kind, .int .i64 av.num, .string av.text, .slice av.ptr av.len av.cap] 56)
    replace hV := Lib.hid (hV.mono (sub_of_below hbx))
    have hB1 := Lib.hid (hBw.out.trans (hbx.mono hBw.out.size))
    have hPv1 := Lib.hid (hPv.imp id (fun ⟨j, h1, pn, h2, h3⟩ => (⟨j, h1, pn, h2, cell_later hbx h3⟩ : ∃ j, k = j + 1 ∧ ∃ pn : ByteArray, prevA l k = some pn.data.toList ∧ (wr.alloc (.cells #[.string an, .int .i64 av.kind, .int .i64 av.num, .string av.text, .slice av.ptr av.len av.cap] 56)).cell? ⟨blk, off + j * 5, none⟩ = some (Value.string pn))))
    replace hSt := Lib.hid hSt
    clear hPv hbx
    go_wp2_with fail
    generalize wr.alloc (.cells #[.string an, .int .i64 av.kind, .int .i64 av.num, .string av.text, .slice av.ptr av.len av.cap] 56) = w1 at hX hV hB1 hPv1 ⊢
    obtain ⟨gx, hgx⟩ : ∃ g : Nat, g = wr.heap.size := ⟨_, rfl⟩
    rw [← hgx] at hX ⊢
    clear hgx a0 a1 a2 a3 a4 hblk
    refine (key_any an _ (hT.out.below hB1.out).space).mono ?_
    rintro e w2 ⟨rfl, hb2⟩
    have hX2 := Lib.hid (hX.out.below hb2 hX.out.lt)
    have hV2 := Lib.hid (hV.out.mono (sub_of_below hb2))
    have hB2 := Lib.hid (hB1.out.trans (hb2.mono hB1.out.size))
    have hPv2 := Lib.hid (hPv1.out.imp id (fun ⟨j, h1, pn, h2, h3⟩ => (⟨j, h1, pn, h2, cell_later hb2 h3⟩ : ∃ j, k = j + 1 ∧ ∃ pn : ByteArray, prevA l k = some pn.data.toList ∧ w2.cell? ⟨blk, off + j * 5, none⟩ = some (Value.string pn))))
    clear hb2 hX hV hB1 hPv1 hBw
    obtain ⟨x0, x1, x2, x3, x4⟩ := own5z hX2.out
    have hxl : gx < w2.heap.size := hX2.out.lt
    cases hk1 : keyS an.data.toList with
    | false =>
      have hE := Lib.hid (hQ.out.trans (hSt.out.key (Or.inl hk1)))
      clear hk1
      go_wp2
      go_ret
      exact ⟨text.ret_int hE.out.symm, hB2.out⟩
    | true =>
    replace hk1 := Lib.hid hk1
    cases hk2 : (an.data.toList == [107, 101, 121]) with
    | true =>
      have hE := Lib.hid (hQ.out.trans (hSt.out.key (Or.inr hk2)))
      have hk3 := key_no hk2
      clear hk2
      go_wp2
      go_ret
      exact ⟨text.ret_int hE.out.symm, hB2.out⟩
    | false =>
    have hk3 := key_no hk2
    replace hk2 := Lib.hid hk2
    rcases hPv2.out with ⟨rfl, hp⟩ | ⟨j, rfl, pn, hp, hpc⟩
    · rw [hp] at hSt
      replace hp := Lib.hid hp
      rw [show ((0 : Nat) : Int) = 0 from rfl]
      go_wp2_with fail
      refine wp_region_quiet_lit (by kernel_rfl) (by kernel_rfl) ?_
      repeat (go_big_quiet_step (fail))
      refine wpQuiet_nil ?_
      intro _ hw'
      obtain ⟨nq, hw''⟩ := hw'
      subst hw''
      have hB3 := Lib.hid (bel_drew hB2.out nq)
      have hV3 := Lib.hid (show LAt (w2.drewN nq).cell? av from hV2.out)
      have hX3 := Lib.hid (hX2.out.drewN nq)
      generalize w2.drewN nq = w3 at hB3 hV3 hX3 ⊢
      clear x0 x1 x2 x3 x4 hxl
      obtain ⟨x0, x1, x2, x3, x4⟩ := own5z hX3.out
      have hxl : gx < w3.heap.size := hX3.out.lt
      go_wp2_with fail
      refine (vcheck_any av _ hV3.out (hT.out.below hB3.out).tabs).mono ?_
      rintro e w4 ⟨rfl, hb4⟩
      have hB4 := Lib.hid (hB3.out.trans (hb4.mono hB3.out.size))
      clear hb4 x0 x1 x2 x3 x4
      by_cases hcv : checkS (vv av) = 0
      · have hN := Lib.hid (hSt.out.next hk1.out hk2.out rfl hcv)
        rw [hcv]
        go_wp2
        go_roundw
        case rel => exact ⟨1, by omega, by go_num, hB4, hN⟩
        case measure => simp [intOf]; omega
      · have hE := Lib.hid (hQ.out.trans (hSt.out.bad hk1.out hk2.out rfl hcv))
        generalize checkS (vv av) = cv at hcv hE ⊢
        go_wp2
        go_ret
        exact ⟨text.ret_int hE.out.symm, hB4.out⟩
    · rw [hp] at hSt
      replace hp := Lib.hid hp
      have m0 : (0 : Int) ≤ ((j + 1 : Nat) : Int) := Int.natCast_nonneg _
      have m2 : IntKind.i64.wrap (((j + 1 : Nat) : Int) - 1) = (j : Int) := by rw [IntWalk.i64_in _ (by omega)]; omega
      have m3 : (0 : Int) ≤ (j : Int) := Int.natCast_nonneg _
      have m4 : (j : Int) < (l.length : Int) := by omega
      have m5 : decide ((0 : Int) < ((j + 1 : Nat) : Int)) = true := decide_eq_true (by omega)
      have hblk : blk < w2.heap.size := World.block_lt_of_cell? w2 _ hpc
      cases hless : Op.bytesLess pn.data.toList an.data.toList with
      | false =>
        have hE := Lib.hid (hQ.out.trans (hSt.out.order hk1.out hk2.out hless))
        have hb1 := le_of_not hless
        clear hless
        go_wp2_with fail
        refine wp_region_quiet_lit (by kernel_rfl) (by kernel_rfl) ?_
        repeat (go_big_quiet_step (fail))
        refine wpQuiet_nil ?_
        intro _ hw'
        obtain ⟨nq, hw''⟩ := hw'
        subst hw''
        go_wp2
        go_ret
        exact ⟨text.ret_int hE.out.symm, bel_drew hB2.out nq⟩
      | true =>
        have hb1 := not_le_of hless
        replace hless := Lib.hid hless
        go_wp2_with fail
        refine wp_region_quiet_lit (by kernel_rfl) (by kernel_rfl) ?_
        repeat (go_big_quiet_step (fail))
        refine wpQuiet_nil ?_
        intro _ hw'
        obtain ⟨nq, hw''⟩ := hw'
        subst hw''
        have hB3 := Lib.hid (bel_drew hB2.out nq)
        have hV3 := Lib.hid (show LAt (w2.drewN nq).cell? av from hV2.out)
        have hX3 := Lib.hid (hX2.out.drewN nq)
        clear hpc hb1 m2 m3 m4 m5 hblk
        generalize w2.drewN nq = w3 at hB3 hV3 hX3 ⊢
        clear x0 x1 x2 x3 x4 hxl
        obtain ⟨x0, x1, x2, x3, x4⟩ := own5z hX3.out
        have hxl : gx < w3.heap.size := hX3.out.lt
        go_wp2_with fail
        refine (vcheck_any av _ hV3.out (hT.out.below hB3.out).tabs).mono ?_
        rintro e w4 ⟨rfl, hb4⟩
        have hB4 := Lib.hid (hB3.out.trans (hb4.mono hB3.out.size))
        clear hb4 x0 x1 x2 x3 x4
        by_cases hcv : checkS (vv av) = 0
        · have hN := Lib.hid (hSt.out.next hk1.out hk2.out hless.out hcv)
          rw [hcv]
          go_wp2
          go_roundw
          case rel => exact ⟨j + 1 + 1, by omega, by go_num, hB4, hN⟩
          case measure => simp [intOf]; omega
        · have hE := Lib.hid (hQ.out.trans (hSt.out.bad hk1.out hk2.out hless.out hcv))
          generalize checkS (vv av) = cv at hcv hE ⊢
          go_wp2
          go_ret
          exact ⟨text.ret_int hE.out.symm, hB4.out⟩

/-- The names of attributes and the kinds are not without bound. -/
def NmA (l : List AD) : Prop := ∀ a ∈ l, a.name.size ≤ 1048576
def Nm (l : List CT) : Prop := ∀ c ∈ l, c.kind.size ≤ 1048576 ∧ NmA c.attrs

end Go.Proofs.YthnjgbjckggjhaaGreatDoor.subj

