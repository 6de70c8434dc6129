/- Whether a condition holds: the reference's Eval. -/
import Derived.Test.YtlohdmghaeabjaaGreatDoorKClE
import Derived.Test.YtlohdmghaeabjaaGreatDoorKClV
namespace Go.Proofs.YtlohdmghaeabjaaGreatDoor.clause
open Go.RowKit Go.Sort Go.Proofs.YtlohdmghaeabjaaGreatDoor Go.Proofs.YtlohdmghaeabjaaGreatDoor.schema Go.Proofs.YtlohdmghaeabjaaGreatDoor.value Go.Proofs.YtlohdmghaeabjaaGreatDoor.text Go.Proofs.YtlohdmghaeabjaaGreatDoor.draw

set_option maxRecDepth 100000 in
set_option maxHeartbeats 4000000 in
theorem reval_step (l : List CT) (a : Option Addr) (n c : Nat) (inn : List ByteArray) (ia : Option Addr) (i ic : Nat) (m : Mem) (hS : SAt m (.slice a n c) l) (hin : RowsAt m 1 (.slice ia i ic) (inn.map strRow))
    (op : Int) (kind name : ByteArray) (vals : List VD) (kids : List ED) (vs ks : Value) (rows : List (List Value)) (hv : RowsAt m 4 vs (vals.map VD.row)) (hk : RowsAt m 5 ks rows) (hl : rows.length = kids.length) (hL : ∀ v ∈ vals, LAt m v)
    (hE : ∀ (i : Nat) (r : List Value) (k : ED), rows[i]? = some r → kids[i]? = some k → EAt m k r)
    (ih : ∀ (j : Nat) (r : List Value) (k : ED), rows[j]? = some r → kids[j]? = some k → EvalOk 24 l (.slice a n c) inn (.slice ia i ic) m k r) :
    EvalOk 24 l (.slice a n c) inn (.slice ia i ic) m (.mk op kind name vals kids) [.int .i64 op, .string kind, .string name, vs, ks] := by
  intro w hs hT
  obtain ⟨va, vn, vc, rfl⟩ : ∃ a n c, vs = .slice a n c := by obtain ⟨a, c, h, -⟩ := hv; exact ⟨_, _, _, h⟩
  obtain ⟨ka, kn, kc, rfl⟩ : ∃ a n c, ks = .slice a n c := by obtain ⟨a, c, h, -⟩ := hk; exact ⟨_, _, _, h⟩
  have hB : Below w.heap.size w ((w.alloc (.cells #[.slice a n c] 25)).alloc (.cells #[.int .i64 op, .string kind, .string name, .slice va vn vc, .slice ka kn kc] 29)) := ((Below.refl _ _).alloc (Nat.le_refl _) _).alloc (by simp) _
  have hbs := (Own.new w #[.slice a n c] 25).alloc (.cells #[.int .i64 op, .string kind, .string name, .slice va vn vc, .slice ka kn kc] 29)
  have hbe := Own.new (w.alloc (.cells #[.slice a n c] 25)) #[.int .i64 op, .string kind, .string name, .slice va vn vc, .slice ka kn kc] 29
  rw [World.size_alloc] at hbe
  have hs1 := Lib.hid (hs.trans (sub_of_below hB))
  have hT1 := Lib.hid (hT.below hB)
  replace hB := Lib.hid hB
  have hQ := Lib.hid (show evalS l inn (.mk op kind name vals kids) = _ from evalS.eq_1 l inn op kind name vals kids)
  replace hS := Lib.hid hS
  replace hin := Lib.hid hin
  replace hv := Lib.hid hv
  replace hk := Lib.hid hk
  replace hL := Lib.hid hL
  replace hE := Lib.hid hE
  replace ih := Lib.hid ih
  clear hs hT
  go_enter Tryz.func24, Tryz.ntmps24
  go_upto_region 1 with fail
  generalize (w.alloc (.cells #[.slice a n c] 25)).alloc (.cells #[.int .i64 op, .string kind, .string name, .slice va vn vc, .slice ka kn kc] 29) = w1 at hB hbs hbe hs1 hT1 ⊢
  obtain ⟨Bs, hBs⟩ : ∃ B : Nat, B = w.heap.size := ⟨_, rfl⟩
  obtain ⟨Be, hBe⟩ : ∃ B : Nat, B = w.heap.size + 1 := ⟨_, rfl⟩
  rw [← hBe] at hbe ⊢
  rw [← hBs] at hbs ⊢
  clear hBs hBe
  replace hbs := Lib.hid hbs
  obtain ⟨x0, x1, x2, x3, x4⟩ := own5z hbe
  have hel : Be < w1.heap.size := hbe.lt
  have hsl : Bs < w1.heap.size := hbs.out.lt
  have s0 := hbs.out.cell 0
  simp only [List.getElem?_toArray, List.getElem?_cons_zero] at s0
  replace hbe := Lib.hid hbe
  have hkn := (len_of hk.out).1
  have hkm := (len_of hk.out).2
  rw [hl] at hkn
  subst hkn
  replace hl := Lib.hid hl
  by_cases h1 : op = 1
  · subst h1
    go_wp2
    go_ret
    exact ⟨ret_to (by rw [hQ.out]; rfl), hB.out⟩
  by_cases h2 : op = 2
  · subst h2
    have hQ2 := Lib.hid (show evalS l inn (.mk 2 kind name vals kids) = !kids.any (fun k => !evalS l inn k) by rw [hQ.out, if_neg (by decide), if_pos rfl]; exact all_any l inn kids)
    go_wp2_with fail
    go_loopw [7] (fun s7 wr => ∃ k : Nat, k ≤ kids.length ∧ s7 = .int .i64 k ∧ Hid (Below w1.heap.size w1 wr) ∧ Hid (AnyE (fun k => !evalS l inn k) kids k)) (fun s7 _ => kids.length - (intOf s7).toNat)
    case atStart => exact ⟨0, Nat.zero_le _, rfl, Lib.hid (Below.refl _ _), Lib.hid rfl⟩
    case round =>
      clear x0 x1 x2 x3 x4 s0
      obtain ⟨k, hk1, rfl, hb, hT⟩ := hrel
      have hbx := hbe.out.below hb.out hel
      have hbsx := hbs.out.below hb.out hsl
      obtain ⟨x0, x1, x2, x3, x4⟩ := own5z hbx
      have s0 := hbsx.cell 0
      simp only [List.getElem?_toArray, List.getElem?_cons_zero] at s0
      have hew : Be < wr.heap.size := hbx.lt
      have hsw : Bs < wr.heap.size := hbsx.lt
      have hBw := Lib.hid (hB.out.trans (hb.out.mono hB.out.size))
      clear hbx hbsx
      by_cases hlt : k < kids.length
      case neg =>
        have hE1 := Lib.hid (show evalS l inn (.mk 2 kind name vals kids) = true by rw [hQ2.out, anyE_end hlt hT.out] <;> rfl)
        go_wp2
        go_ret
        exact ⟨ret_to hE1.out, hBw.out⟩
      obtain ⟨blk, off, op', kind', name', va', vn', vc', ka', kn', kc', rfl, c0, c1, c2, c3, c4, hr⟩ := kid_at (hk.out.mono (hs1.out.trans (sub_of_below hb.out))) hl.out (fun j r k h1 h2 => hE.out j r k h1 h2) hlt
      have n0 : (0 : Int) ≤ (k : Int) := by omega
      have n1 : (k : Int) < (kids.length : Int) := by omega
      have k0 := cell_regrown c0
      have k1 := cell_regrown c1
      have k2 := cell_regrown c2
      have k3 := cell_regrown c3
      have k4 := cell_regrown c4
      have m4 := cell_regrown x4
      have t0 := cell_regrown s0
      have cK := Lib.hid (fun (dq : Nat) (os : Array Obj) => Calls.regrown_of (ih.out k _ kids[k] hr (List.getElem?_eq_getElem hlt) (Sort.grow (redrawn wr dq) os) ((hs1.out.trans (sub_of_below hb.out)).trans (sub_of_below (below_regrown wr dq os))) ((hT1.out.below hb.out).below (below_regrown wr dq os))))
      have hHit := Lib.hid (fun h1 => anyE_hit hlt h1 hT.out)
      have hMiss := Lib.hid (fun h1 => anyE_miss hlt h1 hT.out)
      clear c0 c1 c2 c3 c4 hr
      generalize kids[k] = kd at cK hHit hMiss
      go_wp2_with fail
      refine wp_region_quiet_below (by kernel_rfl) (by kernel_rfl) ?_
      repeat (go_big_quiet_step (exact cK.out _ _))
      refine wpQuiet_nil ?_
      intro _ hw'
      obtain ⟨⟨dq, osq⟩, hw''⟩ := hw'
      subst hw''
      have hbr := Lib.hid (hb.out.trans ((below_regrown wr dq osq).mono hb.out.size))
      have hBr := Lib.hid (hBw.out.trans ((below_regrown wr dq osq).mono hBw.out.size))
      clear cK k0 k1 k2 k3 k4 m4 t0 x0 x1 x2 x3 x4 s0
      generalize Sort.grow (redrawn wr dq) osq = w5 at hbr hBr ⊢
      cases he : evalS l inn kd with
      | false =>
        have hq := Lib.hid (show evalS l inn (.mk 2 kind name vals kids) = false by rw [hQ2.out, hHit.out (by simp [he])] <;> rfl)
        clear hHit hMiss
        go_wp2
        go_ret
        exact ⟨ret_to hq.out, hBr.out⟩
      | true =>
        have hq := Lib.hid (hMiss.out (by simp [he]))
        clear hHit hMiss
        go_wp2
        go_roundw
        case rel => exact ⟨k + 1, by omega, by go_num, hbr, hq⟩
        case measure => simp [intOf]; omega
  by_cases h3 : op = 3
  · subst h3
    have hQ2 := Lib.hid (show evalS l inn (.mk 3 kind name vals kids) = kids.any (evalS l inn) by rw [hQ.out, if_neg (by decide), if_neg (by decide), if_pos rfl]; exact any_any' l inn kids)
    go_wp2_with fail
    go_loopw [8] (fun s7 wr => ∃ k : Nat, k ≤ kids.length ∧ s7 = .int .i64 k ∧ Hid (Below w1.heap.size w1 wr) ∧ Hid (AnyE (evalS l inn) kids k)) (fun s7 _ => kids.length - (intOf s7).toNat)
    case atStart => exact ⟨0, Nat.zero_le _, rfl, Lib.hid (Below.refl _ _), Lib.hid rfl⟩
    case round =>
      clear x0 x1 x2 x3 x4 s0
      obtain ⟨k, hk1, rfl, hb, hT⟩ := hrel
      have hbx := hbe.out.below hb.out hel
      have hbsx := hbs.out.below hb.out hsl
      obtain ⟨x0, x1, x2, x3, x4⟩ := own5z hbx
      have s0 := hbsx.cell 0
      simp only [List.getElem?_toArray, List.getElem?_cons_zero] at s0
      have hew : Be < wr.heap.size := hbx.lt
      have hsw : Bs < wr.heap.size := hbsx.lt
      have hBw := Lib.hid (hB.out.trans (hb.out.mono hB.out.size))
      clear hbx hbsx
      by_cases hlt : k < kids.length
      case neg =>
        have hE1 := Lib.hid (show evalS l inn (.mk 3 kind name vals kids) = false by rw [hQ2.out, anyE_end hlt hT.out] <;> rfl)
        go_wp2
        go_ret
        exact ⟨ret_to hE1.out, hBw.out⟩
      obtain ⟨blk, off, op', kind', name', va', vn', vc', ka', kn', kc', rfl, c0, c1, c2, c3, c4, hr⟩ := kid_at (hk.out.mono (hs1.out.trans (sub_of_below hb.out))) hl.out (fun j r k h1 h2 => hE.out j r k h1 h2) hlt
      have n0 : (0 : Int) ≤ (k : Int) := by omega
      have n1 : (k : Int) < (kids.length : Int) := by omega
      have k0 := cell_regrown c0
      have k1 := cell_regrown c1
      have k2 := cell_regrown c2
      have k3 := cell_regrown c3
      have k4 := cell_regrown c4
      have m4 := cell_regrown x4
      have t0 := cell_regrown s0
      have cK := Lib.hid (fun (dq : Nat) (os : Array Obj) => Calls.regrown_of (ih.out k _ kids[k] hr (List.getElem?_eq_getElem hlt) (Sort.grow (redrawn wr dq) os) ((hs1.out.trans (sub_of_below hb.out)).trans (sub_of_below (below_regrown wr dq os))) ((hT1.out.below hb.out).below (below_regrown wr dq os))))
      have hHit := Lib.hid (fun h1 => anyE_hit hlt h1 hT.out)
      have hMiss := Lib.hid (fun h1 => anyE_miss hlt h1 hT.out)
      clear c0 c1 c2 c3 c4 hr
      generalize kids[k] = kd at cK hHit hMiss
      go_wp2_with fail
      refine wp_region_quiet_below (by kernel_rfl) (by kernel_rfl) ?_
      repeat (go_big_quiet_step (exact cK.out _ _))
      refine wpQuiet_nil ?_
      intro _ hw'
      obtain ⟨⟨dq, osq⟩, hw''⟩ := hw'
      subst hw''
      have hbr := Lib.hid (hb.out.trans ((below_regrown wr dq osq).mono hb.out.size))
      have hBr := Lib.hid (hBw.out.trans ((below_regrown wr dq osq).mono hBw.out.size))
      clear cK k0 k1 k2 k3 k4 m4 t0 x0 x1 x2 x3 x4 s0
      generalize Sort.grow (redrawn wr dq) osq = w5 at hbr hBr ⊢
      cases he : evalS l inn kd with
      | true =>
        have hq := Lib.hid (show evalS l inn (.mk 3 kind name vals kids) = true by rw [hQ2.out, hHit.out (by simp [he])] <;> rfl)
        clear hHit hMiss
        go_wp2
        go_ret
        exact ⟨ret_to hq.out, hBr.out⟩
      | false =>
        have hq := Lib.hid (hMiss.out (by simp [he]))
        clear hHit hMiss
        go_wp2
        go_roundw
        case rel => exact ⟨k + 1, by omega, by go_num, hbr, hq⟩
        case measure => simp [intOf]; omega
  by_cases h4 : op = 4
  · subst h4
    cases kids with
    | nil =>
      have hQ2 := Lib.hid (show evalS l inn (.mk 4 kind name vals []) = false by rw [hQ.out, if_neg (by decide), if_neg (by decide), if_neg (by decide), if_pos rfl]; rfl)
      go_wp2_with fail
      go_quiet (fail)
      go_wp2
      go_ret
      exact ⟨ret_to hQ2.out, bel_drew hB.out _⟩
    | cons k0 kr =>
      have hQ2 := Lib.hid (show evalS l inn (.mk 4 kind name vals (k0 :: kr)) = !evalS l inn k0 by rw [hQ.out, if_neg (by decide), if_neg (by decide), if_neg (by decide), if_pos rfl]; rfl)
      obtain ⟨blk, off, op', kind', name', va', vn', vc', ka', kn', kc', rfl, c0, c1, c2, c3, c4, hr⟩ := kid_at (k := 0) (hk.out.mono hs1.out) hl.out (fun j r k h1 h2 => hE.out j r k h1 h2) (by simp)
      simp only [Nat.zero_mul, Nat.add_zero] at c0 c1 c2 c3 c4
      have k0' := cell_regrown c0
      have k1 := cell_regrown c1
      have k2 := cell_regrown c2
      have k3 := cell_regrown c3
      have k4 := cell_regrown c4
      have m4 := cell_regrown x4
      have t0 := cell_regrown s0
      have cK := Lib.hid (fun (dq : Nat) (os : Array Obj) => Calls.regrown_of (ih.out 0 _ k0 hr rfl (Sort.grow (redrawn w1 dq) os) (hs1.out.trans (sub_of_below (below_regrown w1 dq os))) (hT1.out.below (below_regrown w1 dq os))))
      have hp : (0 : Int) < ((kr.length : Int) + 1) := by omega
      have hp2 : decide ((0 : Int) < ((kr.length : Int) + 1)) = true := decide_eq_true hp
      generalize evalS l inn k0 = bb at hQ2 cK
      clear c0 c1 c2 c3 c4 hr
      go_wp2_with fail
      refine wp_region_quiet_below (by kernel_rfl) (by kernel_rfl) ?_
      repeat (go_big_quiet_step (exact cK.out _ _))
      refine wpQuiet_nil ?_
      intro _ hw'
      obtain ⟨⟨dq, osq⟩, hw''⟩ := hw'
      subst hw''
      have hBr := Lib.hid (hB.out.trans ((below_regrown w1 dq osq).mono hB.out.size))
      clear cK k0' k1 k2 k3 k4 m4 t0 x0 x1 x2 x3 x4 s0
      generalize Sort.grow (redrawn w1 dq) osq = w5 at hBr ⊢
      go_wp2
      go_ret
      exact ⟨ret_to hQ2.out, hBr.out⟩
  by_cases h5 : op = 5
  · subst h5
    have hQ2 := Lib.hid (show evalS l inn (.mk 5 kind name vals kids) = hasS name.toList inn by rw [hQ.out, if_neg (by decide), if_neg (by decide), if_neg (by decide), if_neg (by decide), if_pos rfl])
    go_wp2_with fail
    refine (has_any _ inn name _ (hin.out.mono hs1.out)).mono ?_
    rintro e w3 ⟨rfl, rfl⟩
    generalize hasS name.toList inn = bb at hQ2 ⊢
    go_wp2
    go_ret
    exact ⟨ret_to hQ2.out, hB.out⟩
  have hQ2 := Lib.hid (show evalS l inn (.mk op kind name vals kids) = testS l op kind name vals by rw [hQ.out, if_neg h1, if_neg h2, if_neg h3, if_neg h4, if_neg h5])
  have e1 : (op == 1) = false := by simpa using h1
  have e2 : (op == 2) = false := by simpa using h2
  have e3 : (op == 3) = false := by simpa using h3
  have e4 : (op == 4) = false := by simpa using h4
  have e5 : (op == 5) = false := by simpa using h5
  go_wp2_with fail
  refine (clTest_ref l a n c op kind name va vn vc ka kids.length kc vals _ (hS.out.mono hs1.out) (hv.out.mono hs1.out) (fun v hm => (hL.out v hm).mono hs1.out) hT1.out).mono ?_
  rintro e w3 ⟨rfl, hb⟩
  have hB3 := Lib.hid (hB.out.trans (hb.mono hB.out.size))
  clear hb
  generalize testS l op kind name vals = bb at hQ2 ⊢
  go_wp2
  go_ret
  exact ⟨ret_to hQ2.out, hB3.out⟩

/-- The reference's Eval. -/
theorem eval_ref (l : List CT) (a : Option Addr) (n c : Nat) (inn : List ByteArray) (ia : Option Addr) (i ic : Nat) (m : Mem) (hS : SAt m (.slice a n c) l) (hin : RowsAt m 1 (.slice ia i ic) (inn.map strRow)) (d : ED) (r : List Value) (h : EAt m d r) :
    EvalOk 24 l (.slice a n c) inn (.slice ia i ic) m d r := by
  induction h with
  | mk rows hv hk hl hL hE ih => exact reval_step l a n c inn ia i ic m hS hin _ _ _ _ _ _ _ rows hv hk hl hL hE ih

end Go.Proofs.YtlohdmghaeabjaaGreatDoor.clause

