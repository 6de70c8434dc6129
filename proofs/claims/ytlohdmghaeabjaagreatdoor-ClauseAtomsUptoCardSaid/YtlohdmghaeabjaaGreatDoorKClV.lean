/- Whether a test holds: the reference's Test. -/
import Derived.Test.YtlohdmghaeabjaaGreatDoorKClU
import Derived.Test.YtlohdmghaeabjaaGreatDoorKJ8
import Derived.Lib.QuietBelow
import Derived.BigQuiet
namespace Go.Proofs.YtlohdmghaeabjaaGreatDoor.clause
open Go.RowKit Go.Sort Go.Proofs.YtlohdmghaeabjaaGreatDoor Go.Proofs.YtlohdmghaeabjaaGreatDoor.schema Go.Proofs.YtlohdmghaeabjaaGreatDoor.value Go.Proofs.YtlohdmghaeabjaaGreatDoor.text Go.Proofs.YtlohdmghaeabjaaGreatDoor.draw

/-- Two values are compared for equality, by the reference. -/
theorem eqr_any (a b : VD) (w : World) (ha : LAt w.cell? a) (hb : LAt w.cell? b) :
    Calls Tryz.prog 48 #[.agg #[.int .i64 a.kind, .int .i64 a.num, .string a.text, .slice a.ptr a.len a.cap], .agg #[.int .i64 b.kind, .int .i64 b.num, .string b.text, .slice b.ptr b.len b.cap]] w fun e w' => e = .returned (.bool (eqV a b)) ∧ Below w.heap.size w w' := by
  rw [vd_len ha, vd_len hb]
  exact equal_ref a.kind b.kind a.num b.num a.text b.text a.ptr b.ptr a.cap b.cap a.ls b.ls w (lin_of_rows ha.rows) (lin_of_rows hb.rows) (lenI ha)
/-- Two values are compared, by the reference. -/
theorem cmpr_any (a b : VD) (w : World) (ha : LAt w.cell? a) (hb : LAt w.cell? b) (hT : Tabs w) :
    Calls Tryz.prog 51 #[.agg #[.int .i64 a.kind, .int .i64 a.num, .string a.text, .slice a.ptr a.len a.cap], .agg #[.int .i64 b.kind, .int .i64 b.num, .string b.text, .slice b.ptr b.len b.cap]] w fun e w' => e = .returned (.tuple #[.int .i64 (compareS (vv a) (vv b)).1, .int .i64 (compareS (vv a) (vv b)).2]) ∧ Below w.heap.size w w' := by
  rw [vd_len ha, vd_len hb]
  exact compare_ref (vv a) (vv b) a.text b.text a.ptr b.ptr a.cap b.cap a.ls b.ls w (vd_ok ha) (vd_ok hb) (by have := ha.text; omega) (by have := hb.text; omega) hT

set_option maxRecDepth 100000 in
set_option maxHeartbeats 4000000 in
/-- The reference's Test. -/
theorem clTest_ref (l : List CT) (a : Option Addr) (n c : Nat) (op : Int) (kind name : ByteArray) (va : Option Addr) (vn vc : Nat) (ka : Option Addr) (kn kc : Nat) (vals : List VD) (w : World)
    (hS : SAt w.cell? (.slice a n c) l) (hv : RowsAt w.cell? 4 (.slice va vn vc) (vals.map VD.row)) (hL : ∀ v ∈ vals, LAt w.cell? v) (hT : Tabs w) :
    Calls Tryz.prog 18 #[.agg #[.slice a n c], .agg #[.int .i64 op, .string kind, .string name, .slice va vn vc, .slice ka kn kc]] w fun e w' => e = .returned (.bool (testS l op kind name vals)) ∧ Below w.heap.size w w' := by
  have hB : Below w.heap.size w ((w.alloc (.cells #[.slice a n c] 25)).alloc (.cells #[.int .i64 op, .string kind, .string name, .slice va vn vc, .slice ka kn kc] 29)) := ((Below.refl _ _).alloc (Nat.le_refl _) _).alloc (by simp) _
  have hX := Own.new (w.alloc (.cells #[.slice a n c] 25)) #[.int .i64 op, .string kind, .string name, .slice va vn vc, .slice ka kn kc] 29
  rw [World.size_alloc] at hX
  replace hX := Lib.hid hX
  have hS1 := Lib.hid (hS.mono (sub_of_below hB))
  have hv1 := Lib.hid (hv.mono (sub_of_below hB))
  have hL1 := Lib.hid (fun v hm => (hL v hm).mono (sub_of_below hB))
  have hT1 := Lib.hid (hT.below hB)
  replace hB := Lib.hid hB
  clear hS hv hL hT
  go_enter Tryz.func18, Tryz.ntmps18
  go_wp2_with fail
  refine (look_ref l a n c kind name _ hS1.out).mono ?_
  rintro e w1 ⟨hI, hb⟩
  cases ho : lookS l kind.toList name.toList with
  | none =>
    have hQ := Lib.hid (show testS l op kind name vals = false by unfold testS; rw [ho])
    rw [ho] at hI
    simp only [LookIs] at hI
    subst hI
    have hB1 := Lib.hid (hB.out.trans (hb.mono hB.out.size))
    clear hb
    go_wp2
    go_ret
    rw [hQ.out]
    exact ⟨rfl, hB1.out.alloc hB1.out.size _⟩
  | some d0 =>
    rw [ho] at hI
    simp only [LookIs] at hI
    obtain ⟨d, rfl, hsv, hLd⟩ := hI
    have hQ0 := Lib.hid (show testS l op kind name vals = (if 6 ≤ op ∧ op ≤ 15 then holdsS op d0 vals else false) by unfold testS; rw [ho])
    replace hsv := Lib.hid hsv
    have hb2 : Below w1.heap.size w1 (w1.alloc (.cells #[.int .i64 d.kind, .int .i64 d.num, .string d.text, .slice d.ptr d.len d.cap] 43)) := (Below.refl _ _).alloc (Nat.le_refl _) _
    have hbb := hb.trans (hb2.mono hb.size)
    have hK := Lib.hid (show TX (w1.alloc (.cells #[.int .i64 d.kind, .int .i64 d.num, .string d.text, .slice d.ptr d.len d.cap] 43)) (w.heap.size + 1) w1.heap.size op kind name va vn vc (.slice ka kn kc) d vals w from
      ⟨hB.out.trans (hbb.mono hB.out.size), hX.out.below hbb (by simp), ⟨Own.new w1 _ _, hLd.mono (sub_of_below hb2)⟩, hv1.out.mono (sub_of_below hbb), fun v hm => (hL1.out v hm).mono (sub_of_below hbb), hT1.out.below hbb⟩)
    have hwl : w.heap.size + 1 < w1.heap.size := (hX.out.below hb (by simp)).lt
    have hX1 := hX.out.below hb (by simp)
    clear hb hb2 hbb hLd hB hS1 hv1 hL1 hT1 ho
    obtain ⟨x0, x1, x2, x3, x4⟩ := own5z hX1
    clear hX1 hX
    rw [show d.row.toArray = #[.int .i64 d.kind, .int .i64 d.num, .string d.text, .slice d.ptr d.len d.cap] from rfl]
    by_cases hop : 6 ≤ op ∧ op ≤ 15
    case neg =>
      have hop2 : decide (6 ≤ op ∧ op ≤ 15) = false := by simpa using hop
      go_wp2_with fail
      refine (istest_any op _).mono ?_
      rintro e w3 ⟨rfl, rfl⟩
      rw [hop2]
      go_wp2
      go_ret
      refine ⟨?_, hK.out.low⟩
      rw [hQ0.out, if_neg hop]
      rfl
    have hop2 : decide (6 ≤ op ∧ op ≤ 15) = true := by simpa using hop
    go_wp2_with fail
    refine (istest_any op _).mono ?_
    rintro e w3 ⟨rfl, rfl⟩
    rw [hop2]
    have hQ := Lib.hid (show testS l op kind name vals = holdsS op d vals by rw [hQ0.out, if_pos hop, same_holds hsv.out])
    go_upto_region 4 with fail
    clear hQ0 hsv x0 x1 x2 x3 x4 hop2 hwl
    generalize w1.alloc (.cells #[.int .i64 d.kind, .int .i64 d.num, .string d.text, .slice d.ptr d.len d.cap] 43) = w2 at hK ⊢
    generalize w1.heap.size = V at hK ⊢
    obtain ⟨E, hE⟩ : ∃ E : Nat, E = w.heap.size + 1 := ⟨_, rfl⟩
    rw [← hE] at hK ⊢
    clear hE
    obtain ⟨x0, x1, x2, x3, x4⟩ := own5z hK.out.box
    obtain ⟨y0, y1, y2, y3⟩ := box4 hK.out.val.own
    have hEl : E < w2.heap.size := hK.out.box.lt
    have hVl : V < w2.heap.size := hK.out.val.own.lt
    by_cases h6 : op = 6
    · subst h6
      go_wp2
      go_ret
      exact ⟨ret_to (by rw [hQ.out]; rfl), hK.out.low⟩
    by_cases h8 : op = 8
    · subst h8
      rw [holds_in] at hQ
      have hvn := (len_of hK.out.rows).1
      simp only [List.length_map] at hvn
      have hvm := (len_of hK.out.rows).2
      subst hvn
      have hXl := Lib.hid hEl
      go_wp2_with fail
      go_loopw [7] (fun s7 wr => ∃ k : Nat, k ≤ vals.length ∧ s7 = .int .i64 k ∧ Hid (Below w2.heap.size w2 wr) ∧ Hid (AnyR d vals k)) (fun s7 _ => vals.length - (intOf s7).toNat)
      case atStart => exact ⟨0, Nat.zero_le _, rfl, Lib.hid (Below.refl _ _), Lib.hid rfl⟩
      case round =>
        clear x0 x1 x2 x3 x4 y0 y1 y2 y3
        obtain ⟨k, hk, rfl, hb, hT⟩ := hrel
        have hKw := Lib.hid (hK.out.below hb.out)
        obtain ⟨x0, x1, x2, x3, x4⟩ := own5z hKw.out.box
        obtain ⟨y0, y1, y2, y3⟩ := box4 hKw.out.val.own
        have hEw : E < wr.heap.size := hKw.out.box.lt
        have hVw : V < wr.heap.size := hKw.out.val.own.lt
        by_cases hlt : k < vals.length
        case neg =>
          have hE := Lib.hid (hQ.out.trans (any_end hlt hT.out))
          go_wp2
          go_ret
          exact ⟨ret_to hE.out, hKw.out.low⟩
        obtain ⟨blk, off, rfl, v0, v1, v2, v3⟩ := vd_at hKw.out.rows hlt
        have n0 : (0 : Int) ≤ (k : Int) := by omega
        have n1 : (k : Int) < (vals.length : Int) := by omega
        have k0 := cell_regrown v0
        have k1 := cell_regrown v1
        have k2 := cell_regrown v2
        have k3 := cell_regrown v3
        have l0 := cell_regrown y0
        have l1 := cell_regrown y1
        have l2 := cell_regrown y2
        have l3 := cell_regrown y3
        have m3 := cell_regrown x3
        have cK := Lib.hid (fun (dq : Nat) (os : Array Obj) => Calls.regrown_of (eqr_any d vals[k] (Sort.grow (redrawn wr dq) os) (hKw.out.val.lat.mono (sub_of_below (below_regrown wr dq os))) ((hKw.out.each _ (List.getElem_mem hlt)).mono (sub_of_below (below_regrown wr dq os)))))
        have hHit := Lib.hid (fun h1 => any_hit hlt h1 hT.out)
        have hMiss := Lib.hid (fun h1 => any_miss hlt h1 hT.out)
        clear v0 v1 v2 v3 y0 y1 y2 y3 x0 x1 x2 x4
        generalize vals[k] = x at k0 k1 k2 k3 cK hHit hMiss
        go_wp2_with fail
        refine wp_region_quiet_below (by kernel_rfl) (by kernel_rfl) ?_
        repeat (go_big_quiet_step (exact cK.out _ _))
        refine wpQuiet_nil ?_
        intro _ hw'
        obtain ⟨⟨dq, osq⟩, hw''⟩ := hw'
        subst hw''
        have hbr := Lib.hid (hb.out.trans ((below_regrown wr dq osq).mono hb.out.size))
        have hlow := Lib.hid (hKw.out.below (below_regrown wr dq osq)).low
        clear cK k0 k1 k2 k3 l0 l1 l2 l3 m3 hKw
        generalize Sort.grow (redrawn wr dq) osq = w5 at hbr hlow ⊢
        cases h1 : eqV d x with
        | true =>
          have hq := Lib.hid (hQ.out.trans (hHit.out h1))
          clear hHit hMiss
          go_wp2
          go_ret
          exact ⟨ret_to hq.out, hlow.out⟩
        | false =>
          have hq := Lib.hid (hMiss.out h1)
          clear hHit hMiss
          go_wp2
          go_roundw
          case rel => exact ⟨k + 1, by omega, by go_num, hbr, hq⟩
          case measure => simp [intOf]; omega
    have e6 : (op == 6) = false := by simpa using h6
    have e8 : (op == 8) = false := by simpa using h8
    have hvn := (len_of hK.out.rows).1
    simp only [List.length_map] at hvn
    have hvm := (len_of hK.out.rows).2
    subst hvn
    cases vals with
    | nil =>
      rw [holds_nil h6 h8] at hQ
      go_wp2
      go_ret
      exact ⟨ret_to hQ.out, hK.out.low⟩
    | cons v r =>
      rw [holds_cons h6 h8] at hQ
      obtain ⟨blk, off, rfl, v0, v1, v2, v3⟩ : ∃ blk off, va = some ⟨blk, off, none⟩ ∧ w2.cell? ⟨blk, off, none⟩ = some (.int .i64 v.kind) ∧ w2.cell? ⟨blk, off + 1, none⟩ = some (.int .i64 v.num) ∧ w2.cell? ⟨blk, off + 2, none⟩ = some (.string v.text) ∧ w2.cell? ⟨blk, off + 3, none⟩ = some (.slice v.ptr v.len v.cap) := by
        obtain ⟨a0, c0, q1, q2, q3, q4⟩ := hK.out.rows
        injection q1 with q1 q5 q6
        subst q1
        rcases q4 with q4 | ⟨blk, off, rfl, hc⟩
        · simp at q4
        · have hh := vd_cells hc (k := 0) (by simp)
          refine ⟨blk, off, rfl, ?_⟩
          simpa using hh
      have hLv := Lib.hid (hK.out.each v (by simp))
      have hbl : blk < w2.heap.size := World.block_lt_of_cell? w2 _ v0
      have hp : ((r.length : Int) + 1 == 0) = false := by simp; omega
      cases hk : (d.kind == 3) <;> cases hw : (v.kind == 3)
      all_goals go_upto_region 17 with fail
      all_goals
        have hb3 : Below w2.heap.size w2 (w2.alloc (.cells #[.int .i64 v.kind, .int .i64 v.num, .string v.text, .slice v.ptr v.len v.cap] 43)) := (Below.refl _ _).alloc (Nat.le_refl _) _
        have hK3 := Lib.hid (hK.out.below hb3)
        have hU3 := Own.new w2 #[.int .i64 v.kind, .int .i64 v.num, .string v.text, .slice v.ptr v.len v.cap] 43
        have hLv3 := Lib.hid (hLv.out.mono (sub_of_below hb3))
        clear hb3 hK hLv x0 x1 x2 x3 x4 y0 y1 y2 y3 v0 v1 v2 v3 hEl hVl hbl
        generalize w2.alloc (.cells #[.int .i64 v.kind, .int .i64 v.num, .string v.text, .slice v.ptr v.len v.cap] 43) = w3 at hK3 hU3 hLv3 ⊢
        generalize w2.heap.size = U at hU3 ⊢
        obtain ⟨x0, x1, x2, x3, x4⟩ := own5z hK3.out.box
        obtain ⟨y0, y1, y2, y3⟩ := box4 hK3.out.val.own
        obtain ⟨v0, v1, v2, v3⟩ := box4 hU3
        have hEl : E < w3.heap.size := hK3.out.box.lt
        have hVl : V < w3.heap.size := hK3.out.val.own.lt
        have hUl : U < w3.heap.size := hU3.lt
        clear hU3
      · rcases (show op = 7 ∨ op = 9 ∨ op = 10 ∨ op = 11 ∨ op = 12 ∨ op = 13 ∨ op = 14 ∨ op = 15 by omega) with rfl | rfl | rfl | rfl | rfl | rfl | rfl | rfl
        · rw [one7] at hQ
          go_wp2_with fail
          refine (eqr_any d v _ hK3.out.val.lat hLv3.out).mono ?_
          rintro e w4 ⟨rfl, hb⟩
          have hB4 := Lib.hid (hK3.out.low.trans (hb.mono hK3.out.low.size))
          generalize eqV d v = bb at hQ ⊢
          clear hb
          go_wp2
          go_ret
          exact ⟨ret_to hQ.out, hB4.out⟩
        · rw [one9, hk, hw] at hQ
          go_wp2
          go_ret
          exact ⟨ret_to (by rw [hQ.out]; rfl), hK3.out.low⟩
        · rw [one10, hk, hw] at hQ
          go_wp2
          go_ret
          exact ⟨ret_to (by rw [hQ.out]; rfl), hK3.out.low⟩
        · go_wp2_with fail
          refine (contains_ref d v _ hK3.out.val.lat hLv3.out).mono ?_
          rintro e w4 ⟨rfl, hb⟩
          have hB4 := Lib.hid (hK3.out.low.trans (hb.mono hK3.out.low.size))
          generalize oneS 11 d v = bb at hQ ⊢
          clear hb
          go_wp2
          go_ret
          exact ⟨ret_to hQ.out, hB4.out⟩
        · rw [one12 (by decide)] at hQ
          go_wp2_with fail
          refine (cmpr_any d v _ hK3.out.val.lat hLv3.out hK3.out.tabs).mono ?_
          rintro e w4 ⟨rfl, hb⟩
          have hB4 := Lib.hid (hK3.out.low.trans (hb.mono hK3.out.low.size))
          have hx0 := Lib.hid ((hK3.out.box.below hb hEl).cell 0)
          have hx4 : E < w4.heap.size := (hK3.out.box.below hb hEl).lt
          generalize compareS (vv d) (vv v) = cc at hQ ⊢
          clear hb x0 x1 x2 x3 x4 y0 y1 y2 y3 v0 v1 v2 v3 hEl hVl hUl
          have x0 := hx0.out
          simp only [List.getElem?_toArray, List.getElem?_cons_zero] at x0
          clear hx0
          by_cases hc : cc.2 = 0
          · rw [cmp12 hc] at hQ
            have hc1 : (cc.2 != 0) = false := by simp [hc]
            go_wp2
            go_ret
            exact ⟨ret_to hQ.out, hB4.out⟩
          · rw [cmp_bad hc] at hQ
            have hc1 : (cc.2 != 0) = true := by simp [hc]
            go_wp2
            go_ret
            exact ⟨ret_to hQ.out, hB4.out⟩
        · rw [one12 (by decide)] at hQ
          go_wp2_with fail
          refine (cmpr_any d v _ hK3.out.val.lat hLv3.out hK3.out.tabs).mono ?_
          rintro e w4 ⟨rfl, hb⟩
          have hB4 := Lib.hid (hK3.out.low.trans (hb.mono hK3.out.low.size))
          have hx0 := Lib.hid ((hK3.out.box.below hb hEl).cell 0)
          have hx4 : E < w4.heap.size := (hK3.out.box.below hb hEl).lt
          generalize compareS (vv d) (vv v) = cc at hQ ⊢
          clear hb x0 x1 x2 x3 x4 y0 y1 y2 y3 v0 v1 v2 v3 hEl hVl hUl
          have x0 := hx0.out
          simp only [List.getElem?_toArray, List.getElem?_cons_zero] at x0
          clear hx0
          by_cases hc : cc.2 = 0
          · rw [cmp13 hc] at hQ
            have hc1 : (cc.2 != 0) = false := by simp [hc]
            go_wp2
            go_ret
            exact ⟨ret_to hQ.out, hB4.out⟩
          · rw [cmp_bad hc] at hQ
            have hc1 : (cc.2 != 0) = true := by simp [hc]
            go_wp2
            go_ret
            exact ⟨ret_to hQ.out, hB4.out⟩
        · rw [one12 (by decide)] at hQ
          go_wp2_with fail
          refine (cmpr_any d v _ hK3.out.val.lat hLv3.out hK3.out.tabs).mono ?_
          rintro e w4 ⟨rfl, hb⟩
          have hB4 := Lib.hid (hK3.out.low.trans (hb.mono hK3.out.low.size))
          have hx0 := Lib.hid ((hK3.out.box.below hb hEl).cell 0)
          have hx4 : E < w4.heap.size := (hK3.out.box.below hb hEl).lt
          generalize compareS (vv d) (vv v) = cc at hQ ⊢
          clear hb x0 x1 x2 x3 x4 y0 y1 y2 y3 v0 v1 v2 v3 hEl hVl hUl
          have x0 := hx0.out
          simp only [List.getElem?_toArray, List.getElem?_cons_zero] at x0
          clear hx0
          by_cases hc : cc.2 = 0
          · rw [cmp14 hc] at hQ
            have hc1 : (cc.2 != 0) = false := by simp [hc]
            go_wp2
            go_ret
            exact ⟨ret_to hQ.out, hB4.out⟩
          · rw [cmp_bad hc] at hQ
            have hc1 : (cc.2 != 0) = true := by simp [hc]
            go_wp2
            go_ret
            exact ⟨ret_to hQ.out, hB4.out⟩
        · rw [one12 (by decide)] at hQ
          go_wp2_with fail
          refine (cmpr_any d v _ hK3.out.val.lat hLv3.out hK3.out.tabs).mono ?_
          rintro e w4 ⟨rfl, hb⟩
          have hB4 := Lib.hid (hK3.out.low.trans (hb.mono hK3.out.low.size))
          have hx0 := Lib.hid ((hK3.out.box.below hb hEl).cell 0)
          have hx4 : E < w4.heap.size := (hK3.out.box.below hb hEl).lt
          generalize compareS (vv d) (vv v) = cc at hQ ⊢
          clear hb x0 x1 x2 x3 x4 y0 y1 y2 y3 v0 v1 v2 v3 hEl hVl hUl
          have x0 := hx0.out
          simp only [List.getElem?_toArray, List.getElem?_cons_zero] at x0
          clear hx0
          by_cases hc : cc.2 = 0
          · rw [cmp15 hc] at hQ
            have hc1 : (cc.2 != 0) = false := by simp [hc]
            go_wp2
            go_ret
            exact ⟨ret_to hQ.out, hB4.out⟩
          · rw [cmp_bad hc] at hQ
            have hc1 : (cc.2 != 0) = true := by simp [hc]
            go_wp2
            go_ret
            exact ⟨ret_to hQ.out, hB4.out⟩
      · rcases (show op = 7 ∨ op = 9 ∨ op = 10 ∨ op = 11 ∨ op = 12 ∨ op = 13 ∨ op = 14 ∨ op = 15 by omega) with rfl | rfl | rfl | rfl | rfl | rfl | rfl | rfl
        · rw [one7] at hQ
          go_wp2_with fail
          refine (eqr_any d v _ hK3.out.val.lat hLv3.out).mono ?_
          rintro e w4 ⟨rfl, hb⟩
          have hB4 := Lib.hid (hK3.out.low.trans (hb.mono hK3.out.low.size))
          generalize eqV d v = bb at hQ ⊢
          clear hb
          go_wp2
          go_ret
          exact ⟨ret_to hQ.out, hB4.out⟩
        · rw [one9, hk, hw] at hQ
          go_wp2
          go_ret
          exact ⟨ret_to (by rw [hQ.out]; rfl), hK3.out.low⟩
        · rw [one10, hk, hw] at hQ
          go_wp2
          go_ret
          exact ⟨ret_to (by rw [hQ.out]; rfl), hK3.out.low⟩
        · go_wp2_with fail
          refine (contains_ref d v _ hK3.out.val.lat hLv3.out).mono ?_
          rintro e w4 ⟨rfl, hb⟩
          have hB4 := Lib.hid (hK3.out.low.trans (hb.mono hK3.out.low.size))
          generalize oneS 11 d v = bb at hQ ⊢
          clear hb
          go_wp2
          go_ret
          exact ⟨ret_to hQ.out, hB4.out⟩
        · rw [one12 (by decide)] at hQ
          go_wp2_with fail
          refine (cmpr_any d v _ hK3.out.val.lat hLv3.out hK3.out.tabs).mono ?_
          rintro e w4 ⟨rfl, hb⟩
          have hB4 := Lib.hid (hK3.out.low.trans (hb.mono hK3.out.low.size))
          have hx0 := Lib.hid ((hK3.out.box.below hb hEl).cell 0)
          have hx4 : E < w4.heap.size := (hK3.out.box.below hb hEl).lt
          generalize compareS (vv d) (vv v) = cc at hQ ⊢
          clear hb x0 x1 x2 x3 x4 y0 y1 y2 y3 v0 v1 v2 v3 hEl hVl hUl
          have x0 := hx0.out
          simp only [List.getElem?_toArray, List.getElem?_cons_zero] at x0
          clear hx0
          by_cases hc : cc.2 = 0
          · rw [cmp12 hc] at hQ
            have hc1 : (cc.2 != 0) = false := by simp [hc]
            go_wp2
            go_ret
            exact ⟨ret_to hQ.out, hB4.out⟩
          · rw [cmp_bad hc] at hQ
            have hc1 : (cc.2 != 0) = true := by simp [hc]
            go_wp2
            go_ret
            exact ⟨ret_to hQ.out, hB4.out⟩
        · rw [one12 (by decide)] at hQ
          go_wp2_with fail
          refine (cmpr_any d v _ hK3.out.val.lat hLv3.out hK3.out.tabs).mono ?_
          rintro e w4 ⟨rfl, hb⟩
          have hB4 := Lib.hid (hK3.out.low.trans (hb.mono hK3.out.low.size))
          have hx0 := Lib.hid ((hK3.out.box.below hb hEl).cell 0)
          have hx4 : E < w4.heap.size := (hK3.out.box.below hb hEl).lt
          generalize compareS (vv d) (vv v) = cc at hQ ⊢
          clear hb x0 x1 x2 x3 x4 y0 y1 y2 y3 v0 v1 v2 v3 hEl hVl hUl
          have x0 := hx0.out
          simp only [List.getElem?_toArray, List.getElem?_cons_zero] at x0
          clear hx0
          by_cases hc : cc.2 = 0
          · rw [cmp13 hc] at hQ
            have hc1 : (cc.2 != 0) = false := by simp [hc]
            go_wp2
            go_ret
            exact ⟨ret_to hQ.out, hB4.out⟩
          · rw [cmp_bad hc] at hQ
            have hc1 : (cc.2 != 0) = true := by simp [hc]
            go_wp2
            go_ret
            exact ⟨ret_to hQ.out, hB4.out⟩
        · rw [one12 (by decide)] at hQ
          go_wp2_with fail
          refine (cmpr_any d v _ hK3.out.val.lat hLv3.out hK3.out.tabs).mono ?_
          rintro e w4 ⟨rfl, hb⟩
          have hB4 := Lib.hid (hK3.out.low.trans (hb.mono hK3.out.low.size))
          have hx0 := Lib.hid ((hK3.out.box.below hb hEl).cell 0)
          have hx4 : E < w4.heap.size := (hK3.out.box.below hb hEl).lt
          generalize compareS (vv d) (vv v) = cc at hQ ⊢
          clear hb x0 x1 x2 x3 x4 y0 y1 y2 y3 v0 v1 v2 v3 hEl hVl hUl
          have x0 := hx0.out
          simp only [List.getElem?_toArray, List.getElem?_cons_zero] at x0
          clear hx0
          by_cases hc : cc.2 = 0
          · rw [cmp14 hc] at hQ
            have hc1 : (cc.2 != 0) = false := by simp [hc]
            go_wp2
            go_ret
            exact ⟨ret_to hQ.out, hB4.out⟩
          · rw [cmp_bad hc] at hQ
            have hc1 : (cc.2 != 0) = true := by simp [hc]
            go_wp2
            go_ret
            exact ⟨ret_to hQ.out, hB4.out⟩
        · rw [one12 (by decide)] at hQ
          go_wp2_with fail
          refine (cmpr_any d v _ hK3.out.val.lat hLv3.out hK3.out.tabs).mono ?_
          rintro e w4 ⟨rfl, hb⟩
          have hB4 := Lib.hid (hK3.out.low.trans (hb.mono hK3.out.low.size))
          have hx0 := Lib.hid ((hK3.out.box.below hb hEl).cell 0)
          have hx4 : E < w4.heap.size := (hK3.out.box.below hb hEl).lt
          generalize compareS (vv d) (vv v) = cc at hQ ⊢
          clear hb x0 x1 x2 x3 x4 y0 y1 y2 y3 v0 v1 v2 v3 hEl hVl hUl
          have x0 := hx0.out
          simp only [List.getElem?_toArray, List.getElem?_cons_zero] at x0
          clear hx0
          by_cases hc : cc.2 = 0
          · rw [cmp15 hc] at hQ
            have hc1 : (cc.2 != 0) = false := by simp [hc]
            go_wp2
            go_ret
            exact ⟨ret_to hQ.out, hB4.out⟩
          · rw [cmp_bad hc] at hQ
            have hc1 : (cc.2 != 0) = true := by simp [hc]
            go_wp2
            go_ret
            exact ⟨ret_to hQ.out, hB4.out⟩
      · rcases (show op = 7 ∨ op = 9 ∨ op = 10 ∨ op = 11 ∨ op = 12 ∨ op = 13 ∨ op = 14 ∨ op = 15 by omega) with rfl | rfl | rfl | rfl | rfl | rfl | rfl | rfl
        · rw [one7] at hQ
          go_wp2_with fail
          refine (eqr_any d v _ hK3.out.val.lat hLv3.out).mono ?_
          rintro e w4 ⟨rfl, hb⟩
          have hB4 := Lib.hid (hK3.out.low.trans (hb.mono hK3.out.low.size))
          generalize eqV d v = bb at hQ ⊢
          clear hb
          go_wp2
          go_ret
          exact ⟨ret_to hQ.out, hB4.out⟩
        · rw [one9, hk, hw] at hQ
          go_wp2
          go_ret
          exact ⟨ret_to (by rw [hQ.out]; rfl), hK3.out.low⟩
        · rw [one10, hk, hw] at hQ
          go_wp2
          go_ret
          exact ⟨ret_to (by rw [hQ.out]; rfl), hK3.out.low⟩
        · go_wp2_with fail
          refine (contains_ref d v _ hK3.out.val.lat hLv3.out).mono ?_
          rintro e w4 ⟨rfl, hb⟩
          have hB4 := Lib.hid (hK3.out.low.trans (hb.mono hK3.out.low.size))
          generalize oneS 11 d v = bb at hQ ⊢
          clear hb
          go_wp2
          go_ret
          exact ⟨ret_to hQ.out, hB4.out⟩
        · rw [one12 (by decide)] at hQ
          go_wp2_with fail
          refine (cmpr_any d v _ hK3.out.val.lat hLv3.out hK3.out.tabs).mono ?_
          rintro e w4 ⟨rfl, hb⟩
          have hB4 := Lib.hid (hK3.out.low.trans (hb.mono hK3.out.low.size))
          have hx0 := Lib.hid ((hK3.out.box.below hb hEl).cell 0)
          have hx4 : E < w4.heap.size := (hK3.out.box.below hb hEl).lt
          generalize compareS (vv d) (vv v) = cc at hQ ⊢
          clear hb x0 x1 x2 x3 x4 y0 y1 y2 y3 v0 v1 v2 v3 hEl hVl hUl
          have x0 := hx0.out
          simp only [List.getElem?_toArray, List.getElem?_cons_zero] at x0
          clear hx0
          by_cases hc : cc.2 = 0
          · rw [cmp12 hc] at hQ
            have hc1 : (cc.2 != 0) = false := by simp [hc]
            go_wp2
            go_ret
            exact ⟨ret_to hQ.out, hB4.out⟩
          · rw [cmp_bad hc] at hQ
            have hc1 : (cc.2 != 0) = true := by simp [hc]
            go_wp2
            go_ret
            exact ⟨ret_to hQ.out, hB4.out⟩
        · rw [one12 (by decide)] at hQ
          go_wp2_with fail
          refine (cmpr_any d v _ hK3.out.val.lat hLv3.out hK3.out.tabs).mono ?_
          rintro e w4 ⟨rfl, hb⟩
          have hB4 := Lib.hid (hK3.out.low.trans (hb.mono hK3.out.low.size))
          have hx0 := Lib.hid ((hK3.out.box.below hb hEl).cell 0)
          have hx4 : E < w4.heap.size := (hK3.out.box.below hb hEl).lt
          generalize compareS (vv d) (vv v) = cc at hQ ⊢
          clear hb x0 x1 x2 x3 x4 y0 y1 y2 y3 v0 v1 v2 v3 hEl hVl hUl
          have x0 := hx0.out
          simp only [List.getElem?_toArray, List.getElem?_cons_zero] at x0
          clear hx0
          by_cases hc : cc.2 = 0
          · rw [cmp13 hc] at hQ
            have hc1 : (cc.2 != 0) = false := by simp [hc]
            go_wp2
            go_ret
            exact ⟨ret_to hQ.out, hB4.out⟩
          · rw [cmp_bad hc] at hQ
            have hc1 : (cc.2 != 0) = true := by simp [hc]
            go_wp2
            go_ret
            exact ⟨ret_to hQ.out, hB4.out⟩
        · rw [one12 (by decide)] at hQ
          go_wp2_with fail
          refine (cmpr_any d v _ hK3.out.val.lat hLv3.out hK3.out.tabs).mono ?_
          rintro e w4 ⟨rfl, hb⟩
          have hB4 := Lib.hid (hK3.out.low.trans (hb.mono hK3.out.low.size))
          have hx0 := Lib.hid ((hK3.out.box.below hb hEl).cell 0)
          have hx4 : E < w4.heap.size := (hK3.out.box.below hb hEl).lt
          generalize compareS (vv d) (vv v) = cc at hQ ⊢
          clear hb x0 x1 x2 x3 x4 y0 y1 y2 y3 v0 v1 v2 v3 hEl hVl hUl
          have x0 := hx0.out
          simp only [List.getElem?_toArray, List.getElem?_cons_zero] at x0
          clear hx0
          by_cases hc : cc.2 = 0
          · rw [cmp14 hc] at hQ
            have hc1 : (cc.2 != 0) = false := by simp [hc]
            go_wp2
            go_ret
            exact ⟨ret_to hQ.out, hB4.out⟩
          · rw [cmp_bad hc] at hQ
            have hc1 : (cc.2 != 0) = true := by simp [hc]
            go_wp2
            go_ret
            exact ⟨ret_to hQ.out, hB4.out⟩
        · rw [one12 (by decide)] at hQ
          go_wp2_with fail
          refine (cmpr_any d v _ hK3.out.val.lat hLv3.out hK3.out.tabs).mono ?_
          rintro e w4 ⟨rfl, hb⟩
          have hB4 := Lib.hid (hK3.out.low.trans (hb.mono hK3.out.low.size))
          have hx0 := Lib.hid ((hK3.out.box.below hb hEl).cell 0)
          have hx4 : E < w4.heap.size := (hK3.out.box.below hb hEl).lt
          generalize compareS (vv d) (vv v) = cc at hQ ⊢
          clear hb x0 x1 x2 x3 x4 y0 y1 y2 y3 v0 v1 v2 v3 hEl hVl hUl
          have x0 := hx0.out
          simp only [List.getElem?_toArray, List.getElem?_cons_zero] at x0
          clear hx0
          by_cases hc : cc.2 = 0
          · rw [cmp15 hc] at hQ
            have hc1 : (cc.2 != 0) = false := by simp [hc]
            go_wp2
            go_ret
            exact ⟨ret_to hQ.out, hB4.out⟩
          · rw [cmp_bad hc] at hQ
            have hc1 : (cc.2 != 0) = true := by simp [hc]
            go_wp2
            go_ret
            exact ⟨ret_to hQ.out, hB4.out⟩
      · rcases (show op = 7 ∨ op = 9 ∨ op = 10 ∨ op = 11 ∨ op = 12 ∨ op = 13 ∨ op = 14 ∨ op = 15 by omega) with rfl | rfl | rfl | rfl | rfl | rfl | rfl | rfl
        · rw [one7] at hQ
          go_wp2_with fail
          refine (eqr_any d v _ hK3.out.val.lat hLv3.out).mono ?_
          rintro e w4 ⟨rfl, hb⟩
          have hB4 := Lib.hid (hK3.out.low.trans (hb.mono hK3.out.low.size))
          generalize eqV d v = bb at hQ ⊢
          clear hb
          go_wp2
          go_ret
          exact ⟨ret_to hQ.out, hB4.out⟩
        · rw [one9, hk, hw] at hQ
          go_wp2_with fail
          rw [← Lib.hasPrefix_raw] at hQ
          have hsd := hK3.out.val.lat.text
          have hsv := hLv3.out.text
          by_cases hle : v.text.size ≤ d.text.size
          case neg =>
            rw [decide_eq_false hle] at hQ
            refine (within_no d.text v.text 0 _ hsd hsv (by omega) (by omega) (by omega)).mono ?_
            rintro e w4 ⟨rfl, rfl⟩
            go_wp2
            go_ret
            exact ⟨ret_to (by rw [hQ.out]; rfl), hK3.out.low⟩
          rw [decide_eq_true hle] at hQ
          refine (within_ref d.text v.text 0 _ hsd hsv (by omega)).mono ?_
          rintro e w4 ⟨rfl, rfl⟩
          rw [Nat.zero_add]
          generalize ((d.text.extract 0 v.text.size).toList == v.text.toList) = bb at hQ ⊢
          go_wp2
          go_ret
          exact ⟨ret_to (by rw [hQ.out]; rfl), hK3.out.low⟩
        · rw [one10, hk, hw] at hQ
          have hwd : IntKind.i64.wrap ((d.text.size : Int) - (v.text.size : Int)) = (d.text.size : Int) - (v.text.size : Int) := IntWalk.i64_in _ (by have h1 := hK3.out.val.lat.text; have h2 := hLv3.out.text; omega)
          go_wp2_with fail
          rw [← Lib.hasSuffix_raw] at hQ
          have hsd := hK3.out.val.lat.text
          have hsv := hLv3.out.text
          by_cases hle : v.text.size ≤ d.text.size
          case neg =>
            rw [decide_eq_false hle] at hQ
            refine (within_no d.text v.text ((d.text.size : Int) - (v.text.size : Int)) _ hsd hsv (by omega) (by omega) (by omega)).mono ?_
            rintro e w4 ⟨rfl, rfl⟩
            go_wp2
            go_ret
            exact ⟨ret_to (by rw [hQ.out]; rfl), hK3.out.low⟩
          rw [decide_eq_true hle] at hQ
          rw [show ((d.text.size : Int) - (v.text.size : Int)) = ((d.text.size - v.text.size : Nat) : Int) by omega]
          refine (within_ref d.text v.text (d.text.size - v.text.size) _ hsd hsv (by omega)).mono ?_
          rintro e w4 ⟨rfl, rfl⟩
          rw [show d.text.size - v.text.size + v.text.size = d.text.size by omega]
          generalize ((d.text.extract (d.text.size - v.text.size) d.text.size).toList == v.text.toList) = bb at hQ ⊢
          go_wp2
          go_ret
          exact ⟨ret_to (by rw [hQ.out]; rfl), hK3.out.low⟩
        · go_wp2_with fail
          refine (contains_ref d v _ hK3.out.val.lat hLv3.out).mono ?_
          rintro e w4 ⟨rfl, hb⟩
          have hB4 := Lib.hid (hK3.out.low.trans (hb.mono hK3.out.low.size))
          generalize oneS 11 d v = bb at hQ ⊢
          clear hb
          go_wp2
          go_ret
          exact ⟨ret_to hQ.out, hB4.out⟩
        · rw [one12 (by decide)] at hQ
          go_wp2_with fail
          refine (cmpr_any d v _ hK3.out.val.lat hLv3.out hK3.out.tabs).mono ?_
          rintro e w4 ⟨rfl, hb⟩
          have hB4 := Lib.hid (hK3.out.low.trans (hb.mono hK3.out.low.size))
          have hx0 := Lib.hid ((hK3.out.box.below hb hEl).cell 0)
          have hx4 : E < w4.heap.size := (hK3.out.box.below hb hEl).lt
          generalize compareS (vv d) (vv v) = cc at hQ ⊢
          clear hb x0 x1 x2 x3 x4 y0 y1 y2 y3 v0 v1 v2 v3 hEl hVl hUl
          have x0 := hx0.out
          simp only [List.getElem?_toArray, List.getElem?_cons_zero] at x0
          clear hx0
          by_cases hc : cc.2 = 0
          · rw [cmp12 hc] at hQ
            have hc1 : (cc.2 != 0) = false := by simp [hc]
            go_wp2
            go_ret
            exact ⟨ret_to hQ.out, hB4.out⟩
          · rw [cmp_bad hc] at hQ
            have hc1 : (cc.2 != 0) = true := by simp [hc]
            go_wp2
            go_ret
            exact ⟨ret_to hQ.out, hB4.out⟩
        · rw [one12 (by decide)] at hQ
          go_wp2_with fail
          refine (cmpr_any d v _ hK3.out.val.lat hLv3.out hK3.out.tabs).mono ?_
          rintro e w4 ⟨rfl, hb⟩
          have hB4 := Lib.hid (hK3.out.low.trans (hb.mono hK3.out.low.size))
          have hx0 := Lib.hid ((hK3.out.box.below hb hEl).cell 0)
          have hx4 : E < w4.heap.size := (hK3.out.box.below hb hEl).lt
          generalize compareS (vv d) (vv v) = cc at hQ ⊢
          clear hb x0 x1 x2 x3 x4 y0 y1 y2 y3 v0 v1 v2 v3 hEl hVl hUl
          have x0 := hx0.out
          simp only [List.getElem?_toArray, List.getElem?_cons_zero] at x0
          clear hx0
          by_cases hc : cc.2 = 0
          · rw [cmp13 hc] at hQ
            have hc1 : (cc.2 != 0) = false := by simp [hc]
            go_wp2
            go_ret
            exact ⟨ret_to hQ.out, hB4.out⟩
          · rw [cmp_bad hc] at hQ
            have hc1 : (cc.2 != 0) = true := by simp [hc]
            go_wp2
            go_ret
            exact ⟨ret_to hQ.out, hB4.out⟩
        · rw [one12 (by decide)] at hQ
          go_wp2_with fail
          refine (cmpr_any d v _ hK3.out.val.lat hLv3.out hK3.out.tabs).mono ?_
          rintro e w4 ⟨rfl, hb⟩
          have hB4 := Lib.hid (hK3.out.low.trans (hb.mono hK3.out.low.size))
          have hx0 := Lib.hid ((hK3.out.box.below hb hEl).cell 0)
          have hx4 : E < w4.heap.size := (hK3.out.box.below hb hEl).lt
          generalize compareS (vv d) (vv v) = cc at hQ ⊢
          clear hb x0 x1 x2 x3 x4 y0 y1 y2 y3 v0 v1 v2 v3 hEl hVl hUl
          have x0 := hx0.out
          simp only [List.getElem?_toArray, List.getElem?_cons_zero] at x0
          clear hx0
          by_cases hc : cc.2 = 0
          · rw [cmp14 hc] at hQ
            have hc1 : (cc.2 != 0) = false := by simp [hc]
            go_wp2
            go_ret
            exact ⟨ret_to hQ.out, hB4.out⟩
          · rw [cmp_bad hc] at hQ
            have hc1 : (cc.2 != 0) = true := by simp [hc]
            go_wp2
            go_ret
            exact ⟨ret_to hQ.out, hB4.out⟩
        · rw [one12 (by decide)] at hQ
          go_wp2_with fail
          refine (cmpr_any d v _ hK3.out.val.lat hLv3.out hK3.out.tabs).mono ?_
          rintro e w4 ⟨rfl, hb⟩
          have hB4 := Lib.hid (hK3.out.low.trans (hb.mono hK3.out.low.size))
          have hx0 := Lib.hid ((hK3.out.box.below hb hEl).cell 0)
          have hx4 : E < w4.heap.size := (hK3.out.box.below hb hEl).lt
          generalize compareS (vv d) (vv v) = cc at hQ ⊢
          clear hb x0 x1 x2 x3 x4 y0 y1 y2 y3 v0 v1 v2 v3 hEl hVl hUl
          have x0 := hx0.out
          simp only [List.getElem?_toArray, List.getElem?_cons_zero] at x0
          clear hx0
          by_cases hc : cc.2 = 0
          · rw [cmp15 hc] at hQ
            have hc1 : (cc.2 != 0) = false := by simp [hc]
            go_wp2
            go_ret
            exact ⟨ret_to hQ.out, hB4.out⟩
          · rw [cmp_bad hc] at hQ
            have hc1 : (cc.2 != 0) = true := by simp [hc]
            go_wp2
            go_ret
            exact ⟨ret_to hQ.out, hB4.out⟩

end Go.Proofs.YtlohdmghaeabjaaGreatDoor.clause

