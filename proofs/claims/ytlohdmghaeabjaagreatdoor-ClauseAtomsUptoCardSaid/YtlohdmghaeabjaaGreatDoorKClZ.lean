/- The different atoms of a condition: the program's atoms. -/
import Derived.Test.YtlohdmghaeabjaaGreatDoorKClY
namespace Go.Proofs.YtlohdmghaeabjaaGreatDoor.clause
open Go.RowKit Go.Proofs.YtlohdmghaeabjaaGreatDoor Go.Proofs.YtlohdmghaeabjaaGreatDoor.schema Go.Proofs.YtlohdmghaeabjaaGreatDoor.value Go.Proofs.YtlohdmghaeabjaaGreatDoor.text Go.Proofs.YtlohdmghaeabjaaGreatDoor.draw

set_option maxHeartbeats 1000000 in
set_option maxRecDepth 10000 in
/-- slices.IndexFunc over conditions, with the closure flagstone/clause.atoms$1. -/
theorem seen_anyi (f : ED → Bool) (Be : Nat) (a : Option Addr) (n c : Nat) (rows : List (List Value)) (kids : List ED) (w : World) (hk : RowsAt w.cell? 5 (.slice a n c) rows) (hl : rows.length = kids.length)
    (hE : ∀ (i : Nat) (r : List Value) (k : ED), rows[i]? = some r → kids[i]? = some k → EAt w.cell? k r)
    (hcl : ∀ (i : Nat) (r : List Value) (k : ED) (w' : World), rows[i]? = some r → kids[i]? = some k → Below w.heap.size w w' → Calls Tryz.prog 83 #[.agg r.toArray, .pointer (some ⟨Be, 0, none⟩)] w' fun e w'' => e = .returned (.bool (f k)) ∧ Below w'.heap.size w' w'') :
    Calls Tryz.prog 82 #[.slice a n c, .func (.func 83) #[] #[.pointer (some ⟨Be, 0, none⟩)]] w fun e w' => IndexIs (kids.any f) e ∧ Below w.heap.size w w' := by
  have hn := (len_of hk).1
  have hm := (len_of hk).2
  rw [hl] at hn
  subst hn
  have hk0 := Lib.hid hk
  have hE0 := Lib.hid hE
  have hcl0 := Lib.hid hcl
  have hl0 := Lib.hid hl
  clear hk hE hcl hl
  go_enter Tryz.func82, Tryz.ntmps82
  go_wp2
  go_loopw [5, 8] (fun _ i wr => ∃ k : Nat, k ≤ kids.length ∧ i = .int .i64 k ∧ Hid (Below w.heap.size w wr) ∧ Hid (AnyE f kids k)) (fun _ i _ => kids.length - (intOf i).toNat)
  case atStart => exact ⟨0, Nat.zero_le _, rfl, Lib.hid (Below.refl _ _), Lib.hid rfl⟩
  case round =>
    obtain ⟨k, hk, rfl, hb, hT⟩ := hrel
    by_cases hlt : k < kids.length
    · obtain ⟨blk, off, op, kind, name, va, vn, vc, ka, kn, kc, rfl, c0, c1, c2, c3, c4, hr⟩ := kid_at (hk0.out.mono (sub_of_below hb.out)) hl0.out hE0.out hlt
      have hin := Lib.hid (hcl0.out k _ kids[k] wr hr (List.getElem?_eq_getElem hlt) hb.out)
      replace hr := Lib.hid hr
      have n0 : (0 : Int) ≤ (k : Int) := by omega
      have n1 : (k : Int) < (kids.length : Int) := by omega
      have hHit := Lib.hid (fun h1 => anyE_hit hlt h1 hT.out)
      have hMiss := Lib.hid (fun h1 => anyE_miss hlt h1 hT.out)
      go_wp2_with fail
      refine hin.out.mono ?_
      rintro e w' ⟨rfl, hb2⟩
      have hb3 := Lib.hid (hb.out.trans (hb2.mono hb.out.size))
      clear hin hb2
      cases h1 : f kids[k] with
      | true =>
        have hq := Lib.hid (hHit.out h1)
        go_wp2
        go_ret
        exact ⟨⟨_, rfl, by simp only [hq.out, iff_true]; omega, by omega⟩, hb3.out⟩
      | false =>
        have hq := Lib.hid (hMiss.out h1)
        go_wp2
        go_roundw
        case rel => exact ⟨k + 1, by omega, by go_num, hb3, hq⟩
        case measure => simp [intOf]; omega
    · have hE := Lib.hid (anyE_end hlt hT.out)
      go_wp2
      go_ret
      exact ⟨⟨_, rfl, by simp [hE.out], by omega⟩, hb.out⟩
set_option maxHeartbeats 400000 in
theorem seen_any (f : ED → Bool) (Be : Nat) (a : Option Addr) (n c : Nat) (rows : List (List Value)) (kids : List ED) (w : World) (hk : RowsAt w.cell? 5 (.slice a n c) rows) (hl : rows.length = kids.length)
    (hE : ∀ (i : Nat) (r : List Value) (k : ED), rows[i]? = some r → kids[i]? = some k → EAt w.cell? k r)
    (hcl : ∀ (i : Nat) (r : List Value) (k : ED) (w' : World), rows[i]? = some r → kids[i]? = some k → Below w.heap.size w w' → Calls Tryz.prog 83 #[.agg r.toArray, .pointer (some ⟨Be, 0, none⟩)] w' fun e w'' => e = .returned (.bool (f k)) ∧ Below w'.heap.size w' w'') :
    Calls Tryz.prog 55 #[.slice a n c, .func (.func 83) #[] #[.pointer (some ⟨Be, 0, none⟩)]] w fun e w' => e = .returned (.bool (kids.any f)) ∧ Below w.heap.size w w' := by
  have hI := seen_anyi f Be a n c rows kids w hk hl hE hcl
  generalize kids.any f = bb at hI ⊢
  clear hE hcl
  go_enter Tryz.func55, Tryz.ntmps55
  go_wp2_with (go_at_call 82; refine hI.mono ?_; rintro e w' ⟨⟨m, rfl, hm, hm1⟩, hb⟩)
  go_ret
  refine ⟨schema.ret_bool ?_, hb⟩
  rw [Bool.eq_iff_iff, ← hm]

def atomB (op : Int) : Bool := decide (6 ≤ op ∧ op ≤ 15) || op == 5
def stepA (acc : List ED) (op : Int) (d : ED) : List ED := if atomB op && !acc.any (fun x => sameB x d) then acc ++ [d] else acc
mutual
def addS (acc : List ED) : ED → List ED
  | .mk op k n v ks => addL (stepA acc op (.mk op k n v ks)) ks
def addL (acc : List ED) : List ED → List ED
  | [] => acc
  | k :: r => addL (addS acc k) r
end
mutual
theorem addS_len : ∀ (acc : List ED) (d : ED), (addS acc d).length ≤ acc.length + cntE d
  | acc, .mk op k n v ks => by
    rw [addS, cntE]
    have h1 := addL_len (stepA acc op (.mk op k n v ks)) ks
    have h2 : (stepA acc op (.mk op k n v ks)).length ≤ acc.length + 1 := by unfold stepA; split <;> simp
    omega
theorem addL_len : ∀ (acc : List ED) (l : List ED), (addL acc l).length ≤ acc.length + cntL l
  | acc, [] => by simp [addL, cntL]
  | acc, k :: r => by
    rw [addL, cntL]
    have h1 := addS_len acc k
    have h2 := addL_len (addS acc k) r
    omega
end

/-- A list of atoms: a row of the call's own, of which each lies in the memory m. -/
structure AtS (base : Nat) (m : Mem) (w : World) (a : Option Addr) (n c : Nat) (rows : List (List Value)) (acc : List ED) : Prop where
  own : w.ownsRow base 29 5 (.slice a n c) n rows.flatten
  rl : rows.length = n
  al : acc.length = n
  five : ∀ r ∈ rows, r.length = 5
  ats : ∀ (i : Nat) (r : List Value) (d : ED), rows[i]? = some r → acc[i]? = some d → EAt m d r
theorem AtS.grown {base : Nat} {m : Mem} {w w' : World} {a : Option Addr} {n c : Nat} {rows : List (List Value)} {acc : List ED} (h : AtS base m w a n c rows acc) (hb : Below w.heap.size w w') (h0 : 0 < base) : AtS base m w' a n c rows acc :=
  ⟨owns_kept h.own (grown_of_below hb (some 0)) h0, h.rl, h.al, h.five, h.ats⟩
theorem AtS.rows {base : Nat} {m : Mem} {w : World} {a : Option Addr} {n c : Nat} {rs : List (List Value)} {acc : List ED} (h : AtS base m w a n c rs acc) : RowsAt w.cell? 5 (.slice a n c) rs := rows_of_owns h.own rs h.rl.symm h.five rfl
/-- Memory below a block. -/
def Low (base : Nat) (m : Mem) : Prop := ∀ p v, m p = some v → p.block < base
theorem sub_low {base : Nat} {m : Mem} {w w' : World} (h : Low base m) (hs : Sub m w.cell?) (hb : Below base w w') : Sub m w'.cell? := by
  intro p v hp
  have h1 := hs p v hp
  rw [World.cell?_of_block (hb.block p.block (h p v hp))]
  exact h1

set_option maxHeartbeats 1000000 in
theorem seen1 (x d : ED) (op : Int) (kind name : ByteArray) (va : Option Addr) (vn vc : Nat) (ka : Option Addr) (kn kc : Nat) (op' : Int) (kind' name' : ByteArray) (va' : Option Addr) (vn' vc' : Nat) (ka' : Option Addr) (kn' kc' : Nat) (Be : Nat) (m m' : Mem) (w : World)
    (hs : Own w Be #[.int .i64 op, .string kind, .string name, .slice va vn vc, .slice ka kn kc] 29) (hx : EAt m' x [.int .i64 op', .string kind', .string name', .slice va' vn' vc', .slice ka' kn' kc']) (hd : EAt m d [.int .i64 op, .string kind, .string name, .slice va vn vc, .slice ka kn kc]) (hm : Sub m w.cell?) (hm' : Sub m' w.cell?) :
    Calls Tryz.prog 83 #[.agg #[.int .i64 op', .string kind', .string name', .slice va' vn' vc', .slice ka' kn' kc'], .pointer (some ⟨Be, 0, none⟩)] w fun e w' => e = .returned (.bool (sameB x d)) ∧ Below w.heap.size w w' := by
  have hB : Below w.heap.size w (w.alloc (.cells #[.int .i64 op', .string kind', .string name', .slice va' vn' vc', .slice ka' kn' kc'] 29)) := (Below.refl _ _).alloc (Nat.le_refl _) _
  have hc := Lib.hid (same_any m' x _ hx m d _ hd _ (hm'.trans (sub_of_below hB)) (hm.trans (sub_of_below hB)))
  obtain ⟨x0, x1, x2, x3, x4⟩ := own5z hs
  have hsl := hs.lt
  replace hB := Lib.hid hB
  clear hs hx hd hm hm'
  go_enter Tryz.func83, Tryz.ntmps83
  go_wp2_with fail
  refine hc.out.mono ?_
  rintro e w1 ⟨rfl, hb⟩
  have hB1 := Lib.hid (hB.out.trans (hb.mono hB.out.size))
  clear hb
  go_wp2
  go_ret
  exact ⟨rfl, hB1.out⟩

/-- What atoms gives. -/
def AtomsIs (base : Nat) (m : Mem) (acc : List ED) (w : World) (e : Ending) (w' : World) : Prop :=
  (∃ a n c rows, e = .returned (.slice a n c) ∧ AtS base m w' a n c rows acc) ∧ Below base w w'
def AtomsOk (m : Mem) (d : ED) (r : List Value) : Prop := ∀ (base : Nat) (w : World) (a : Option Addr) (n c : Nat) (rows : List (List Value)) (acc : List ED), Sub m w.cell? → Low base m → 0 < base → base ≤ w.heap.size → AtS base m w a n c rows acc → acc.length + cntE d ≤ 1099511627776 →
  Calls Tryz.prog 59 #[.slice a n c, .agg r.toArray] w (AtomsIs base m (addS acc d) w)

set_option maxRecDepth 100000 in
set_option maxHeartbeats 4000000 in
theorem atoms_step (m : Mem) (op : Int) (kind name : ByteArray) (vals : List VD) (kids : List ED) (vs ks : Value) (rows : List (List Value)) (hv : RowsAt m 4 vs (vals.map VD.row)) (hk : RowsAt m 5 ks rows) (hl : rows.length = kids.length) (hL : ∀ v ∈ vals, LAt m v)
    (hE : ∀ (i : Nat) (r : List Value) (k : ED), rows[i]? = some r → kids[i]? = some k → EAt m k r)
    (ih : ∀ (j : Nat) (r : List Value) (k : ED), rows[j]? = some r → kids[j]? = some k → AtomsOk m k r) :
    AtomsOk m (.mk op kind name vals kids) [.int .i64 op, .string kind, .string name, vs, ks] := by
  intro base w a n c rs acc hs hlow h0 hbase hA hcnt
  obtain ⟨va, vn, vc, rfl⟩ : ∃ a n c, vs = .slice a n c := by obtain ⟨a, c, h, -⟩ := hv; exact ⟨_, _, _, h⟩
  obtain ⟨ka, kn, kc, rfl⟩ : ∃ a n c, ks = .slice a n c := by obtain ⟨a, c, h, -⟩ := hk; exact ⟨_, _, _, h⟩
  have hkn := (len_of hk).1
  have hkm := (len_of hk).2
  rw [hl] at hkn
  subst hkn
  have hED : EAt m (.mk op kind name vals kids) [.int .i64 op, .string kind, .string name, .slice va vn vc, .slice ka kids.length kc] := .mk rows hv hk hl hL hE
  have hB : Below w.heap.size w (w.alloc (.cells #[.int .i64 op, .string kind, .string name, .slice va vn vc, .slice ka kids.length kc] 29)) := (Below.refl _ _).alloc (Nat.le_refl _) _
  have hX := Own.new w #[.int .i64 op, .string kind, .string name, .slice va vn vc, .slice ka kids.length kc] 29
  have hs1 := hs.trans (sub_of_below hB)
  have hA1 := hA.grown hB h0
  have hsee := Lib.hid (seen_any (fun x => sameB x (.mk op kind name vals kids)) w.heap.size a n c rs acc _ hA1.rows (hA1.rl.trans hA1.al.symm) (fun i r k h1 h2 => (hA1.ats i r k h1 h2).mono hs1) (fun i r k w' h1 h2 hb => by
    obtain ⟨op', kind', name', va', vn', vc', ka', kn', kc', rfl⟩ := eat_five (hA1.ats i r k h1 h2)
    exact seen1 k _ op kind name va vn vc ka kids.length kc op' kind' name' va' vn' vc' ka' kn' kc' w.heap.size m m w' (hX.below hb (by simp)) (hA1.ats i _ k h1 h2) hED (hs1.trans (sub_of_below hb)) (hs1.trans (sub_of_below hb))))
  obtain ⟨x0, x1, x2, x3, x4⟩ := own5z hX
  have hne : (Value.slice a n c).ownBlock ≠ some w.heap.size := fun e => by have := (hA.own.lt _ e).2; omega
  have hsz : (w.alloc (.cells #[.int .i64 op, .string kind, .string name, .slice va vn vc, .slice ka kids.length kc] 29)).heap.size = w.heap.size + 1 := by simp
  replace hB := Lib.hid hB
  replace hX := Lib.hid hX
  replace hA1 := Lib.hid hA1
  replace hs1 := Lib.hid hs1
  replace hED := Lib.hid hED
  replace ih := Lib.hid ih
  replace hk := Lib.hid hk
  replace hE := Lib.hid hE
  replace hl := Lib.hid hl
  replace hlow := Lib.hid hlow
  clear hv hL hs hA
  obtain ⟨i0, hi, hz0, hz1, hz2⟩ := info_parts info26
  go_enter Tryz.func59, Tryz.ntmps59
  go_wp2_with fail
  refine (istest_prog op _).mono ?_
  rintro e w1 ⟨rfl, rfl⟩
  have hnl : acc.length + 1 ≤ 1099511627776 := by rw [cntE] at hcnt; omega
  cases ht : decide (6 ≤ op ∧ op ≤ 15) with
  | false =>
    cases h5 : (op == 5) with
    | false =>
      have hat : atomB op = false := by unfold atomB; rw [ht, h5]; rfl
      have hst := Lib.hid (show stepA acc op (.mk op kind name vals kids) = acc by unfold stepA; rw [hat]; rfl)
      go_wp2_with fail
      generalize w.alloc (.cells #[.int .i64 op, .string kind, .string name, .slice va vn vc, .slice ka kids.length kc] 29) = w1 at hB hs1 hA1 ⊢
      clear hsee x0 x1 x2 x3 x4 hsz hX
      have hQ := Lib.hid (show addS acc (.mk op kind name vals kids) = addL acc kids by rw [addS, hst.out])
      have hcn := Lib.hid (show (acc : List ED).length + cntL kids ≤ 1099511627776 by have h1 := hA1.out.al; rw [cntE] at hcnt; have h2 : (stepA acc op (.mk op kind name vals kids)).length ≤ acc.length + 1 := (by unfold stepA; split <;> simp); rw [hst.out] at h2; omega)
      have hbs := Lib.hid (show base ≤ w1.heap.size from Nat.le_trans hbase hB.out.size)
      have hBw := Lib.hid (show Below base w w1 from hB.out.mono hbase)
      go_loopw [0, 28] (fun s0 s28 wr => ∃ (k : Nat) (a' : Option Addr) (n' c' : Nat) (rs' : List (List Value)) (acc' : List ED), k ≤ kids.length ∧ s28 = .int .i64 k ∧ s0 = .slice a' n' c' ∧ Hid (AtS base m wr a' n' c' rs' acc') ∧ Hid (addL acc' (kids.drop k) = addL acc kids) ∧ Hid (acc'.length + cntL (kids.drop k) ≤ 1099511627776) ∧ Hid (Below base w1 wr)) (fun _ s28 _ => kids.length - (intOf s28).toNat)
      case atStart => exact ⟨0, a, n, c, rs, acc, Nat.zero_le _, rfl, rfl, hA1, Lib.hid rfl, hcn, Lib.hid (Below.refl _ _)⟩
      case round =>
        obtain ⟨k, a', n', c', rs', acc', hk1, rfl, rfl, hA', hT, hcl, hb⟩ := hrel
        by_cases hlt : k < kids.length
        case neg =>
          have hE1 := Lib.hid (show addS acc (.mk op kind name vals kids) = acc' by rw [hQ.out, ← hT.out, List.drop_eq_nil_of_le (by omega)]; rfl)
          go_wp2
          go_ret
          refine ⟨⟨a', n', c', rs', rfl, ?_⟩, hBw.out.trans hb.out⟩
          rw [hE1.out]
          exact hA'.out
        obtain ⟨blk, off, op', kind', name', va', vn', vc', ka', kn', kc', rfl, c0, c1, c2, c3, c4, hr⟩ := kid_at (hk.out.mono (sub_low hlow.out hs1.out hb.out)) hl.out (fun j r k h1 h2 => hE.out j r k h1 h2) hlt
        have n0 : (0 : Int) ≤ (k : Int) := by omega
        have n1 : (k : Int) < (kids.length : Int) := by omega
        have hbl : blk < wr.heap.size := World.block_lt_of_cell? wr _ c0
        have hb1 : Below wr.heap.size wr (wr.alloc (.cells #[.int .i64 op', .string kind', .string name', .slice va' vn' vc', .slice ka' kn' kc'] 29)) := (Below.refl _ _).alloc (Nat.le_refl _) _
        have hbsr : base ≤ wr.heap.size := Nat.le_trans hbs.out hb.out.size
        have hbb := Lib.hid (hb.out.trans (hb1.mono hbsr))
        have hdr := Lib.hid (show kids.drop k = kids[k] :: kids.drop (k + 1) from List.drop_eq_getElem_cons hlt)
        have hgo := Lib.hid (ih.out k _ kids[k] hr (List.getElem?_eq_getElem hlt) base _ a' n' c' rs' acc' (sub_low hlow.out hs1.out hbb.out) hlow.out h0 (by simp; omega) (hA'.out.grown hb1 h0) (by have h1 := hcl.out; rw [hdr.out, cntL] at h1; omega))
        clear hb1 hr
        go_wp2_with fail
        refine hgo.out.mono ?_
        rintro e w8 ⟨⟨a8, n8, c8, rs8, rfl, hA8⟩, hb8⟩
        have hb9 := Lib.hid (hbb.out.trans hb8)
        have hT9 := Lib.hid (show addL (addS acc' kids[k]) (kids.drop (k + 1)) = addL acc kids by rw [← hT.out, hdr.out, addL])
        have hc9 := Lib.hid (show (addS acc' kids[k]).length + cntL (kids.drop (k + 1)) ≤ 1099511627776 by have h1 := hcl.out; rw [hdr.out, cntL] at h1; have h2 := addS_len acc' kids[k]; omega)
        replace hA8 := Lib.hid hA8
        clear hgo hb8 c0 c1 c2 c3 c4
        go_wp2
        go_roundw
        case rel => exact ⟨k + 1, a8, n8, c8, rs8, addS acc' kids[k], by omega, by go_num, rfl, hA8, hT9, hc9, hb9⟩
        case measure => simp [intOf]; omega
    | true =>
      have hat : atomB op = true := by unfold atomB; rw [h5]; simp
      go_wp2_with fail
      refine hsee.out.mono ?_
      rintro e w3 ⟨rfl, hb3⟩
      have hA3 := Lib.hid (hA1.out.grown hb3 h0)
      have hX3 := hX.out.below hb3 (by rw [hsz]; omega)
      have hB3 := Lib.hid (hB.out.trans (hb3.mono hB.out.size))
      have hs3 := Lib.hid (hs1.out.trans (sub_of_below hb3))
      have hsz3 : w.heap.size + 1 ≤ w3.heap.size := by have := hb3.size; rw [hsz] at this; exact this
      clear hsee hb3 hA1 hs1 x0 x1 x2 x3 x4
      obtain ⟨x0, x1, x2, x3, x4⟩ := own5z hX3
      have hxl : w.heap.size < w3.heap.size := by omega
      have hX3' := Lib.hid hX3
      clear hX3
      cases hsn : acc.any (fun x => sameB x (.mk op kind name vals kids)) with
      | true =>
        have hst := Lib.hid (show stepA acc op (.mk op kind name vals kids) = acc by unfold stepA; rw [hsn]; simp)
        go_wp2_with fail
        have hQ := Lib.hid (show addS acc (.mk op kind name vals kids) = addL acc kids by rw [addS, hst.out])
        have hcn := Lib.hid (show (acc : List ED).length + cntL kids ≤ 1099511627776 by have h1 := hA3.out.al; rw [cntE] at hcnt; have h2 : (stepA acc op (.mk op kind name vals kids)).length ≤ acc.length + 1 := (by unfold stepA; split <;> simp); rw [hst.out] at h2; omega)
        have hbs := Lib.hid (show base ≤ w3.heap.size from Nat.le_trans hbase hB3.out.size)
        have hBw := Lib.hid (show Below base w w3 from hB3.out.mono hbase)
        go_loopw [0, 28] (fun s0 s28 wr => ∃ (k : Nat) (a' : Option Addr) (n' c' : Nat) (rs' : List (List Value)) (acc' : List ED), k ≤ kids.length ∧ s28 = .int .i64 k ∧ s0 = .slice a' n' c' ∧ Hid (AtS base m wr a' n' c' rs' acc') ∧ Hid (addL acc' (kids.drop k) = addL acc kids) ∧ Hid (acc'.length + cntL (kids.drop k) ≤ 1099511627776) ∧ Hid (Below base w3 wr)) (fun _ s28 _ => kids.length - (intOf s28).toNat)
        case atStart => exact ⟨0, a, n, c, rs, acc, Nat.zero_le _, rfl, rfl, hA3, Lib.hid rfl, hcn, Lib.hid (Below.refl _ _)⟩
        case round =>
          obtain ⟨k, a', n', c', rs', acc', hk1, rfl, rfl, hA', hT, hcl, hb⟩ := hrel
          by_cases hlt : k < kids.length
          case neg =>
            have hE1 := Lib.hid (show addS acc (.mk op kind name vals kids) = acc' by rw [hQ.out, ← hT.out, List.drop_eq_nil_of_le (by omega)]; rfl)
            go_wp2
            go_ret
            refine ⟨⟨a', n', c', rs', rfl, ?_⟩, hBw.out.trans hb.out⟩
            rw [hE1.out]
            exact hA'.out
          obtain ⟨blk, off, op', kind', name', va', vn', vc', ka', kn', kc', rfl, c0, c1, c2, c3, c4, hr⟩ := kid_at (hk.out.mono (sub_low hlow.out hs3.out hb.out)) hl.out (fun j r k h1 h2 => hE.out j r k h1 h2) hlt
          have n0 : (0 : Int) ≤ (k : Int) := by omega
          have n1 : (k : Int) < (kids.length : Int) := by omega
          have hbl : blk < wr.heap.size := World.block_lt_of_cell? wr _ c0
          have hb1 : Below wr.heap.size wr (wr.alloc (.cells #[.int .i64 op', .string kind', .string name', .slice va' vn' vc', .slice ka' kn' kc'] 29)) := (Below.refl _ _).alloc (Nat.le_refl _) _
          have hbsr : base ≤ wr.heap.size := Nat.le_trans hbs.out hb.out.size
          have hbb := Lib.hid (hb.out.trans (hb1.mono hbsr))
          have hdr := Lib.hid (show kids.drop k = kids[k] :: kids.drop (k + 1) from List.drop_eq_getElem_cons hlt)
          have hgo := Lib.hid (ih.out k _ kids[k] hr (List.getElem?_eq_getElem hlt) base _ a' n' c' rs' acc' (sub_low hlow.out hs3.out hbb.out) hlow.out h0 (by simp; omega) (hA'.out.grown hb1 h0) (by have h1 := hcl.out; rw [hdr.out, cntL] at h1; omega))
          clear hb1 hr
          go_wp2_with fail
          refine hgo.out.mono ?_
          rintro e w8 ⟨⟨a8, n8, c8, rs8, rfl, hA8⟩, hb8⟩
          have hb9 := Lib.hid (hbb.out.trans hb8)
          have hT9 := Lib.hid (show addL (addS acc' kids[k]) (kids.drop (k + 1)) = addL acc kids by rw [← hT.out, hdr.out, addL])
          have hc9 := Lib.hid (show (addS acc' kids[k]).length + cntL (kids.drop (k + 1)) ≤ 1099511627776 by have h1 := hcl.out; rw [hdr.out, cntL] at h1; have h2 := addS_len acc' kids[k]; omega)
          replace hA8 := Lib.hid hA8
          clear hgo hb8 c0 c1 c2 c3 c4
          go_wp2
          go_roundw
          case rel => exact ⟨k + 1, a8, n8, c8, rs8, addS acc' kids[k], by omega, by go_num, rfl, hA8, hT9, hc9, hb9⟩
          case measure => simp [intOf]; omega
      | false =>
        have hst := Lib.hid (show stepA acc op (.mk op kind name vals kids) = acc ++ [.mk op kind name vals kids] by unfold stepA; rw [hsn, hat]; rfl)
        have hown5 := Lib.hid (hA3.out.own.alloc (.cells #[.int .i64 op, .string kind, .string name, .slice va vn vc, .slice ka kids.length kc] 29))
        have hnn := hA3.out.al
        go_wp2_with (at_builtin; refine wpList_append_lies _ rfl _ _ 27 rfl base 29 i0 (.agg #[.int .i64 0, .string ⟨#[]⟩, .string ⟨#[]⟩, .slice none 0 0, .slice none 0 0]) 5 88 Tryz.underlying27 hi hz0 hz1 hz2 rfl (by decide) (.slice a n c) n rs.flatten rfl hown5.out ⟨w3.heap.size, 0, none⟩ 1 1 [.int .i64 op, .string kind, .string name, .slice va vn vc, .slice ka kids.length kc] rfl rfl (World.news_of_block (cs := #[.int .i64 op, .string kind, .string name, .slice va vn vc, .slice ka kids.length kc]) (t := 29) (fr := (0, 0)) (Own.new' rfl)) (by simp [Value.oneCell']) (by omega) (by unfold maxLen; omega) (by omega) (by simp; omega) (w3.heap.size + 1) (by simp) ?_; intro g cap w6 hown6 hgrow6 hat6 hgl6; have hX6 := (hX3'.out.alloc (.cells #[.int .i64 op, .string kind, .string name, .slice va vn vc, .slice ka kids.length kc] 29)).kept hgrow6 hne; clear x0 x1 x2 x3 x4; obtain ⟨x0, x1, x2, x3, x4⟩ := own5z hX6; have hx6l : w.heap.size < w6.heap.size := hX6.lt; replace hown6 := Lib.hid hown6; replace hgrow6 := Lib.hid hgrow6; clear hX6 hat6)
        have hA6 := Lib.hid (show AtS base m w6 (some ⟨g, 0, none⟩) (n + 1) cap (rs ++ [[.int .i64 op, .string kind, .string name, .slice va vn vc, .slice ka kids.length kc]]) (acc ++ [.mk op kind name vals kids]) from
          ⟨by simpa using hown6.out, by simp [hA3.out.rl], by simp [hA3.out.al], (fun r hr => by
            rcases List.mem_append.1 hr with hr | hr
            · exact hA3.out.five r hr
            · rw [List.mem_singleton.1 hr]; rfl), (fun i r d h1 h2 => by
            have hrl := hA3.out.rl
            have hal := hA3.out.al
            rcases Nat.lt_or_ge i n with hi | hi
            · rw [List.getElem?_append_left (by omega)] at h1 h2
              exact hA3.out.ats i r d h1 h2
            · rw [List.getElem?_append_right (by omega), List.getElem?_singleton] at h1 h2
              by_cases hik : i - n = 0
              · rw [if_pos (by omega)] at h1 h2
                obtain rfl := Option.some.inj h1
                obtain rfl := Option.some.inj h2
                exact hED.out
              · rw [if_neg (by omega)] at h1
                cases h1)⟩)
        have hB6b := (Below.refl w3.heap.size w3).alloc (Nat.le_refl _) (.cells #[.int .i64 op, .string kind, .string name, .slice va vn vc, .slice ka kids.length kc] 29)
        have hB6 := Lib.hid (show Below base w w6 from ((hB3.out.mono hbase).trans (hB6b.mono (by have := hB3.out.size; omega))).grown hgrow6.out (by simp; have := hB3.out.size; omega) (fun j hj => (hown5.out.lt j hj).1))
        have hs6 := Lib.hid (sub_low hlow.out hs3.out (show Below base w3 w6 from (hB6b.mono (by have := hB3.out.size; omega)).grown hgrow6.out (by simp; have := hB3.out.size; omega) (fun j hj => (hown5.out.lt j hj).1)))
        clear hB6b hown6 hgrow6 hown5 hA3 hX3'
        have hQ := Lib.hid (show addS acc (.mk op kind name vals kids) = addL (acc ++ [.mk op kind name vals kids]) kids by rw [addS, hst.out])
        have hcn := Lib.hid (show ((acc ++ [.mk op kind name vals kids]) : List ED).length + cntL kids ≤ 1099511627776 by have h1 := hA6.out.al; rw [cntE] at hcnt; have h2 : (stepA acc op (.mk op kind name vals kids)).length ≤ acc.length + 1 := (by unfold stepA; split <;> simp); rw [hst.out] at h2; omega)
        have hbs := Lib.hid (show base ≤ w6.heap.size from Nat.le_trans hbase hB6.out.size)
        have hBw := hB6
        go_loopw [0, 28] (fun s0 s28 wr => ∃ (k : Nat) (a' : Option Addr) (n' c' : Nat) (rs' : List (List Value)) (acc' : List ED), k ≤ kids.length ∧ s28 = .int .i64 k ∧ s0 = .slice a' n' c' ∧ Hid (AtS base m wr a' n' c' rs' acc') ∧ Hid (addL acc' (kids.drop k) = addL (acc ++ [.mk op kind name vals kids]) kids) ∧ Hid (acc'.length + cntL (kids.drop k) ≤ 1099511627776) ∧ Hid (Below base w6 wr)) (fun _ s28 _ => kids.length - (intOf s28).toNat)
        case atStart => exact ⟨0, (some ⟨g, 0, none⟩), (n + 1), cap, (rs ++ [[.int .i64 op, .string kind, .string name, .slice va vn vc, .slice ka kids.length kc]]), (acc ++ [.mk op kind name vals kids]), Nat.zero_le _, rfl, rfl, hA6, Lib.hid rfl, hcn, Lib.hid (Below.refl _ _)⟩
        case round =>
          obtain ⟨k, a', n', c', rs', acc', hk1, rfl, rfl, hA', hT, hcl, hb⟩ := hrel
          by_cases hlt : k < kids.length
          case neg =>
            have hE1 := Lib.hid (show addS acc (.mk op kind name vals kids) = acc' by rw [hQ.out, ← hT.out, List.drop_eq_nil_of_le (by omega)]; rfl)
            go_wp2
            go_ret
            refine ⟨⟨a', n', c', rs', rfl, ?_⟩, hBw.out.trans hb.out⟩
            rw [hE1.out]
            exact hA'.out
          obtain ⟨blk, off, op', kind', name', va', vn', vc', ka', kn', kc', rfl, c0, c1, c2, c3, c4, hr⟩ := kid_at (hk.out.mono (sub_low hlow.out hs6.out hb.out)) hl.out (fun j r k h1 h2 => hE.out j r k h1 h2) hlt
          have n0 : (0 : Int) ≤ (k : Int) := by omega
          have n1 : (k : Int) < (kids.length : Int) := by omega
          have hbl : blk < wr.heap.size := World.block_lt_of_cell? wr _ c0
          have hb1 : Below wr.heap.size wr (wr.alloc (.cells #[.int .i64 op', .string kind', .string name', .slice va' vn' vc', .slice ka' kn' kc'] 29)) := (Below.refl _ _).alloc (Nat.le_refl _) _
          have hbsr : base ≤ wr.heap.size := Nat.le_trans hbs.out hb.out.size
          have hbb := Lib.hid (hb.out.trans (hb1.mono hbsr))
          have hdr := Lib.hid (show kids.drop k = kids[k] :: kids.drop (k + 1) from List.drop_eq_getElem_cons hlt)
          have hgo := Lib.hid (ih.out k _ kids[k] hr (List.getElem?_eq_getElem hlt) base _ a' n' c' rs' acc' (sub_low hlow.out hs6.out hbb.out) hlow.out h0 (by simp; omega) (hA'.out.grown hb1 h0) (by have h1 := hcl.out; rw [hdr.out, cntL] at h1; omega))
          clear hb1 hr
          go_wp2_with fail
          refine hgo.out.mono ?_
          rintro e w8 ⟨⟨a8, n8, c8, rs8, rfl, hA8⟩, hb8⟩
          have hb9 := Lib.hid (hbb.out.trans hb8)
          have hT9 := Lib.hid (show addL (addS acc' kids[k]) (kids.drop (k + 1)) = addL (acc ++ [.mk op kind name vals kids]) kids by rw [← hT.out, hdr.out, addL])
          have hc9 := Lib.hid (show (addS acc' kids[k]).length + cntL (kids.drop (k + 1)) ≤ 1099511627776 by have h1 := hcl.out; rw [hdr.out, cntL] at h1; have h2 := addS_len acc' kids[k]; omega)
          replace hA8 := Lib.hid hA8
          clear hgo hb8 c0 c1 c2 c3 c4
          go_wp2
          go_roundw
          case rel => exact ⟨k + 1, a8, n8, c8, rs8, addS acc' kids[k], by omega, by go_num, rfl, hA8, hT9, hc9, hb9⟩
          case measure => simp [intOf]; omega
  | true =>
    have hat : atomB op = true := by unfold atomB; rw [ht]; rfl
    go_wp2_with fail
    refine hsee.out.mono ?_
    rintro e w3 ⟨rfl, hb3⟩
    have hA3 := Lib.hid (hA1.out.grown hb3 h0)
    have hX3 := hX.out.below hb3 (by rw [hsz]; omega)
    have hB3 := Lib.hid (hB.out.trans (hb3.mono hB.out.size))
    have hs3 := Lib.hid (hs1.out.trans (sub_of_below hb3))
    have hsz3 : w.heap.size + 1 ≤ w3.heap.size := by have := hb3.size; rw [hsz] at this; exact this
    clear hsee hb3 hA1 hs1 x0 x1 x2 x3 x4
    obtain ⟨x0, x1, x2, x3, x4⟩ := own5z hX3
    have hxl : w.heap.size < w3.heap.size := by omega
    have hX3' := Lib.hid hX3
    clear hX3
    cases hsn : acc.any (fun x => sameB x (.mk op kind name vals kids)) with
    | true =>
      have hst := Lib.hid (show stepA acc op (.mk op kind name vals kids) = acc by unfold stepA; rw [hsn]; simp)
      go_wp2_with fail
      have hQ := Lib.hid (show addS acc (.mk op kind name vals kids) = addL acc kids by rw [addS, hst.out])
      have hcn := Lib.hid (show (acc : List ED).length + cntL kids ≤ 1099511627776 by have h1 := hA3.out.al; rw [cntE] at hcnt; have h2 : (stepA acc op (.mk op kind name vals kids)).length ≤ acc.length + 1 := (by unfold stepA; split <;> simp); rw [hst.out] at h2; omega)
      have hbs := Lib.hid (show base ≤ w3.heap.size from Nat.le_trans hbase hB3.out.size)
      have hBw := Lib.hid (show Below base w w3 from hB3.out.mono hbase)
      go_loopw [0, 28] (fun s0 s28 wr => ∃ (k : Nat) (a' : Option Addr) (n' c' : Nat) (rs' : List (List Value)) (acc' : List ED), k ≤ kids.length ∧ s28 = .int .i64 k ∧ s0 = .slice a' n' c' ∧ Hid (AtS base m wr a' n' c' rs' acc') ∧ Hid (addL acc' (kids.drop k) = addL acc kids) ∧ Hid (acc'.length + cntL (kids.drop k) ≤ 1099511627776) ∧ Hid (Below base w3 wr)) (fun _ s28 _ => kids.length - (intOf s28).toNat)
      case atStart => exact ⟨0, a, n, c, rs, acc, Nat.zero_le _, rfl, rfl, hA3, Lib.hid rfl, hcn, Lib.hid (Below.refl _ _)⟩
      case round =>
        obtain ⟨k, a', n', c', rs', acc', hk1, rfl, rfl, hA', hT, hcl, hb⟩ := hrel
        by_cases hlt : k < kids.length
        case neg =>
          have hE1 := Lib.hid (show addS acc (.mk op kind name vals kids) = acc' by rw [hQ.out, ← hT.out, List.drop_eq_nil_of_le (by omega)]; rfl)
          go_wp2
          go_ret
          refine ⟨⟨a', n', c', rs', rfl, ?_⟩, hBw.out.trans hb.out⟩
          rw [hE1.out]
          exact hA'.out
        obtain ⟨blk, off, op', kind', name', va', vn', vc', ka', kn', kc', rfl, c0, c1, c2, c3, c4, hr⟩ := kid_at (hk.out.mono (sub_low hlow.out hs3.out hb.out)) hl.out (fun j r k h1 h2 => hE.out j r k h1 h2) hlt
        have n0 : (0 : Int) ≤ (k : Int) := by omega
        have n1 : (k : Int) < (kids.length : Int) := by omega
        have hbl : blk < wr.heap.size := World.block_lt_of_cell? wr _ c0
        have hb1 : Below wr.heap.size wr (wr.alloc (.cells #[.int .i64 op', .string kind', .string name', .slice va' vn' vc', .slice ka' kn' kc'] 29)) := (Below.refl _ _).alloc (Nat.le_refl _) _
        have hbsr : base ≤ wr.heap.size := Nat.le_trans hbs.out hb.out.size
        have hbb := Lib.hid (hb.out.trans (hb1.mono hbsr))
        have hdr := Lib.hid (show kids.drop k = kids[k] :: kids.drop (k + 1) from List.drop_eq_getElem_cons hlt)
        have hgo := Lib.hid (ih.out k _ kids[k] hr (List.getElem?_eq_getElem hlt) base _ a' n' c' rs' acc' (sub_low hlow.out hs3.out hbb.out) hlow.out h0 (by simp; omega) (hA'.out.grown hb1 h0) (by have h1 := hcl.out; rw [hdr.out, cntL] at h1; omega))
        clear hb1 hr
        go_wp2_with fail
        refine hgo.out.mono ?_
        rintro e w8 ⟨⟨a8, n8, c8, rs8, rfl, hA8⟩, hb8⟩
        have hb9 := Lib.hid (hbb.out.trans hb8)
        have hT9 := Lib.hid (show addL (addS acc' kids[k]) (kids.drop (k + 1)) = addL acc kids by rw [← hT.out, hdr.out, addL])
        have hc9 := Lib.hid (show (addS acc' kids[k]).length + cntL (kids.drop (k + 1)) ≤ 1099511627776 by have h1 := hcl.out; rw [hdr.out, cntL] at h1; have h2 := addS_len acc' kids[k]; omega)
        replace hA8 := Lib.hid hA8
        clear hgo hb8 c0 c1 c2 c3 c4
        go_wp2
        go_roundw
        case rel => exact ⟨k + 1, a8, n8, c8, rs8, addS acc' kids[k], by omega, by go_num, rfl, hA8, hT9, hc9, hb9⟩
        case measure => simp [intOf]; omega
    | false =>
      have hst := Lib.hid (show stepA acc op (.mk op kind name vals kids) = acc ++ [.mk op kind name vals kids] by unfold stepA; rw [hsn, hat]; rfl)
      have hown5 := Lib.hid (hA3.out.own.alloc (.cells #[.int .i64 op, .string kind, .string name, .slice va vn vc, .slice ka kids.length kc] 29))
      have hnn := hA3.out.al
      go_wp2_with (at_builtin; refine wpList_append_lies _ rfl _ _ 27 rfl base 29 i0 (.agg #[.int .i64 0, .string ⟨#[]⟩, .string ⟨#[]⟩, .slice none 0 0, .slice none 0 0]) 5 88 Tryz.underlying27 hi hz0 hz1 hz2 rfl (by decide) (.slice a n c) n rs.flatten rfl hown5.out ⟨w3.heap.size, 0, none⟩ 1 1 [.int .i64 op, .string kind, .string name, .slice va vn vc, .slice ka kids.length kc] rfl rfl (World.news_of_block (cs := #[.int .i64 op, .string kind, .string name, .slice va vn vc, .slice ka kids.length kc]) (t := 29) (fr := (0, 0)) (Own.new' rfl)) (by simp [Value.oneCell']) (by omega) (by unfold maxLen; omega) (by omega) (by simp; omega) (w3.heap.size + 1) (by simp) ?_; intro g cap w6 hown6 hgrow6 hat6 hgl6; have hX6 := (hX3'.out.alloc (.cells #[.int .i64 op, .string kind, .string name, .slice va vn vc, .slice ka kids.length kc] 29)).kept hgrow6 hne; clear x0 x1 x2 x3 x4; obtain ⟨x0, x1, x2, x3, x4⟩ := own5z hX6; have hx6l : w.heap.size < w6.heap.size := hX6.lt; replace hown6 := Lib.hid hown6; replace hgrow6 := Lib.hid hgrow6; clear hX6 hat6)
      have hA6 := Lib.hid (show AtS base m w6 (some ⟨g, 0, none⟩) (n + 1) cap (rs ++ [[.int .i64 op, .string kind, .string name, .slice va vn vc, .slice ka kids.length kc]]) (acc ++ [.mk op kind name vals kids]) from
        ⟨by simpa using hown6.out, by simp [hA3.out.rl], by simp [hA3.out.al], (fun r hr => by
          rcases List.mem_append.1 hr with hr | hr
          · exact hA3.out.five r hr
          · rw [List.mem_singleton.1 hr]; rfl), (fun i r d h1 h2 => by
          have hrl := hA3.out.rl
          have hal := hA3.out.al
          rcases Nat.lt_or_ge i n with hi | hi
          · rw [List.getElem?_append_left (by omega)] at h1 h2
            exact hA3.out.ats i r d h1 h2
          · rw [List.getElem?_append_right (by omega), List.getElem?_singleton] at h1 h2
            by_cases hik : i - n = 0
            · rw [if_pos (by omega)] at h1 h2
              obtain rfl := Option.some.inj h1
              obtain rfl := Option.some.inj h2
              exact hED.out
            · rw [if_neg (by omega)] at h1
              cases h1)⟩)
      have hB6b := (Below.refl w3.heap.size w3).alloc (Nat.le_refl _) (.cells #[.int .i64 op, .string kind, .string name, .slice va vn vc, .slice ka kids.length kc] 29)
      have hB6 := Lib.hid (show Below base w w6 from ((hB3.out.mono hbase).trans (hB6b.mono (by have := hB3.out.size; omega))).grown hgrow6.out (by simp; have := hB3.out.size; omega) (fun j hj => (hown5.out.lt j hj).1))
      have hs6 := Lib.hid (sub_low hlow.out hs3.out (show Below base w3 w6 from (hB6b.mono (by have := hB3.out.size; omega)).grown hgrow6.out (by simp; have := hB3.out.size; omega) (fun j hj => (hown5.out.lt j hj).1)))
      clear hB6b hown6 hgrow6 hown5 hA3 hX3'
      have hQ := Lib.hid (show addS acc (.mk op kind name vals kids) = addL (acc ++ [.mk op kind name vals kids]) kids by rw [addS, hst.out])
      have hcn := Lib.hid (show ((acc ++ [.mk op kind name vals kids]) : List ED).length + cntL kids ≤ 1099511627776 by have h1 := hA6.out.al; rw [cntE] at hcnt; have h2 : (stepA acc op (.mk op kind name vals kids)).length ≤ acc.length + 1 := (by unfold stepA; split <;> simp); rw [hst.out] at h2; omega)
      have hbs := Lib.hid (show base ≤ w6.heap.size from Nat.le_trans hbase hB6.out.size)
      have hBw := hB6
      go_loopw [0, 28] (fun s0 s28 wr => ∃ (k : Nat) (a' : Option Addr) (n' c' : Nat) (rs' : List (List Value)) (acc' : List ED), k ≤ kids.length ∧ s28 = .int .i64 k ∧ s0 = .slice a' n' c' ∧ Hid (AtS base m wr a' n' c' rs' acc') ∧ Hid (addL acc' (kids.drop k) = addL (acc ++ [.mk op kind name vals kids]) kids) ∧ Hid (acc'.length + cntL (kids.drop k) ≤ 1099511627776) ∧ Hid (Below base w6 wr)) (fun _ s28 _ => kids.length - (intOf s28).toNat)
      case atStart => exact ⟨0, (some ⟨g, 0, none⟩), (n + 1), cap, (rs ++ [[.int .i64 op, .string kind, .string name, .slice va vn vc, .slice ka kids.length kc]]), (acc ++ [.mk op kind name vals kids]), Nat.zero_le _, rfl, rfl, hA6, Lib.hid rfl, hcn, Lib.hid (Below.refl _ _)⟩
      case round =>
        obtain ⟨k, a', n', c', rs', acc', hk1, rfl, rfl, hA', hT, hcl, hb⟩ := hrel
        by_cases hlt : k < kids.length
        case neg =>
          have hE1 := Lib.hid (show addS acc (.mk op kind name vals kids) = acc' by rw [hQ.out, ← hT.out, List.drop_eq_nil_of_le (by omega)]; rfl)
          go_wp2
          go_ret
          refine ⟨⟨a', n', c', rs', rfl, ?_⟩, hBw.out.trans hb.out⟩
          rw [hE1.out]
          exact hA'.out
        obtain ⟨blk, off, op', kind', name', va', vn', vc', ka', kn', kc', rfl, c0, c1, c2, c3, c4, hr⟩ := kid_at (hk.out.mono (sub_low hlow.out hs6.out hb.out)) hl.out (fun j r k h1 h2 => hE.out j r k h1 h2) hlt
        have n0 : (0 : Int) ≤ (k : Int) := by omega
        have n1 : (k : Int) < (kids.length : Int) := by omega
        have hbl : blk < wr.heap.size := World.block_lt_of_cell? wr _ c0
        have hb1 : Below wr.heap.size wr (wr.alloc (.cells #[.int .i64 op', .string kind', .string name', .slice va' vn' vc', .slice ka' kn' kc'] 29)) := (Below.refl _ _).alloc (Nat.le_refl _) _
        have hbsr : base ≤ wr.heap.size := Nat.le_trans hbs.out hb.out.size
        have hbb := Lib.hid (hb.out.trans (hb1.mono hbsr))
        have hdr := Lib.hid (show kids.drop k = kids[k] :: kids.drop (k + 1) from List.drop_eq_getElem_cons hlt)
        have hgo := Lib.hid (ih.out k _ kids[k] hr (List.getElem?_eq_getElem hlt) base _ a' n' c' rs' acc' (sub_low hlow.out hs6.out hbb.out) hlow.out h0 (by simp; omega) (hA'.out.grown hb1 h0) (by have h1 := hcl.out; rw [hdr.out, cntL] at h1; omega))
        clear hb1 hr
        go_wp2_with fail
        refine hgo.out.mono ?_
        rintro e w8 ⟨⟨a8, n8, c8, rs8, rfl, hA8⟩, hb8⟩
        have hb9 := Lib.hid (hbb.out.trans hb8)
        have hT9 := Lib.hid (show addL (addS acc' kids[k]) (kids.drop (k + 1)) = addL (acc ++ [.mk op kind name vals kids]) kids by rw [← hT.out, hdr.out, addL])
        have hc9 := Lib.hid (show (addS acc' kids[k]).length + cntL (kids.drop (k + 1)) ≤ 1099511627776 by have h1 := hcl.out; rw [hdr.out, cntL] at h1; have h2 := addS_len acc' kids[k]; omega)
        replace hA8 := Lib.hid hA8
        clear hgo hb8 c0 c1 c2 c3 c4
        go_wp2
        go_roundw
        case rel => exact ⟨k + 1, a8, n8, c8, rs8, addS acc' kids[k], by omega, by go_num, rfl, hA8, hT9, hc9, hb9⟩
        case measure => simp [intOf]; omega

/-- The program's atoms. -/
theorem atoms_any (m : Mem) (d : ED) (r : List Value) (h : EAt m d r) : AtomsOk m d r := by
  induction h with
  | mk rows hv hk hl hL hE ih => exact atoms_step m _ _ _ _ _ _ _ rows hv hk hl hL hE ih

end Go.Proofs.YtlohdmghaeabjaaGreatDoor.clause

