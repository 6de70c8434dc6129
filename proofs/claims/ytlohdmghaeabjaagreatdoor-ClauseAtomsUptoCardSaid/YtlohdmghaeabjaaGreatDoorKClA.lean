/- The different atoms of a condition: the reference's AddAtoms and Atoms. -/
import Derived.Test.YtlohdmghaeabjaaGreatDoorKClZ
import Derived.Test.YtlohdmghaeabjaaGreatDoorKClQ
import Derived.Test.YtlohdmghaeabjaaGreatDoorKJ6
import Derived.Deep.RegionHeld
namespace Go.Proofs.YtlohdmghaeabjaaGreatDoor.clause
open Go.RowKit Go.Sort Go.Proofs.YtlohdmghaeabjaaGreatDoor Go.Proofs.YtlohdmghaeabjaaGreatDoor.schema Go.Proofs.YtlohdmghaeabjaaGreatDoor.value Go.Proofs.YtlohdmghaeabjaaGreatDoor.text Go.Proofs.YtlohdmghaeabjaaGreatDoor.draw

attribute [local go_sem ↓] Go.wp_at_zero Go.wp_at_succ

/-- A list of atoms, each of which lies in the memory m. -/
def RA (m : Mem) (u : World) (v : Value) (acc : List ED) : Prop := ∃ rows, RowsAt u.cell? 5 v rows ∧ rows.length = acc.length ∧ ∀ (i : Nat) (r : List Value) (k : ED), rows[i]? = some r → acc[i]? = some k → EAt m k r
theorem RA.below {m : Mem} {u x : World} {v : Value} {acc : List ED} (h : RA m u v acc) (hb : Below u.heap.size u x) : RA m x v acc := let ⟨rows, h1, h2, h3⟩ := h; ⟨rows, h1.mono (sub_of_below hb), h2, h3⟩
theorem ra_snoc {m : Mem} {u : World} {v : Value} {acc : List ED} {d : ED} {rows : List (List Value)} {r : List Value} (h1 : RowsAt u.cell? 5 v (rows ++ [r])) (h2 : rows.length = acc.length) (h3 : ∀ (i : Nat) (r : List Value) (k : ED), rows[i]? = some r → acc[i]? = some k → EAt m k r) (h4 : EAt m d r) : RA m u v (acc ++ [d]) := by
  refine ⟨_, h1, by simp [h2], fun i r' k hi hk => ?_⟩
  rcases Nat.lt_or_ge i rows.length with hl | hl
  · rw [List.getElem?_append_left hl] at hi
    rw [List.getElem?_append_left (by omega)] at hk
    exact h3 i r' k hi hk
  · rw [List.getElem?_append_right hl, List.getElem?_singleton] at hi
    rw [List.getElem?_append_right (by omega), List.getElem?_singleton] at hk
    by_cases hz : i - rows.length = 0
    · rw [if_pos hz] at hi
      rw [if_pos (by omega)] at hk
      obtain rfl := Option.some.inj hi
      obtain rfl := Option.some.inj hk
      exact h4
    · rw [if_neg hz] at hi; cases hi
def RAddIs (m : Mem) (w : World) (acc : List ED) (e : Ending) (w' : World) : Prop := (∃ (a : Option Addr) (n c : Nat), e = .returned (.slice a n c) ∧ RA m w' (.slice a n c) acc) ∧ Below w.heap.size w w'
def RAddOk (m : Mem) (d : ED) (r : List Value) : Prop := ∀ (w : World) (a : Option Addr) (n c : Nat) (acc : List ED), Sub m w.cell? → RA m w (.slice a n c) acc → acc.length + cntE d ≤ 1099511627776 →
  Calls Tryz.prog 61 #[.slice a n c, .agg r.toArray] w (RAddIs m w (addS acc d))

set_option maxRecDepth 100000 in
set_option maxHeartbeats 16000000 in
theorem radd_step (m : Mem) (op : Int) (kind name : ByteArray) (vals : List VD) (kids : List ED) (vs ks : Value) (rows0 : List (List Value)) (hv : RowsAt m 4 vs (vals.map VD.row)) (hk : RowsAt m 5 ks rows0) (hl0 : rows0.length = kids.length) (hL : ∀ v ∈ vals, LAt m v)
    (hE : ∀ (i : Nat) (r : List Value) (k : ED), rows0[i]? = some r → kids[i]? = some k → EAt m k r)
    (ih : ∀ (j : Nat) (r : List Value) (k : ED), rows0[j]? = some r → kids[j]? = some k → RAddOk m k r) :
    RAddOk m (ED.mk op kind name vals kids) [.int .i64 op, .string kind, .string name, vs, ks] := by
  intro w a n c acc hm hA hcnt
  obtain ⟨va, vn, vc, rfl⟩ : ∃ a n c, vs = .slice a n c := by obtain ⟨a, c, h, -⟩ := hv; exact ⟨_, _, _, h⟩
  obtain ⟨ka, kn, kc, rfl⟩ : ∃ a n c, ks = .slice a n c := by obtain ⟨a, c, h, -⟩ := hk; exact ⟨_, _, _, h⟩
  have hkn := (len_of hk).1
  have hkm := (len_of hk).2
  rw [hl0] at hkn
  subst hkn
  have hself := EAt.mk rows0 hv hk hl0 hL hE (op := op) (kind := kind) (name := name)
  obtain ⟨i0, hi, hz0, hz1, hz2⟩ := info_parts info26
  have hB := Lib.hid (show Below w.heap.size w (w.alloc (.cells #[.int .i64 op, .string kind, .string name, .slice va vn vc, .slice ka kids.length kc] 29)) from (Below.refl _ _).alloc (Nat.le_refl _) _)
  have hO := Lib.hid (Own.new w #[.int .i64 op, .string kind, .string name, .slice va vn vc, .slice ka kids.length kc] 29)
  replace hA := Lib.hid (hA.below hB.out)
  have hm1 := Lib.hid (hm.trans (sub_of_below hB.out))
  have hst0 := Lib.hid (show stepA acc op (ED.mk op kind name vals kids) = if atomB op && !acc.any (fun x => sameB x (ED.mk op kind name vals kids)) then acc ++ [(ED.mk op kind name vals kids)] else acc from rfl)
  have hQ0 := Lib.hid (show addS acc (ED.mk op kind name vals kids) = addL (stepA acc op (ED.mk op kind name vals kids)) kids by rw [addS])
  rw [cntE] at hcnt
  replace hself := Lib.hid hself
  replace hk := Lib.hid hk
  replace hl0 := Lib.hid hl0
  replace hE := Lib.hid hE
  replace ih := Lib.hid ih
  clear hv hL hm
  go_enter Tryz.func61, Tryz.ntmps61
  go_upto_region 1 with fail
  generalize w.alloc (.cells #[.int .i64 op, .string kind, .string name, .slice va vn vc, .slice ka kids.length kc] 29) = w1 at hB hO hA hm1 ⊢
  obtain ⟨g, hg⟩ : ∃ g : Nat, Hid (g = w.heap.size) := ⟨_, Lib.hid rfl⟩
  rw [← hg.out] at hO ⊢
  obtain ⟨x0, x1, x2, x3, x4⟩ := own5z hO.out
  have hgl := hO.out.lt
  cases hat : atomB op with
  | false =>
    have h56 : ¬ (6 ≤ op ∧ op ≤ 15) ∧ ¬ op = 5 := by unfold atomB at hat; simp at hat; omega
    have e5 : (op == 5) = false := by simpa using h56.2
    have e6 : decide (6 ≤ op ∧ op ≤ 15) = false := by simpa using h56.1
    have hQ1 := Lib.hid (show addS acc (ED.mk op kind name vals kids) = addL acc kids by rw [hQ0.out, hst0.out, hat]; rfl)
    have hcn := Lib.hid (show acc.length + cntL (kids.drop 0) ≤ 1099511627776 by rw [List.drop_zero]; omega)
    clear hat h56 hst0 hQ0
    go_wp2_with fail
    refine (istest_any op _).mono ?_
    rintro e wq ⟨rfl, rfl⟩
    rw [e6]
    clear e6 e5
    go_wp2_with fail
    go_loopw [0, 5] (fun s0 s5 wr => ∃ (i : Nat) (a' : Option Addr) (n' c' : Nat) (acc' : List ED), i ≤ kids.length ∧ s5 = .int .i64 i ∧ s0 = .slice a' n' c' ∧ Hid (RA m wr (.slice a' n' c') acc') ∧ Hid (Below w1.heap.size w1 wr) ∧ Hid (addL acc' (kids.drop i) = addL acc kids) ∧ Hid (acc'.length + cntL (kids.drop i) ≤ 1099511627776)) (fun _ s5 _ => kids.length - (intOf s5).toNat)
    case atStart => exact ⟨0, a, n, c, acc, Nat.zero_le _, rfl, rfl, hA, Lib.hid (Below.refl _ _), Lib.hid rfl, hcn⟩
    case round =>
      obtain ⟨i, a', n', c', acc', hi1, rfl, rfl, hA', hb, hT, hcl⟩ := hrel
      have hOb := hO.out.below hb.out hO.out.lt
      obtain ⟨x0, x1, x2, x3, x4⟩ := own5z hOb
      have hgw := hOb.lt
      have hBw := Lib.hid (hB.out.trans (hb.out.mono hB.out.size))
      by_cases hlt : i < kids.length
      case neg =>
        have hQ := Lib.hid (show addS acc (ED.mk op kind name vals kids) = acc' by rw [hQ1.out, ← hT.out, List.drop_eq_nil_of_le (by omega)]; rfl)
        go_wp2
        go_ret
        rw [hQ.out]
        exact ⟨⟨a', n', c', rfl, hA'.out⟩, hBw.out⟩
      have hmw := Lib.hid (hm1.out.trans (sub_of_below hb.out))
      obtain ⟨blk, off, op', kind', name', va', vn', vc', ka', kn', kc', rfl, c0, c1, c2, c3, c4, hr⟩ := kid_at (hk.out.mono hmw.out) hl0.out (fun j r k h1 h2 => hE.out j r k h1 h2) hlt
      have n0 : (0 : Int) ≤ (i : Int) := by omega
      have n1 : (i : Int) < (kids.length : Int) := by omega
      have hdr := Lib.hid (List.drop_eq_getElem_cons hlt)
      have hgo := Lib.hid (ih.out i _ kids[i] hr (List.getElem?_eq_getElem hlt) wr a' n' c' acc' hmw.out hA'.out (by have h1 := hcl.out; rw [hdr.out, cntL] at h1; omega))
      have hT9 := Lib.hid (show addL (addS acc' kids[i]) (kids.drop (i + 1)) = addL acc kids by rw [← hT.out, hdr.out, addL])
      have hc9 := Lib.hid (show (addS acc' kids[i]).length + cntL (kids.drop (i + 1)) ≤ 1099511627776 by have h1 := hcl.out; rw [hdr.out, cntL] at h1; have h2 := addS_len acc' kids[i]; omega)
      clear hr hdr hcl hT
      generalize kids[i] = kd at hgo hT9 hc9
      go_wp2_with fail
      refine hgo.out.mono ?_
      rintro e w9 ⟨⟨a9, n9, c9, rfl, hA9⟩, hb9⟩
      have hb10 := Lib.hid (hb.out.trans (hb9.mono hb.out.size))
      replace hA9 := Lib.hid hA9
      clear hgo hb9 c0 c1 c2 c3 c4 x0 x1 x2 x3 x4 hOb hA' hmw
      go_wp2
      go_roundw
      case rel => exact ⟨i + 1, a9, n9, c9, _, by omega, by go_num, rfl, hA9, hb10, hT9, hc9⟩
      case measure => simp [intOf]; omega
  | true =>
    have hX := Lib.hid (by
      obtain ⟨rows, h1, h2, h3⟩ := hA.out
      exact rindex_any acc rows a n c m m (ED.mk op kind name vals kids) _ hself.out w1 h1 h2 h3 hm1.out hm1.out)
    have hone : op = 5 ∨ (6 ≤ op ∧ op ≤ 15) := by unfold atomB at hat; simp at hat; omega
    have hatk := Lib.hid hat
    clear hat
    by_cases h5 : op = 5
    case pos =>
      have e5 : (op == 5) = true := by simpa using h5
      have h5k := Lib.hid h5
      clear h5 hone
      go_wp2_with fail
      refine hX.out.mono ?_
      rintro e w2 ⟨⟨q, rfl, hq, hq1⟩, hb2⟩
      have hB2 := Lib.hid (hB.out.trans (hb2.mono hB.out.size))
      have hO2 := Lib.hid (hO.out.below hb2 hgl)
      have hA2 := Lib.hid (hA.out.below hb2)
      have hm2 := Lib.hid (hm1.out.trans (sub_of_below hb2))
      clear hX hb2 hB hO hA hm1 x0 x1 x2 x3 x4 e5 h5k
      obtain ⟨x0, x1, x2, x3, x4⟩ := own5z hO2.out
      have hgl2 := hO2.out.lt
      cases hfd : acc.any (fun x => sameB x (ED.mk op kind name vals kids)) with
      | true =>
        have hQ1 := Lib.hid (show addS acc (ED.mk op kind name vals kids) = addL acc kids by rw [hQ0.out, hst0.out, hatk.out, hfd]; rfl)
        have hcn := Lib.hid (show acc.length + cntL (kids.drop 0) ≤ 1099511627776 by rw [List.drop_zero]; omega)
        have hqq : ¬ q < 0 := by rw [hfd] at hq; simpa using hq
        clear hq hfd hst0 hQ0
        go_wp2_with fail
        go_loopw [0, 5] (fun s0 s5 wr => ∃ (i : Nat) (a' : Option Addr) (n' c' : Nat) (acc' : List ED), i ≤ kids.length ∧ s5 = .int .i64 i ∧ s0 = .slice a' n' c' ∧ Hid (RA m wr (.slice a' n' c') acc') ∧ Hid (Below w2.heap.size w2 wr) ∧ Hid (addL acc' (kids.drop i) = addL acc kids) ∧ Hid (acc'.length + cntL (kids.drop i) ≤ 1099511627776)) (fun _ s5 _ => kids.length - (intOf s5).toNat)
        case atStart => exact ⟨0, a, n, c, acc, Nat.zero_le _, rfl, rfl, hA2, Lib.hid (Below.refl _ _), Lib.hid rfl, hcn⟩
        case round =>
          obtain ⟨i, a', n', c', acc', hi1, rfl, rfl, hA', hb, hT, hcl⟩ := hrel
          have hOb := hO2.out.below hb.out hO2.out.lt
          obtain ⟨x0, x1, x2, x3, x4⟩ := own5z hOb
          have hgw := hOb.lt
          have hBw := Lib.hid (hB2.out.trans (hb.out.mono hB2.out.size))
          by_cases hlt : i < kids.length
          case neg =>
            have hQ := Lib.hid (show addS acc (ED.mk op kind name vals kids) = acc' by rw [hQ1.out, ← hT.out, List.drop_eq_nil_of_le (by omega)]; rfl)
            go_wp2
            go_ret
            rw [hQ.out]
            exact ⟨⟨a', n', c', rfl, hA'.out⟩, hBw.out⟩
          have hmw := Lib.hid (hm2.out.trans (sub_of_below hb.out))
          obtain ⟨blk, off, op', kind', name', va', vn', vc', ka', kn', kc', rfl, c0, c1, c2, c3, c4, hr⟩ := kid_at (hk.out.mono hmw.out) hl0.out (fun j r k h1 h2 => hE.out j r k h1 h2) hlt
          have n0 : (0 : Int) ≤ (i : Int) := by omega
          have n1 : (i : Int) < (kids.length : Int) := by omega
          have hdr := Lib.hid (List.drop_eq_getElem_cons hlt)
          have hgo := Lib.hid (ih.out i _ kids[i] hr (List.getElem?_eq_getElem hlt) wr a' n' c' acc' hmw.out hA'.out (by have h1 := hcl.out; rw [hdr.out, cntL] at h1; omega))
          have hT9 := Lib.hid (show addL (addS acc' kids[i]) (kids.drop (i + 1)) = addL acc kids by rw [← hT.out, hdr.out, addL])
          have hc9 := Lib.hid (show (addS acc' kids[i]).length + cntL (kids.drop (i + 1)) ≤ 1099511627776 by have h1 := hcl.out; rw [hdr.out, cntL] at h1; have h2 := addS_len acc' kids[i]; omega)
          clear hr hdr hcl hT
          generalize kids[i] = kd at hgo hT9 hc9
          go_wp2_with fail
          refine hgo.out.mono ?_
          rintro e w9 ⟨⟨a9, n9, c9, rfl, hA9⟩, hb9⟩
          have hb10 := Lib.hid (hb.out.trans (hb9.mono hb.out.size))
          replace hA9 := Lib.hid hA9
          clear hgo hb9 c0 c1 c2 c3 c4 x0 x1 x2 x3 x4 hOb hA' hmw
          go_wp2
          go_roundw
          case rel => exact ⟨i + 1, a9, n9, c9, _, by omega, by go_num, rfl, hA9, hb10, hT9, hc9⟩
          case measure => simp [intOf]; omega
      | false =>
        have hQ1 := Lib.hid (show addS acc (ED.mk op kind name vals kids) = addL (acc ++ [(ED.mk op kind name vals kids)]) kids by rw [hQ0.out, hst0.out, hatk.out, hfd]; rfl)
        have hcn := Lib.hid (show (acc ++ [(ED.mk op kind name vals kids)]).length + cntL (kids.drop 0) ≤ 1099511627776 by rw [List.drop_zero, List.length_append, List.length_singleton]; omega)
        have hqq : q < 0 := by rw [hfd] at hq; simpa using hq
        clear hq hfd hst0 hQ0
        go_wp2_with fail
        obtain ⟨rows, hr1, hr2, hr3⟩ := hA2.out
        have hrl := (rows_len hr1).1
        subst hrl
        have hr5 := rows5 hr2 hr3
        have hf1 := flat5_one hr2 hr3
        have hrn : rows.length ≤ 1099511627776 := by omega
        replace hr2 := Lib.hid hr2
        refine wp_region_held_drew (S := fun u => Below w2.heap.size w2 u) (by kernel_rfl) ((Below.refl _ _).grown (grown_drew w2 none) (Nat.le_refl _) (fun k e => by cases e)) (fun hHeld => ?_)
        have hrd : RowsAt w2.drew.cell? 5 (.slice a rows.length c) rows := hr1
        generalize w2.drew = wd at hHeld hrd ⊢
        refine wpAnyH_take (i := 0) (oi := ?oi1) (v := ?v1) ?ho1 (by kernel_rfl) (by kernel_rfl) (by kernel_rfl) ?hp1 (Or.inl ⟨?hw1, ?hy1⟩) (by assumption) ?rest1
        case ho1 => simp only [List.getElem?_toArray, List.getElem?_cons_zero]; rfl
        case hp1 => exact fun _ _ _ h => h
        case hw1 => rfl
        case hy1 =>
          intro W hSw
          go_simp
          try exact rfl
        simp only [Act.put, List.setIfInBounds_toArray, List.set_cons_zero, List.set_cons_succ]
        refine wpAnyH_take (i := 2) (oi := ?oi2) (v := ?v2) ?ho2 (by kernel_rfl) (by kernel_rfl) (by kernel_rfl) ?hp2 (Or.inl ⟨?hw2, ?hy2⟩) (by assumption) ?rest2
        case ho2 => simp only [List.getElem?_toArray, List.getElem?_cons_succ, List.getElem?_cons_zero]; rfl
        case hp2 => exact fun _ _ _ h => h
        case hw2 => rfl
        case hy2 =>
          intro W hSw
          obtain ⟨h0, h1, h2, h3, h4⟩ := own5z (hO2.out.below hSw hgl2)
          go_simp
          try exact rfl
        try simp only [Act.put, List.setIfInBounds_toArray, List.set_cons_zero, List.set_cons_succ]
        refine wpAnyH_ready (rs := [1, 3]) (by kernel_rfl) (by simp) ?_
        refine AllReadyH.cons rfl (fun K hK => ?_) (AllReadyH.cons rfl (fun K hK => ?_) AllReadyH.nil)
        · rw [if_pos (by rfl)]
          refine wp_append_rows _ _ 27 rfl w2.heap.size 29 i0 (.agg #[.int .i64 0, .string ⟨#[]⟩, .string ⟨#[]⟩, .slice none 0 0, .slice none 0 0]) 5 88 Tryz.underlying27 hi hz0 hz1 hz2 rfl (by decide) _ 0 [] rfl (World.ownsRow_nil wd w2.heap.size 29 5) a rows.length c rows wd.cell? rfl hrd (Sub.refl _) hr5 hf1 (by unfold maxLen; omega) (by omega) hHeld.size (fun v4 w4 ho hg4 => ?_)
          have hH4 : Below w2.heap.size w2 w4 := hHeld.grown hg4 hHeld.size (fun k e => by cases e)
          refine hK.out _ _ hH4 (fun hHeld => ?_)
          clear hK K hg4 hH4
          try simp only [Act.put]
          refine wpAnyH_ready (rs := [3]) (by kernel_rfl) (by simp) ?_
          refine AllReadyH.cons rfl (fun K hK => ?_) AllReadyH.nil
          go_simp
          have ho5 := ho.alloc (.cells #[.int .i64 op, .string kind, .string name, .slice va vn vc, .slice ka kids.length kc] 29)
          have hN5 := Own.new w4 #[.int .i64 op, .string kind, .string name, .slice va vn vc, .slice ka kids.length kc] 29
          have hH5 : Below w2.heap.size w2 (w4.alloc (.cells #[.int .i64 op, .string kind, .string name, .slice va vn vc, .slice ka kids.length kc] 29)) := hHeld.alloc hHeld.size _
          refine hK.out _ _ hH5 (fun hHeld => ?_)
          clear hK K hH5 ho
          generalize w4.alloc (.cells #[.int .i64 op, .string kind, .string name, .slice va vn vc, .slice ka kids.length kc] 29) = w5 at hHeld ho5 hN5 ⊢
          refine wpAnyH_ready (rs := [4]) (by kernel_rfl) (by simp) ?_
          refine AllReadyH.cons rfl (fun K hK => ?_) AllReadyH.nil
          rw [if_pos (by rfl)]
          refine wp_append_own w5 _ _ 27 rfl w2.heap.size 29 i0 (.agg #[.int .i64 0, .string ⟨#[]⟩, .string ⟨#[]⟩, .slice none 0 0, .slice none 0 0]) 5 88 Tryz.underlying27 hi hz0 hz1 hz2 rfl (by decide) _ (0 + rows.length) ([] ++ rows.flatten) rfl ho5 ⟨w4.heap.size, 0, none⟩ 1 1 [.int .i64 op, .string kind, .string name, .slice va vn vc, .slice ka kids.length kc] rfl rfl (World.news_of_block (cs := #[.int .i64 op, .string kind, .string name, .slice va vn vc, .slice ka kids.length kc]) (t := 29) (fr := (0, 0)) hN5) (by simp [Value.oneCell']) (by unfold maxLen; omega) (by omega) hHeld.size (fun v6 w6 ho6 hg6 _ => ?_)
          have hH6 : Below w2.heap.size w2 w6 := hHeld.grown hg6 hHeld.size (fun k e => (ho5.lt k e).1)
          refine hK.out _ _ hH6 (fun hHeld => ?_)
          clear hK K hg6
          refine wpAnyH_take (i := 5) (oi := ?oi3) (v := ?v3) ?ho3 (by kernel_rfl) (by kernel_rfl) (by kernel_rfl) ?hp3 (Or.inl ⟨?hw3, ?hy3⟩) (by assumption) ?rest3
          case ho3 => simp only [List.getElem?_toArray, List.getElem?_cons_succ, List.getElem?_cons_zero]; rfl
          case hp3 => exact fun _ _ _ h => h
          case hw3 => rfl
          case hy3 =>
            intro W hSw
            go_simp
            try exact rfl
          simp only [Act.put]
          refine wpAnyH_done (by kernel_rfl) ?_ _
          simp only [Nat.zero_add, List.nil_append] at ho6
          obtain ⟨a6, c6, rfl⟩ := owns_slice ho6
          have hA6 := Lib.hid (ra_snoc (m := m) (v := .slice a6 (rows.length + 1) c6) (rows_of_owns ho6 (rows ++ [[.int .i64 op, .string kind, .string name, .slice va vn vc, .slice ka kids.length kc]]) (by simp) (by intro r hr; rcases List.mem_append.1 hr with hr | hr; exact hr5 r hr; rw [List.mem_singleton.1 hr]; rfl) (by simp)) hr2.out hr3 hself.out)
          have hB6 := Lib.hid (hB2.out.trans (hH6.mono hB2.out.size))
          have hO6 := Lib.hid (hO2.out.below hH6 hgl2)
          have hm6 := Lib.hid (hm2.out.trans (sub_of_below hH6))
          clear hH6 hHeld ho6 ho5 hr1 hr2 hr3 hr5 hf1 hrd hA2 hB2 hO2 hm2 x0 x1 x2 x3 x4 hgl2
          obtain ⟨x0, x1, x2, x3, x4⟩ := own5z hO6.out
          have hgl6 := hO6.out.lt
          go_wp2_with fail
          go_loopw [0, 5] (fun s0 s5 wr => ∃ (i : Nat) (a' : Option Addr) (n' c' : Nat) (acc' : List ED), i ≤ kids.length ∧ s5 = .int .i64 i ∧ s0 = .slice a' n' c' ∧ Hid (RA m wr (.slice a' n' c') acc') ∧ Hid (Below w6.heap.size w6 wr) ∧ Hid (addL acc' (kids.drop i) = addL (acc ++ [(ED.mk op kind name vals kids)]) kids) ∧ Hid (acc'.length + cntL (kids.drop i) ≤ 1099511627776)) (fun _ s5 _ => kids.length - (intOf s5).toNat)
          case atStart => exact ⟨0, a6, rows.length + 1, c6, (acc ++ [(ED.mk op kind name vals kids)]), Nat.zero_le _, rfl, rfl, hA6, Lib.hid (Below.refl _ _), Lib.hid rfl, hcn⟩
          case round =>
            obtain ⟨i, a', n', c', acc', hi1, rfl, rfl, hA', hb, hT, hcl⟩ := hrel
            have hOb := hO6.out.below hb.out hO6.out.lt
            obtain ⟨x0, x1, x2, x3, x4⟩ := own5z hOb
            have hgw := hOb.lt
            have hBw := Lib.hid (hB6.out.trans (hb.out.mono hB6.out.size))
            by_cases hlt : i < kids.length
            case neg =>
              have hQ := Lib.hid (show addS acc (ED.mk op kind name vals kids) = acc' by rw [hQ1.out, ← hT.out, List.drop_eq_nil_of_le (by omega)]; rfl)
              go_wp2
              go_ret
              rw [hQ.out]
              exact ⟨⟨a', n', c', rfl, hA'.out⟩, hBw.out⟩
            have hmw := Lib.hid (hm6.out.trans (sub_of_below hb.out))
            obtain ⟨blk, off, op', kind', name', va', vn', vc', ka', kn', kc', rfl, c0, c1, c2, c3, c4, hr⟩ := kid_at (hk.out.mono hmw.out) hl0.out (fun j r k h1 h2 => hE.out j r k h1 h2) hlt
            have n0 : (0 : Int) ≤ (i : Int) := by omega
            have n1 : (i : Int) < (kids.length : Int) := by omega
            have hdr := Lib.hid (List.drop_eq_getElem_cons hlt)
            have hgo := Lib.hid (ih.out i _ kids[i] hr (List.getElem?_eq_getElem hlt) wr a' n' c' acc' hmw.out hA'.out (by have h1 := hcl.out; rw [hdr.out, cntL] at h1; omega))
            have hT9 := Lib.hid (show addL (addS acc' kids[i]) (kids.drop (i + 1)) = addL (acc ++ [(ED.mk op kind name vals kids)]) kids by rw [← hT.out, hdr.out, addL])
            have hc9 := Lib.hid (show (addS acc' kids[i]).length + cntL (kids.drop (i + 1)) ≤ 1099511627776 by have h1 := hcl.out; rw [hdr.out, cntL] at h1; have h2 := addS_len acc' kids[i]; omega)
            clear hr hdr hcl hT
            generalize kids[i] = kd at hgo hT9 hc9
            go_wp2_with fail
            refine hgo.out.mono ?_
            rintro e w9 ⟨⟨a9, n9, c9, rfl, hA9⟩, hb9⟩
            have hb10 := Lib.hid (hb.out.trans (hb9.mono hb.out.size))
            replace hA9 := Lib.hid hA9
            clear hgo hb9 c0 c1 c2 c3 c4 x0 x1 x2 x3 x4 hOb hA' hmw
            go_wp2
            go_roundw
            case rel => exact ⟨i + 1, a9, n9, c9, _, by omega, by go_num, rfl, hA9, hb10, hT9, hc9⟩
            case measure => simp [intOf]; omega
        · go_simp
          have hN4 := Own.new wd #[.int .i64 op, .string kind, .string name, .slice va vn vc, .slice ka kids.length kc] 29
          have hr4 : RowsAt (wd.alloc (.cells #[.int .i64 op, .string kind, .string name, .slice va vn vc, .slice ka kids.length kc] 29)).cell? 5 (.slice a rows.length c) rows := hrd.mono (sub_alloc (Sub.refl _) _)
          have hH4 : Below w2.heap.size w2 (wd.alloc (.cells #[.int .i64 op, .string kind, .string name, .slice va vn vc, .slice ka kids.length kc] 29)) := hHeld.alloc hHeld.size _
          refine hK.out _ _ hH4 (fun hHeld => ?_)
          clear hK K hH4
          generalize wd.alloc (.cells #[.int .i64 op, .string kind, .string name, .slice va vn vc, .slice ka kids.length kc] 29) = w3 at hHeld hN4 hr4 ⊢
          generalize wd.heap.size = bl at hN4 ⊢
          refine wpAnyH_ready (rs := [1]) (by kernel_rfl) (by simp) ?_
          refine AllReadyH.cons rfl (fun K hK => ?_) AllReadyH.nil
          rw [if_pos (by rfl)]
          refine wp_append_rows _ _ 27 rfl w2.heap.size 29 i0 (.agg #[.int .i64 0, .string ⟨#[]⟩, .string ⟨#[]⟩, .slice none 0 0, .slice none 0 0]) 5 88 Tryz.underlying27 hi hz0 hz1 hz2 rfl (by decide) _ 0 [] rfl (World.ownsRow_nil w3 w2.heap.size 29 5) a rows.length c rows w3.cell? rfl hr4 (Sub.refl _) hr5 hf1 (by unfold maxLen; omega) (by omega) hHeld.size (fun v4 w4 ho hg4 => ?_)
          have hH4 : Below w2.heap.size w2 w4 := hHeld.grown hg4 hHeld.size (fun k e => by cases e)
          have hN5 := hN4.kept hg4 (fun e => by cases e)
          have ho5 := ho
          refine hK.out _ _ hH4 (fun hHeld => ?_)
          clear hK K hg4 hH4 ho hN4
          try simp only [Act.put]
          refine wpAnyH_ready (rs := [4]) (by kernel_rfl) (by simp) ?_
          refine AllReadyH.cons rfl (fun K hK => ?_) AllReadyH.nil
          rw [if_pos (by rfl)]
          refine wp_append_own w4 _ _ 27 rfl w2.heap.size 29 i0 (.agg #[.int .i64 0, .string ⟨#[]⟩, .string ⟨#[]⟩, .slice none 0 0, .slice none 0 0]) 5 88 Tryz.underlying27 hi hz0 hz1 hz2 rfl (by decide) _ (0 + rows.length) ([] ++ rows.flatten) rfl ho5 ⟨bl, 0, none⟩ 1 1 [.int .i64 op, .string kind, .string name, .slice va vn vc, .slice ka kids.length kc] rfl rfl (World.news_of_block (cs := #[.int .i64 op, .string kind, .string name, .slice va vn vc, .slice ka kids.length kc]) (t := 29) (fr := (0, 0)) hN5) (by simp [Value.oneCell']) (by unfold maxLen; omega) (by omega) hHeld.size (fun v6 w6 ho6 hg6 _ => ?_)
          have hH6 : Below w2.heap.size w2 w6 := hHeld.grown hg6 hHeld.size (fun k e => (ho5.lt k e).1)
          refine hK.out _ _ hH6 (fun hHeld => ?_)
          clear hK K hg6
          refine wpAnyH_take (i := 5) (oi := ?oi4) (v := ?v4) ?ho4 (by kernel_rfl) (by kernel_rfl) (by kernel_rfl) ?hp4 (Or.inl ⟨?hw4, ?hy4⟩) (by assumption) ?rest4
          case ho4 => simp only [List.getElem?_toArray, List.getElem?_cons_succ, List.getElem?_cons_zero]; rfl
          case hp4 => exact fun _ _ _ h => h
          case hw4 => rfl
          case hy4 =>
            intro W hSw
            go_simp
            try exact rfl
          simp only [Act.put]
          refine wpAnyH_done (by kernel_rfl) ?_ _
          simp only [Nat.zero_add, List.nil_append] at ho6
          obtain ⟨a6, c6, rfl⟩ := owns_slice ho6
          have hA6 := Lib.hid (ra_snoc (m := m) (v := .slice a6 (rows.length + 1) c6) (rows_of_owns ho6 (rows ++ [[.int .i64 op, .string kind, .string name, .slice va vn vc, .slice ka kids.length kc]]) (by simp) (by intro r hr; rcases List.mem_append.1 hr with hr | hr; exact hr5 r hr; rw [List.mem_singleton.1 hr]; rfl) (by simp)) hr2.out hr3 hself.out)
          have hB6 := Lib.hid (hB2.out.trans (hH6.mono hB2.out.size))
          have hO6 := Lib.hid (hO2.out.below hH6 hgl2)
          have hm6 := Lib.hid (hm2.out.trans (sub_of_below hH6))
          clear hH6 hHeld ho6 ho5 hr1 hr2 hr3 hr5 hf1 hrd hA2 hB2 hO2 hm2 x0 x1 x2 x3 x4 hgl2
          obtain ⟨x0, x1, x2, x3, x4⟩ := own5z hO6.out
          have hgl6 := hO6.out.lt
          go_wp2_with fail
          go_loopw [0, 5] (fun s0 s5 wr => ∃ (i : Nat) (a' : Option Addr) (n' c' : Nat) (acc' : List ED), i ≤ kids.length ∧ s5 = .int .i64 i ∧ s0 = .slice a' n' c' ∧ Hid (RA m wr (.slice a' n' c') acc') ∧ Hid (Below w6.heap.size w6 wr) ∧ Hid (addL acc' (kids.drop i) = addL (acc ++ [(ED.mk op kind name vals kids)]) kids) ∧ Hid (acc'.length + cntL (kids.drop i) ≤ 1099511627776)) (fun _ s5 _ => kids.length - (intOf s5).toNat)
          case atStart => exact ⟨0, a6, rows.length + 1, c6, (acc ++ [(ED.mk op kind name vals kids)]), Nat.zero_le _, rfl, rfl, hA6, Lib.hid (Below.refl _ _), Lib.hid rfl, hcn⟩
          case round =>
            obtain ⟨i, a', n', c', acc', hi1, rfl, rfl, hA', hb, hT, hcl⟩ := hrel
            have hOb := hO6.out.below hb.out hO6.out.lt
            obtain ⟨x0, x1, x2, x3, x4⟩ := own5z hOb
            have hgw := hOb.lt
            have hBw := Lib.hid (hB6.out.trans (hb.out.mono hB6.out.size))
            by_cases hlt : i < kids.length
            case neg =>
              have hQ := Lib.hid (show addS acc (ED.mk op kind name vals kids) = acc' by rw [hQ1.out, ← hT.out, List.drop_eq_nil_of_le (by omega)]; rfl)
              go_wp2
              go_ret
              rw [hQ.out]
              exact ⟨⟨a', n', c', rfl, hA'.out⟩, hBw.out⟩
            have hmw := Lib.hid (hm6.out.trans (sub_of_below hb.out))
            obtain ⟨blk, off, op', kind', name', va', vn', vc', ka', kn', kc', rfl, c0, c1, c2, c3, c4, hr⟩ := kid_at (hk.out.mono hmw.out) hl0.out (fun j r k h1 h2 => hE.out j r k h1 h2) hlt
            have n0 : (0 : Int) ≤ (i : Int) := by omega
            have n1 : (i : Int) < (kids.length : Int) := by omega
            have hdr := Lib.hid (List.drop_eq_getElem_cons hlt)
            have hgo := Lib.hid (ih.out i _ kids[i] hr (List.getElem?_eq_getElem hlt) wr a' n' c' acc' hmw.out hA'.out (by have h1 := hcl.out; rw [hdr.out, cntL] at h1; omega))
            have hT9 := Lib.hid (show addL (addS acc' kids[i]) (kids.drop (i + 1)) = addL (acc ++ [(ED.mk op kind name vals kids)]) kids by rw [← hT.out, hdr.out, addL])
            have hc9 := Lib.hid (show (addS acc' kids[i]).length + cntL (kids.drop (i + 1)) ≤ 1099511627776 by have h1 := hcl.out; rw [hdr.out, cntL] at h1; have h2 := addS_len acc' kids[i]; omega)
            clear hr hdr hcl hT
            generalize kids[i] = kd at hgo hT9 hc9
            go_wp2_with fail
            refine hgo.out.mono ?_
            rintro e w9 ⟨⟨a9, n9, c9, rfl, hA9⟩, hb9⟩
            have hb10 := Lib.hid (hb.out.trans (hb9.mono hb.out.size))
            replace hA9 := Lib.hid hA9
            clear hgo hb9 c0 c1 c2 c3 c4 x0 x1 x2 x3 x4 hOb hA' hmw
            go_wp2
            go_roundw
            case rel => exact ⟨i + 1, a9, n9, c9, _, by omega, by go_num, rfl, hA9, hb10, hT9, hc9⟩
            case measure => simp [intOf]; omega
    case neg =>
      have e5 : (op == 5) = false := by simpa using h5
      have e6 : decide (6 ≤ op ∧ op ≤ 15) = true := by simp; omega
      have h5k := Lib.hid h5
      clear h5 hone
      go_wp2_with fail
      refine (istest_any op _).mono ?_
      rintro e wq ⟨rfl, rfl⟩
      rw [e6]
      clear e6
      go_wp2_with fail
      refine hX.out.mono ?_
      rintro e w2 ⟨⟨q, rfl, hq, hq1⟩, hb2⟩
      have hB2 := Lib.hid (hB.out.trans (hb2.mono hB.out.size))
      have hO2 := Lib.hid (hO.out.below hb2 hgl)
      have hA2 := Lib.hid (hA.out.below hb2)
      have hm2 := Lib.hid (hm1.out.trans (sub_of_below hb2))
      clear hX hb2 hB hO hA hm1 x0 x1 x2 x3 x4 e5 h5k
      obtain ⟨x0, x1, x2, x3, x4⟩ := own5z hO2.out
      have hgl2 := hO2.out.lt
      cases hfd : acc.any (fun x => sameB x (ED.mk op kind name vals kids)) with
      | true =>
        have hQ1 := Lib.hid (show addS acc (ED.mk op kind name vals kids) = addL acc kids by rw [hQ0.out, hst0.out, hatk.out, hfd]; rfl)
        have hcn := Lib.hid (show acc.length + cntL (kids.drop 0) ≤ 1099511627776 by rw [List.drop_zero]; omega)
        have hqq : ¬ q < 0 := by rw [hfd] at hq; simpa using hq
        clear hq hfd hst0 hQ0
        go_wp2_with fail
        go_loopw [0, 5] (fun s0 s5 wr => ∃ (i : Nat) (a' : Option Addr) (n' c' : Nat) (acc' : List ED), i ≤ kids.length ∧ s5 = .int .i64 i ∧ s0 = .slice a' n' c' ∧ Hid (RA m wr (.slice a' n' c') acc') ∧ Hid (Below w2.heap.size w2 wr) ∧ Hid (addL acc' (kids.drop i) = addL acc kids) ∧ Hid (acc'.length + cntL (kids.drop i) ≤ 1099511627776)) (fun _ s5 _ => kids.length - (intOf s5).toNat)
        case atStart => exact ⟨0, a, n, c, acc, Nat.zero_le _, rfl, rfl, hA2, Lib.hid (Below.refl _ _), Lib.hid rfl, hcn⟩
        case round =>
          obtain ⟨i, a', n', c', acc', hi1, rfl, rfl, hA', hb, hT, hcl⟩ := hrel
          have hOb := hO2.out.below hb.out hO2.out.lt
          obtain ⟨x0, x1, x2, x3, x4⟩ := own5z hOb
          have hgw := hOb.lt
          have hBw := Lib.hid (hB2.out.trans (hb.out.mono hB2.out.size))
          by_cases hlt : i < kids.length
          case neg =>
            have hQ := Lib.hid (show addS acc (ED.mk op kind name vals kids) = acc' by rw [hQ1.out, ← hT.out, List.drop_eq_nil_of_le (by omega)]; rfl)
            go_wp2
            go_ret
            rw [hQ.out]
            exact ⟨⟨a', n', c', rfl, hA'.out⟩, hBw.out⟩
          have hmw := Lib.hid (hm2.out.trans (sub_of_below hb.out))
          obtain ⟨blk, off, op', kind', name', va', vn', vc', ka', kn', kc', rfl, c0, c1, c2, c3, c4, hr⟩ := kid_at (hk.out.mono hmw.out) hl0.out (fun j r k h1 h2 => hE.out j r k h1 h2) hlt
          have n0 : (0 : Int) ≤ (i : Int) := by omega
          have n1 : (i : Int) < (kids.length : Int) := by omega
          have hdr := Lib.hid (List.drop_eq_getElem_cons hlt)
          have hgo := Lib.hid (ih.out i _ kids[i] hr (List.getElem?_eq_getElem hlt) wr a' n' c' acc' hmw.out hA'.out (by have h1 := hcl.out; rw [hdr.out, cntL] at h1; omega))
          have hT9 := Lib.hid (show addL (addS acc' kids[i]) (kids.drop (i + 1)) = addL acc kids by rw [← hT.out, hdr.out, addL])
          have hc9 := Lib.hid (show (addS acc' kids[i]).length + cntL (kids.drop (i + 1)) ≤ 1099511627776 by have h1 := hcl.out; rw [hdr.out, cntL] at h1; have h2 := addS_len acc' kids[i]; omega)
          clear hr hdr hcl hT
          generalize kids[i] = kd at hgo hT9 hc9
          go_wp2_with fail
          refine hgo.out.mono ?_
          rintro e w9 ⟨⟨a9, n9, c9, rfl, hA9⟩, hb9⟩
          have hb10 := Lib.hid (hb.out.trans (hb9.mono hb.out.size))
          replace hA9 := Lib.hid hA9
          clear hgo hb9 c0 c1 c2 c3 c4 x0 x1 x2 x3 x4 hOb hA' hmw
          go_wp2
          go_roundw
          case rel => exact ⟨i + 1, a9, n9, c9, _, by omega, by go_num, rfl, hA9, hb10, hT9, hc9⟩
          case measure => simp [intOf]; omega
      | false =>
        have hQ1 := Lib.hid (show addS acc (ED.mk op kind name vals kids) = addL (acc ++ [(ED.mk op kind name vals kids)]) kids by rw [hQ0.out, hst0.out, hatk.out, hfd]; rfl)
        have hcn := Lib.hid (show (acc ++ [(ED.mk op kind name vals kids)]).length + cntL (kids.drop 0) ≤ 1099511627776 by rw [List.drop_zero, List.length_append, List.length_singleton]; omega)
        have hqq : q < 0 := by rw [hfd] at hq; simpa using hq
        clear hq hfd hst0 hQ0
        go_wp2_with fail
        obtain ⟨rows, hr1, hr2, hr3⟩ := hA2.out
        have hrl := (rows_len hr1).1
        subst hrl
        have hr5 := rows5 hr2 hr3
        have hf1 := flat5_one hr2 hr3
        have hrn : rows.length ≤ 1099511627776 := by omega
        replace hr2 := Lib.hid hr2
        refine wp_region_held_drew (S := fun u => Below w2.heap.size w2 u) (by kernel_rfl) ((Below.refl _ _).grown (grown_drew w2 none) (Nat.le_refl _) (fun k e => by cases e)) (fun hHeld => ?_)
        have hrd : RowsAt w2.drew.cell? 5 (.slice a rows.length c) rows := hr1
        generalize w2.drew = wd at hHeld hrd ⊢
        refine wpAnyH_take (i := 0) (oi := ?oi5) (v := ?v5) ?ho5 (by kernel_rfl) (by kernel_rfl) (by kernel_rfl) ?hp5 (Or.inl ⟨?hw5, ?hy5⟩) (by assumption) ?rest5
        case ho5 => simp only [List.getElem?_toArray, List.getElem?_cons_zero]; rfl
        case hp5 => exact fun _ _ _ h => h
        case hw5 => rfl
        case hy5 =>
          intro W hSw
          go_simp
          try exact rfl
        simp only [Act.put, List.setIfInBounds_toArray, List.set_cons_zero, List.set_cons_succ]
        refine wpAnyH_take (i := 2) (oi := ?oi6) (v := ?v6) ?ho6 (by kernel_rfl) (by kernel_rfl) (by kernel_rfl) ?hp6 (Or.inl ⟨?hw6, ?hy6⟩) (by assumption) ?rest6
        case ho6 => simp only [List.getElem?_toArray, List.getElem?_cons_succ, List.getElem?_cons_zero]; rfl
        case hp6 => exact fun _ _ _ h => h
        case hw6 => rfl
        case hy6 =>
          intro W hSw
          obtain ⟨h0, h1, h2, h3, h4⟩ := own5z (hO2.out.below hSw hgl2)
          go_simp
          try exact rfl
        try simp only [Act.put, List.setIfInBounds_toArray, List.set_cons_zero, List.set_cons_succ]
        refine wpAnyH_ready (rs := [1, 3]) (by kernel_rfl) (by simp) ?_
        refine AllReadyH.cons rfl (fun K hK => ?_) (AllReadyH.cons rfl (fun K hK => ?_) AllReadyH.nil)
        · rw [if_pos (by rfl)]
          refine wp_append_rows _ _ 27 rfl w2.heap.size 29 i0 (.agg #[.int .i64 0, .string ⟨#[]⟩, .string ⟨#[]⟩, .slice none 0 0, .slice none 0 0]) 5 88 Tryz.underlying27 hi hz0 hz1 hz2 rfl (by decide) _ 0 [] rfl (World.ownsRow_nil wd w2.heap.size 29 5) a rows.length c rows wd.cell? rfl hrd (Sub.refl _) hr5 hf1 (by unfold maxLen; omega) (by omega) hHeld.size (fun v4 w4 ho hg4 => ?_)
          have hH4 : Below w2.heap.size w2 w4 := hHeld.grown hg4 hHeld.size (fun k e => by cases e)
          refine hK.out _ _ hH4 (fun hHeld => ?_)
          clear hK K hg4 hH4
          try simp only [Act.put]
          refine wpAnyH_ready (rs := [3]) (by kernel_rfl) (by simp) ?_
          refine AllReadyH.cons rfl (fun K hK => ?_) AllReadyH.nil
          go_simp
          have ho5 := ho.alloc (.cells #[.int .i64 op, .string kind, .string name, .slice va vn vc, .slice ka kids.length kc] 29)
          have hN5 := Own.new w4 #[.int .i64 op, .string kind, .string name, .slice va vn vc, .slice ka kids.length kc] 29
          have hH5 : Below w2.heap.size w2 (w4.alloc (.cells #[.int .i64 op, .string kind, .string name, .slice va vn vc, .slice ka kids.length kc] 29)) := hHeld.alloc hHeld.size _
          refine hK.out _ _ hH5 (fun hHeld => ?_)
          clear hK K hH5 ho
          generalize w4.alloc (.cells #[.int .i64 op, .string kind, .string name, .slice va vn vc, .slice ka kids.length kc] 29) = w5 at hHeld ho5 hN5 ⊢
          refine wpAnyH_ready (rs := [4]) (by kernel_rfl) (by simp) ?_
          refine AllReadyH.cons rfl (fun K hK => ?_) AllReadyH.nil
          rw [if_pos (by rfl)]
          refine wp_append_own w5 _ _ 27 rfl w2.heap.size 29 i0 (.agg #[.int .i64 0, .string ⟨#[]⟩, .string ⟨#[]⟩, .slice none 0 0, .slice none 0 0]) 5 88 Tryz.underlying27 hi hz0 hz1 hz2 rfl (by decide) _ (0 + rows.length) ([] ++ rows.flatten) rfl ho5 ⟨w4.heap.size, 0, none⟩ 1 1 [.int .i64 op, .string kind, .string name, .slice va vn vc, .slice ka kids.length kc] rfl rfl (World.news_of_block (cs := #[.int .i64 op, .string kind, .string name, .slice va vn vc, .slice ka kids.length kc]) (t := 29) (fr := (0, 0)) hN5) (by simp [Value.oneCell']) (by unfold maxLen; omega) (by omega) hHeld.size (fun v6 w6 ho6 hg6 _ => ?_)
          have hH6 : Below w2.heap.size w2 w6 := hHeld.grown hg6 hHeld.size (fun k e => (ho5.lt k e).1)
          refine hK.out _ _ hH6 (fun hHeld => ?_)
          clear hK K hg6
          refine wpAnyH_take (i := 5) (oi := ?oi7) (v := ?v7) ?ho7 (by kernel_rfl) (by kernel_rfl) (by kernel_rfl) ?hp7 (Or.inl ⟨?hw7, ?hy7⟩) (by assumption) ?rest7
          case ho7 => simp only [List.getElem?_toArray, List.getElem?_cons_succ, List.getElem?_cons_zero]; rfl
          case hp7 => exact fun _ _ _ h => h
          case hw7 => rfl
          case hy7 =>
            intro W hSw
            go_simp
            try exact rfl
          simp only [Act.put]
          refine wpAnyH_done (by kernel_rfl) ?_ _
          simp only [Nat.zero_add, List.nil_append] at ho6
          obtain ⟨a6, c6, rfl⟩ := owns_slice ho6
          have hA6 := Lib.hid (ra_snoc (m := m) (v := .slice a6 (rows.length + 1) c6) (rows_of_owns ho6 (rows ++ [[.int .i64 op, .string kind, .string name, .slice va vn vc, .slice ka kids.length kc]]) (by simp) (by intro r hr; rcases List.mem_append.1 hr with hr | hr; exact hr5 r hr; rw [List.mem_singleton.1 hr]; rfl) (by simp)) hr2.out hr3 hself.out)
          have hB6 := Lib.hid (hB2.out.trans (hH6.mono hB2.out.size))
          have hO6 := Lib.hid (hO2.out.below hH6 hgl2)
          have hm6 := Lib.hid (hm2.out.trans (sub_of_below hH6))
          clear hH6 hHeld ho6 ho5 hr1 hr2 hr3 hr5 hf1 hrd hA2 hB2 hO2 hm2 x0 x1 x2 x3 x4 hgl2
          obtain ⟨x0, x1, x2, x3, x4⟩ := own5z hO6.out
          have hgl6 := hO6.out.lt
          go_wp2_with fail
          go_loopw [0, 5] (fun s0 s5 wr => ∃ (i : Nat) (a' : Option Addr) (n' c' : Nat) (acc' : List ED), i ≤ kids.length ∧ s5 = .int .i64 i ∧ s0 = .slice a' n' c' ∧ Hid (RA m wr (.slice a' n' c') acc') ∧ Hid (Below w6.heap.size w6 wr) ∧ Hid (addL acc' (kids.drop i) = addL (acc ++ [(ED.mk op kind name vals kids)]) kids) ∧ Hid (acc'.length + cntL (kids.drop i) ≤ 1099511627776)) (fun _ s5 _ => kids.length - (intOf s5).toNat)
          case atStart => exact ⟨0, a6, rows.length + 1, c6, (acc ++ [(ED.mk op kind name vals kids)]), Nat.zero_le _, rfl, rfl, hA6, Lib.hid (Below.refl _ _), Lib.hid rfl, hcn⟩
          case round =>
            obtain ⟨i, a', n', c', acc', hi1, rfl, rfl, hA', hb, hT, hcl⟩ := hrel
            have hOb := hO6.out.below hb.out hO6.out.lt
            obtain ⟨x0, x1, x2, x3, x4⟩ := own5z hOb
            have hgw := hOb.lt
            have hBw := Lib.hid (hB6.out.trans (hb.out.mono hB6.out.size))
            by_cases hlt : i < kids.length
            case neg =>
              have hQ := Lib.hid (show addS acc (ED.mk op kind name vals kids) = acc' by rw [hQ1.out, ← hT.out, List.drop_eq_nil_of_le (by omega)]; rfl)
              go_wp2
              go_ret
              rw [hQ.out]
              exact ⟨⟨a', n', c', rfl, hA'.out⟩, hBw.out⟩
            have hmw := Lib.hid (hm6.out.trans (sub_of_below hb.out))
            obtain ⟨blk, off, op', kind', name', va', vn', vc', ka', kn', kc', rfl, c0, c1, c2, c3, c4, hr⟩ := kid_at (hk.out.mono hmw.out) hl0.out (fun j r k h1 h2 => hE.out j r k h1 h2) hlt
            have n0 : (0 : Int) ≤ (i : Int) := by omega
            have n1 : (i : Int) < (kids.length : Int) := by omega
            have hdr := Lib.hid (List.drop_eq_getElem_cons hlt)
            have hgo := Lib.hid (ih.out i _ kids[i] hr (List.getElem?_eq_getElem hlt) wr a' n' c' acc' hmw.out hA'.out (by have h1 := hcl.out; rw [hdr.out, cntL] at h1; omega))
            have hT9 := Lib.hid (show addL (addS acc' kids[i]) (kids.drop (i + 1)) = addL (acc ++ [(ED.mk op kind name vals kids)]) kids by rw [← hT.out, hdr.out, addL])
            have hc9 := Lib.hid (show (addS acc' kids[i]).length + cntL (kids.drop (i + 1)) ≤ 1099511627776 by have h1 := hcl.out; rw [hdr.out, cntL] at h1; have h2 := addS_len acc' kids[i]; omega)
            clear hr hdr hcl hT
            generalize kids[i] = kd at hgo hT9 hc9
            go_wp2_with fail
            refine hgo.out.mono ?_
            rintro e w9 ⟨⟨a9, n9, c9, rfl, hA9⟩, hb9⟩
            have hb10 := Lib.hid (hb.out.trans (hb9.mono hb.out.size))
            replace hA9 := Lib.hid hA9
            clear hgo hb9 c0 c1 c2 c3 c4 x0 x1 x2 x3 x4 hOb hA' hmw
            go_wp2
            go_roundw
            case rel => exact ⟨i + 1, a9, n9, c9, _, by omega, by go_num, rfl, hA9, hb10, hT9, hc9⟩
            case measure => simp [intOf]; omega
        · go_simp
          have hN4 := Own.new wd #[.int .i64 op, .string kind, .string name, .slice va vn vc, .slice ka kids.length kc] 29
          have hr4 : RowsAt (wd.alloc (.cells #[.int .i64 op, .string kind, .string name, .slice va vn vc, .slice ka kids.length kc] 29)).cell? 5 (.slice a rows.length c) rows := hrd.mono (sub_alloc (Sub.refl _) _)
          have hH4 : Below w2.heap.size w2 (wd.alloc (.cells #[.int .i64 op, .string kind, .string name, .slice va vn vc, .slice ka kids.length kc] 29)) := hHeld.alloc hHeld.size _
          refine hK.out _ _ hH4 (fun hHeld => ?_)
          clear hK K hH4
          generalize wd.alloc (.cells #[.int .i64 op, .string kind, .string name, .slice va vn vc, .slice ka kids.length kc] 29) = w3 at hHeld hN4 hr4 ⊢
          generalize wd.heap.size = bl at hN4 ⊢
          refine wpAnyH_ready (rs := [1]) (by kernel_rfl) (by simp) ?_
          refine AllReadyH.cons rfl (fun K hK => ?_) AllReadyH.nil
          rw [if_pos (by rfl)]
          refine wp_append_rows _ _ 27 rfl w2.heap.size 29 i0 (.agg #[.int .i64 0, .string ⟨#[]⟩, .string ⟨#[]⟩, .slice none 0 0, .slice none 0 0]) 5 88 Tryz.underlying27 hi hz0 hz1 hz2 rfl (by decide) _ 0 [] rfl (World.ownsRow_nil w3 w2.heap.size 29 5) a rows.length c rows w3.cell? rfl hr4 (Sub.refl _) hr5 hf1 (by unfold maxLen; omega) (by omega) hHeld.size (fun v4 w4 ho hg4 => ?_)
          have hH4 : Below w2.heap.size w2 w4 := hHeld.grown hg4 hHeld.size (fun k e => by cases e)
          have hN5 := hN4.kept hg4 (fun e => by cases e)
          have ho5 := ho
          refine hK.out _ _ hH4 (fun hHeld => ?_)
          clear hK K hg4 hH4 ho hN4
          try simp only [Act.put]
          refine wpAnyH_ready (rs := [4]) (by kernel_rfl) (by simp) ?_
          refine AllReadyH.cons rfl (fun K hK => ?_) AllReadyH.nil
          rw [if_pos (by rfl)]
          refine wp_append_own w4 _ _ 27 rfl w2.heap.size 29 i0 (.agg #[.int .i64 0, .string ⟨#[]⟩, .string ⟨#[]⟩, .slice none 0 0, .slice none 0 0]) 5 88 Tryz.underlying27 hi hz0 hz1 hz2 rfl (by decide) _ (0 + rows.length) ([] ++ rows.flatten) rfl ho5 ⟨bl, 0, none⟩ 1 1 [.int .i64 op, .string kind, .string name, .slice va vn vc, .slice ka kids.length kc] rfl rfl (World.news_of_block (cs := #[.int .i64 op, .string kind, .string name, .slice va vn vc, .slice ka kids.length kc]) (t := 29) (fr := (0, 0)) hN5) (by simp [Value.oneCell']) (by unfold maxLen; omega) (by omega) hHeld.size (fun v6 w6 ho6 hg6 _ => ?_)
          have hH6 : Below w2.heap.size w2 w6 := hHeld.grown hg6 hHeld.size (fun k e => (ho5.lt k e).1)
          refine hK.out _ _ hH6 (fun hHeld => ?_)
          clear hK K hg6
          refine wpAnyH_take (i := 5) (oi := ?oi8) (v := ?v8) ?ho8 (by kernel_rfl) (by kernel_rfl) (by kernel_rfl) ?hp8 (Or.inl ⟨?hw8, ?hy8⟩) (by assumption) ?rest8
          case ho8 => simp only [List.getElem?_toArray, List.getElem?_cons_succ, List.getElem?_cons_zero]; rfl
          case hp8 => exact fun _ _ _ h => h
          case hw8 => rfl
          case hy8 =>
            intro W hSw
            go_simp
            try exact rfl
          simp only [Act.put]
          refine wpAnyH_done (by kernel_rfl) ?_ _
          simp only [Nat.zero_add, List.nil_append] at ho6
          obtain ⟨a6, c6, rfl⟩ := owns_slice ho6
          have hA6 := Lib.hid (ra_snoc (m := m) (v := .slice a6 (rows.length + 1) c6) (rows_of_owns ho6 (rows ++ [[.int .i64 op, .string kind, .string name, .slice va vn vc, .slice ka kids.length kc]]) (by simp) (by intro r hr; rcases List.mem_append.1 hr with hr | hr; exact hr5 r hr; rw [List.mem_singleton.1 hr]; rfl) (by simp)) hr2.out hr3 hself.out)
          have hB6 := Lib.hid (hB2.out.trans (hH6.mono hB2.out.size))
          have hO6 := Lib.hid (hO2.out.below hH6 hgl2)
          have hm6 := Lib.hid (hm2.out.trans (sub_of_below hH6))
          clear hH6 hHeld ho6 ho5 hr1 hr2 hr3 hr5 hf1 hrd hA2 hB2 hO2 hm2 x0 x1 x2 x3 x4 hgl2
          obtain ⟨x0, x1, x2, x3, x4⟩ := own5z hO6.out
          have hgl6 := hO6.out.lt
          go_wp2_with fail
          go_loopw [0, 5] (fun s0 s5 wr => ∃ (i : Nat) (a' : Option Addr) (n' c' : Nat) (acc' : List ED), i ≤ kids.length ∧ s5 = .int .i64 i ∧ s0 = .slice a' n' c' ∧ Hid (RA m wr (.slice a' n' c') acc') ∧ Hid (Below w6.heap.size w6 wr) ∧ Hid (addL acc' (kids.drop i) = addL (acc ++ [(ED.mk op kind name vals kids)]) kids) ∧ Hid (acc'.length + cntL (kids.drop i) ≤ 1099511627776)) (fun _ s5 _ => kids.length - (intOf s5).toNat)
          case atStart => exact ⟨0, a6, rows.length + 1, c6, (acc ++ [(ED.mk op kind name vals kids)]), Nat.zero_le _, rfl, rfl, hA6, Lib.hid (Below.refl _ _), Lib.hid rfl, hcn⟩
          case round =>
            obtain ⟨i, a', n', c', acc', hi1, rfl, rfl, hA', hb, hT, hcl⟩ := hrel
            have hOb := hO6.out.below hb.out hO6.out.lt
            obtain ⟨x0, x1, x2, x3, x4⟩ := own5z hOb
            have hgw := hOb.lt
            have hBw := Lib.hid (hB6.out.trans (hb.out.mono hB6.out.size))
            by_cases hlt : i < kids.length
            case neg =>
              have hQ := Lib.hid (show addS acc (ED.mk op kind name vals kids) = acc' by rw [hQ1.out, ← hT.out, List.drop_eq_nil_of_le (by omega)]; rfl)
              go_wp2
              go_ret
              rw [hQ.out]
              exact ⟨⟨a', n', c', rfl, hA'.out⟩, hBw.out⟩
            have hmw := Lib.hid (hm6.out.trans (sub_of_below hb.out))
            obtain ⟨blk, off, op', kind', name', va', vn', vc', ka', kn', kc', rfl, c0, c1, c2, c3, c4, hr⟩ := kid_at (hk.out.mono hmw.out) hl0.out (fun j r k h1 h2 => hE.out j r k h1 h2) hlt
            have n0 : (0 : Int) ≤ (i : Int) := by omega
            have n1 : (i : Int) < (kids.length : Int) := by omega
            have hdr := Lib.hid (List.drop_eq_getElem_cons hlt)
            have hgo := Lib.hid (ih.out i _ kids[i] hr (List.getElem?_eq_getElem hlt) wr a' n' c' acc' hmw.out hA'.out (by have h1 := hcl.out; rw [hdr.out, cntL] at h1; omega))
            have hT9 := Lib.hid (show addL (addS acc' kids[i]) (kids.drop (i + 1)) = addL (acc ++ [(ED.mk op kind name vals kids)]) kids by rw [← hT.out, hdr.out, addL])
            have hc9 := Lib.hid (show (addS acc' kids[i]).length + cntL (kids.drop (i + 1)) ≤ 1099511627776 by have h1 := hcl.out; rw [hdr.out, cntL] at h1; have h2 := addS_len acc' kids[i]; omega)
            clear hr hdr hcl hT
            generalize kids[i] = kd at hgo hT9 hc9
            go_wp2_with fail
            refine hgo.out.mono ?_
            rintro e w9 ⟨⟨a9, n9, c9, rfl, hA9⟩, hb9⟩
            have hb10 := Lib.hid (hb.out.trans (hb9.mono hb.out.size))
            replace hA9 := Lib.hid hA9
            clear hgo hb9 c0 c1 c2 c3 c4 x0 x1 x2 x3 x4 hOb hA' hmw
            go_wp2
            go_roundw
            case rel => exact ⟨i + 1, a9, n9, c9, _, by omega, by go_num, rfl, hA9, hb10, hT9, hc9⟩
            case measure => simp [intOf]; omega

/-- The reference's AddAtoms. -/
theorem radd_any (m : Mem) (d : ED) (r : List Value) (h : EAt m d r) : RAddOk m d r := by
  induction h with
  | mk rows hv hk hl hL hE ih => exact radd_step m _ _ _ _ _ _ _ rows hv hk hl hL hE ih

end Go.Proofs.YtlohdmghaeabjaaGreatDoor.clause

