/- The reference's With. -/
import Derived.Test.YtamkmdlfhlbbeaaGreatDoorKSuWx
import Derived.Test.YtamkmdlfhlbbeaaGreatDoorKSuWs
import Derived.Test.YtamkmdlfhlbbeaaGreatDoorKJ16
import Derived.Test.YtamkmdlfhlbbeaaGreatDoorKJ16
namespace Go.Proofs.YtamkmdlfhlbbeaaGreatDoor.subj
open Go.RowKit Go.Proofs.YtamkmdlfhlbbeaaGreatDoor Go.Proofs.YtamkmdlfhlbbeaaGreatDoor.schema Go.Proofs.YtamkmdlfhlbbeaaGreatDoor.value Go.Proofs.YtamkmdlfhlbbeaaGreatDoor.text Go.Proofs.YtamkmdlfhlbbeaaGreatDoor.clause Go.Proofs.YtamkmdlfhlbbeaaGreatDoor.draw

set_option maxRecDepth 100000 in
set_option maxHeartbeats 8000000 in
theorem with_ref (l : List CT) (pa : Option Addr) (n c : Nat) (kind name : ByteArray) (v : VD) (w : World) (h : SAt w.cell? (.slice pa n c) l) (hN : Nm l) (hv : LAt w.cell? v) (hT : STabs w) (hnm : name.size ≤ maxLen) :
    Calls Tryz.prog 35 #[.agg #[.slice pa n c], .string kind, .string name, .agg #[.int .i64 v.kind, .int .i64 v.num, .string v.text, .slice v.ptr v.len v.cap]] w fun e w' => WithIs l kind name v e w' ∧ Below w.heap.size w w' := by
  have hW := Lib.hid (WX.start w pa n c v)
  have hS := Lib.hid h
  replace hv := Lib.hid hv
  replace hN := Lib.hid hN
  have hT0 := Lib.hid hT
  clear h hT
  go_enter Tryz.func35, Tryz.ntmps35
  go_wp2_with fail
  generalize ((w.alloc (.cells #[.slice pa n c] 24)).alloc (.cells #[.int .i64 v.kind, .int .i64 v.num, .string v.text, .slice v.ptr v.len v.cap] 51)).alloc (.cells #[.slice none 0 0] 24) = w0 at hW ⊢
  refine (scheck_ref l pa n c _ (hS.out.mono (sub_of_below hW.out.low)) hN.out (hT0.out.below hW.out.low)).mono ?_
  rintro e w1 ⟨rfl, hb⟩
  have hW1 := Lib.hid (hW.out.call hb)
  clear hb hW
  have s0 := hW1.out.s.cell 0
  have z0 := hW1.out.z.cell 0
  have y0 := hW1.out.z.free 0
  simp only [List.getElem?_toArray, List.getElem?_cons_zero] at s0 z0
  have hlz := hW1.out.low'
  by_cases hc : subS l = 0
  case neg =>
    have hcz := Lib.hid hc
    have hr := hW1.out.res (.slice none 0 0)
    go_wp2
    refine bodyPost_ret (v := .tuple #[.agg #[.slice none 0 0], .int .i64 (subS l)]) (by simp [results, Tryz.results35, go_sem, hr]) rfl ?_
    exact ⟨with_err (withS_check hcz.out), hW1.out.low.setCell (by simp; omega) _⟩
  rw [hc]
  replace hc := Lib.hid hc
  go_wp2_with fail
  refine (find_ref l pa n c kind _ (hS.out.mono (sub_of_below hW1.out.low)).rows).mono ?_
  rintro e w2 ⟨hfe, hb⟩
  have hW2 := Lib.hid (hW1.out.call hb)
  clear hb hW1 s0 z0 y0 hlz
  have s0 := hW2.out.s.cell 0
  have z0 := hW2.out.z.cell 0
  have y0 := hW2.out.z.free 0
  simp only [List.getElem?_toArray, List.getElem?_cons_zero] at s0 z0
  have hlz := hW2.out.low'
  cases hf : findS kind.toList l with
  | none =>
    rw [hf] at hfe
    obtain rfl := hfe
    replace hf := Lib.hid hf
    go_upto_region 5 with fail
    have hW3 := Lib.hid (hW2.out.call ((Below.refl _ _).alloc (Nat.le_refl _) (.cells #[.string ⟨#[]⟩, .string ⟨#[]⟩, .slice none 0 0] 37)))
    clear hW2 s0 z0 y0 hlz
    generalize w2.alloc (.cells #[.string ⟨#[]⟩, .string ⟨#[]⟩, .slice none 0 0] 37) = w3 at hW3 ⊢
    have z0 := hW3.out.z.cell 0
    have y0 := hW3.out.z.free 0
    simp only [List.getElem?_toArray, List.getElem?_cons_zero] at z0
    have hr := hW3.out.res (.slice none 0 0)
    go_wp2
    refine bodyPost_ret (v := .tuple #[.agg #[.slice none 0 0], .int .i64 11]) (by simp [results, Tryz.results35, go_sem, hr]) rfl ?_
    exact ⟨with_err (withS_none hc.out hf.out), hW3.out.low.setCell (by simp; omega) _⟩
  | some ct =>
    rw [hf] at hfe
    obtain rfl := hfe
    replace hf := Lib.hid hf
    go_upto_region 5 with fail
    have hW3 := Lib.hid (hW2.out.call ((Below.refl _ _).alloc (Nat.le_refl _) (.cells #[.string ct.kind, .string ct.key, .slice ct.ptr ct.len ct.cap] 37)))
    clear hW2 s0 z0 y0 hlz
    generalize w2.alloc (.cells #[.string ct.kind, .string ct.key, .slice ct.ptr ct.len ct.cap] 37) = w3 at hW3 ⊢
    go_wp2_with fail
    refine (named_ref name _ hnm).mono ?_
    rintro e w4 ⟨rfl, hb⟩
    have hW4 := Lib.hid (hW3.out.call hb)
    clear hb hW3
    have s0 := hW4.out.s.cell 0
    have z0 := hW4.out.z.cell 0
    have y0 := hW4.out.z.free 0
    simp only [List.getElem?_toArray, List.getElem?_cons_zero] at s0 z0
    obtain ⟨bk, hbk⟩ : ∃ b, b = (keyS name.data.toList && !(name.data.toList == [107, 101, 121])) := ⟨_, rfl⟩
    rw [← hbk]
    have hr := hW4.out.res (.slice none 0 0)
    cases bk with
    | false =>
      have hbd := Lib.hid (show keyS name.data.toList = false ∨ (name.data.toList == [107, 101, 121]) = true by
        cases h1 : keyS name.data.toList with
        | false => exact Or.inl rfl
        | true => rw [h1] at hbk; exact Or.inr (by simpa using hbk.symm))
      clear hbk
      go_wp2
      refine bodyPost_ret (v := .tuple #[.agg #[.slice none 0 0], .int .i64 6]) (by simp [results, Tryz.results35, go_sem, hr]) rfl ?_
      exact ⟨with_err (withS_key hc.out hf.out hbd.out), hW4.out.low.setCell (by simp; omega) _⟩
    | true =>
      have hbd := Lib.hid (show ¬ (keyS name.data.toList = false ∨ (name.data.toList == [107, 101, 121]) = true) by
        intro h1
        rcases h1 with h1 | h1 <;> rw [h1] at hbk <;> simp at hbk)
      clear hbk hr
      obtain ⟨v0, v1, v2, v3, -, -, -, -⟩ := own4z hW4.out.v
      go_wp2_with fail
      refine (vcheck_ref v _ (hv.out.mono (sub_of_below hW4.out.low)) (hT0.out.below hW4.out.low).tabs).mono ?_
      rintro e w5 ⟨rfl, hb⟩
      have hW5 := Lib.hid (hW4.out.call hb)
      clear hb hW4 s0 z0 y0 v0 v1 v2 v3
      have s0 := hW5.out.s.cell 0
      have z0 := hW5.out.z.cell 0
      have y0 := hW5.out.z.free 0
      simp only [List.getElem?_toArray, List.getElem?_cons_zero] at s0 z0
      by_cases hcv : checkS (vv v) = 0
      case neg =>
        have hcz := Lib.hid hcv
        have hr := hW5.out.res (.slice none 0 0)
        go_wp2
        refine bodyPost_ret (v := .tuple #[.agg #[.slice none 0 0], .int .i64 (checkS (vv v))]) (by simp [results, Tryz.results35, go_sem, hr]) rfl ?_
        exact ⟨with_err (withS_val hc.out hf.out hbd.out hcz.out), hW5.out.low.setCell (by simp; omega) _⟩
      rw [hcv]
      replace hcv := Lib.hid hcv
      obtain ⟨i0, hi0, hz0, hz1, hz2⟩ := info_parts info3
      have hasc := Lib.hid (subS_asc hc.out)
      have h4 : l.length ≤ 4 := hasc.out.2.2
      have hl0 : 0 < l.length := by
        rcases Nat.eq_zero_or_pos l.length with h0 | h0
        · rw [List.eq_nil_of_length_eq_zero h0] at hf; cases hf.out
        · exact h0
      have hS5 := hS.out.mono (sub_of_below hW5.out.low)
      obtain ⟨b, off, rfl⟩ := rows_some hS5.rows (by intro h0; have h1 := congrArg List.length h0; rw [List.length_map, List.length_nil] at h1; omega)
      have hnl : n = l.length := by have := (len_of hS5.rows).1; simpa using this
      subst hnl
      have hfl := Lib.hid (rows_flat hS5.rows (by intro r hr; obtain ⟨d, -, rfl⟩ := List.mem_map.1 hr; rfl))
      have hone : Hid (∀ u ∈ (l.map CT.row).flatten, u.oneCell' = true) := fun u hu => by
        obtain ⟨r, hr, hu⟩ := List.mem_flatten.1 hu
        obtain ⟨x, -, rfl⟩ := List.mem_map.1 hr
        exact ct_one' x u hu
      clear hS5
      go_wp2_with (at_builtin; refine wpList_append_lies _ rfl _ _ 22 rfl w5.heap.size 37 i0 (.agg #[.string ⟨#[]⟩, .string ⟨#[]⟩, .slice none 0 0]) 3 56 Tryz.underlying22 hi0 hz0 hz1 hz2 rfl (by decide) (.slice none 0 0) 0 [] rfl (World.ownsRow_nil _ _ _ _) ⟨b, off, none⟩ l.length c (l.map CT.row).flatten rfl (flat_rows3 l) (fun j u hj => by rw [Addr.add_lit]; exact hfl.out j u hj) hone.out hl0 (by unfold maxLen; omega) (by omega) (Nat.le_refl _) w5.heap.size rfl ?_; intro g cap w6 hown hgr hat hlt; replace hown := Lib.hid hown; replace hgr := Lib.hid hgr; replace hat := Lib.hid hat)
      rw [Nat.zero_add] at hown
      have hown' := hown.out
      rw [List.nil_append] at hown'
      have hb6 : Below w5.heap.size w5 w6 := ⟨hgr.out.os, hgr.out.tape, hgr.out.output, hgr.out.size, fun k hk => hgr.out.block k hk (by simp [Value.ownBlock])⟩
      have hR0 := Lib.hid (RW.start (hW5.out.call hb6) hown' hW5.out.low' hS.out.each)
      have hbg : w5.heap.size ≤ g := (hown'.lt g rfl).1
      clear hown hown' hgr hat hlt hb6 hfl hone hi0 hz0 hz1 hz2 s0 z0 y0
      generalize w5.heap.size = B at hR0 hbg ⊢
      go_loopw [15] (fun s15 wr => ∃ (i : Nat) (L : List CT), i ≤ l.length ∧ s15 = .int .i64 i ∧ Hid (RW w wr (some ⟨b, off, none⟩) l.length c v B g cap L) ∧ Hid (Alike SameC L (mixC kind.toList ⟨name, v⟩ l i)) ∧ Hid (∀ (j : Nat) (hj : j < l.length), j < i → (l[j].kind.toList == kind.toList) = true → (insA ⟨name, v⟩ l[j].attrs).length ≤ 20)) (fun s15 _ => l.length - (intOf s15).toNat)
      case atStart => exact ⟨0, l, by omega, rfl, hR0, Lib.hid (by rw [mixC_zero]; exact Alike.refl' (fun c => ⟨rfl, rfl, Alike.refl' (fun a => ⟨rfl, rfl, rfl, rfl, rfl⟩) _⟩) l), Lib.hid (fun j _ h => by omega)⟩
      case round =>
        clear hR0
        obtain ⟨i, L, hi, rfl, hK, hal, hfew⟩ := hrel
        have hLl : L.length = l.length := by rw [hal.out.1, mixC_len]
        have z0 := hK.out.x.z.cell 0
        have y0 := hK.out.x.z.free 0
        simp only [List.getElem?_toArray, List.getElem?_cons_zero] at z0
        have hzl := hK.out.x.low'
        by_cases hlt : i < l.length
        case neg =>
          have hr := hK.out.x.res (.slice (some ⟨g, 0, none⟩) l.length cap)
          go_wp2
          refine bodyPost_ret (v := .tuple #[.agg #[.slice (some ⟨g, 0, none⟩) l.length cap], .int .i64 0]) (by simp [results, Tryz.results35, go_sem, hr]) rfl ?_
          obtain ⟨k, hk, hke⟩ := findS_some hf.out
          have h20 := hfew.out k hk (by omega) (by rw [hke]; exact findS_kind hf.out)
          rw [hke] at h20
          have hws := withS_good (v := v) hc.out hf.out hbd.out hcv.out (by omega)
          obtain ⟨p1, p2⟩ := hK.out.done (.slice (some ⟨g, 0, none⟩) l.length cap)
          have ha := hal.out
          rw [mixC_end _ _ (by omega)] at ha
          rw [hLl] at p1
          exact ⟨⟨_, _, _, L, by rw [hws], by rw [hws]; exact ha, p1⟩, p2⟩
        have hiL : i < L.length := by omega
        obtain ⟨ck, hck⟩ : ∃ ck, L[i]? = some ck := ⟨_, List.getElem?_eq_getElem hiL⟩
        have hsk := hal.out.2 i hiL (by rw [mixC_len]; exact hlt)
        rw [show L[i] = ck from (List.getElem?_eq_some_iff.1 hck).2, (List.getElem?_eq_some_iff.1 (mixC_at kind.toList ⟨name, v⟩ hlt)).2] at hsk
        obtain ⟨kd, ky, p, m, m', at'⟩ := ck
        obtain ⟨c0, c2, cf⟩ := hK.out.cells hck
        simp only at c0 c2
        have hkk : kd = l[i].kind := hsk.1
        have n0 : (0 : Int) ≤ (i : Int) := by omega
        have n1 : (i : Int) < (l.length : Int) := by omega
        cases hne : (kd.toList == kind.toList) with
        | false =>
          have hm := Lib.hid (mixC_miss ⟨name, v⟩ hlt (by rw [← hkk]; exact hne))
          have hf2 := Lib.hid (fun (j : Nat) (hj : j < l.length) (h : j < i + 1) (hk : (l[j].kind.toList == kind.toList) = true) => show (insA ⟨name, v⟩ l[j].attrs).length ≤ 20 from by
            rcases Nat.lt_or_ge j i with h1 | h1
            · exact hfew.out j hj h1 hk
            · obtain rfl : j = i := by omega
              rw [← hkk, hne] at hk
              cases hk)
          have hal2 := Lib.hid (show Alike SameC L (mixC kind.toList ⟨name, v⟩ l (i + 1)) by rw [hm.out]; exact hal.out)
          replace hsk := Lib.hid hsk
          replace hck := Lib.hid hck
          clear hfew hal hm hkk hiL hLl
          go_wp2
          go_roundw
          case rel => exact ⟨i + 1, L, by omega, by go_num, hK, hal2, hf2⟩
          case measure => simp [intOf]; omega
        | true =>
          have hfi := Lib.hid (findS_at hc.out hlt (by rw [← hkk]; exact hne))
          have hasl := (attrS_asc (hasc.out.2.1 l[i] (List.getElem_mem hlt))).2
          have hal20 : at'.length ≤ 20 := by rw [hsk.2.2.1]; exact hasl
          have hRow := hK.out.attrs hck
          have hml : m = at'.length := by have := (len_of hRow).1; simp only [List.length_map] at this; exact this
          subst hml
          have hmc := rows_len hRow
          rw [List.length_map] at hmc
          replace hRow := Lib.hid hRow
          replace hsk := Lib.hid hsk
          replace hck := Lib.hid hck
          clear hkk hasl hiL
          go_wp2_with fail
          generalize wr = wo at hK c0 c2 cf hRow z0 y0 hzl ⊢
          go_loopw [17] (fun s17 wq => ∃ k : Nat, k ≤ at'.length ∧ s17 = .int .i64 k ∧ Hid (Below wo.heap.size wo wq) ∧ Hid (∀ (j : Nat) (hj : j < at'.length), j < k → befA name.data.toList at'[j] = true)) (fun s17 _ => at'.length - (intOf s17).toNat)
          case atStart => exact ⟨0, by omega, rfl, Lib.hid (Below.refl _ _), Lib.hid (fun j _ h => by omega)⟩
          case round =>
            obtain ⟨k, hk, rfl, hb, hbef⟩ := hrel
            have hRq := hRow.out.mono (sub_of_below hb.out)
            have hKq := Lib.hid (hK.out.call hb.out)
            have hKq0 : RW w wr (some ⟨b, off, none⟩) l.length c v B g cap L := hKq.out
            have hkc1 : k ≤ m' := by omega
            rcases (show (¬ k < at'.length ∧ k = m') ∨ (¬ k < at'.length ∧ ¬ k = m') ∨ k < at'.length by omega) with ⟨hka, hkc⟩ | ⟨hka, hkc⟩ | hka
            case inr.inr =>
              obtain ⟨blk, ao, rfl, v0, -⟩ := ad_at hRq hka
              have hbv : befA name.data.toList at'[k] = Op.bytesLess at'[k].name.data.toList name.data.toList := rfl
              have hstep := Lib.hid (fun (ht : befA name.data.toList at'[k] = true) (j : Nat) (hj : j < at'.length) (h : j < k + 1) => show befA name.data.toList at'[j] = true from by
                rcases Nat.lt_or_ge j k with h1 | h1
                · exact hbef.out j hj h1
                · obtain rfl : j = k := by omega
                  exact ht)
              have hstop := Lib.hid (fun (ht : befA name.data.toList at'[k] = false) => posA_of (x := name.data.toList) hk hbef.out (fun h => ht))
              have hat := hasAt_in (x := name.data.toList) hka
              generalize befA name.data.toList at'[k] = bm at hbv hstep hstop
              generalize at'[k] = ak at v0 hbv hat
              have n2 : (0 : Int) ≤ (k : Int) := by omega
              have n3 : (k : Int) < (at'.length : Int) := by omega
              replace hRq := Lib.hid hRq
              rw [← ByteArray.toList_eq, ← ByteArray.toList_eq] at hat
              rw [← ByteArray.toList_eq, ← ByteArray.toList_eq] at hbv
              cases bm
              case true =>
                have hs := Lib.hid (hstep.out rfl)
                replace hbv := hbv.symm
                clear hstep hstop hbef hat
                go_wp2
                go_roundw
                case rel => exact ⟨k + 1, by omega, by go_num, hb, hs⟩
                case measure => simp [intOf]; omega
              have hpos := Lib.hid (hstop.out rfl)
              replace hbv := hbv.symm
              clear hstep hstop hbef
              cases hna : (ak.name.toList == name.toList)
              case false =>
                rw [hna] at hat
                have hins := Lib.hid (insA_new (a := ⟨name, v⟩) (l := at') (by rw [← hpos.out]; simp only [← ByteArray.toList_eq]; exact hat))
                have hrest := Lib.hid (rows_drop hRq.out (k := k) (by rw [List.length_map]; exact hk))
                replace hat := Lib.hid hat
                go_upto_region 24 with fail
                rw [← List.map_drop] at hrest
                generalize (some ⟨blk, ao + k * 5, none⟩ : Option Addr) = ra at hrest ⊢
                generalize at'.length - k = rn at hrest ⊢
                generalize m' - k = rc at hrest ⊢
                obtain ⟨q, hq⟩ : ∃ q : Nat, Hid (q = k) := ⟨_, Lib.hid rfl⟩
                rw [← hq.out] at hrest
                have hins2 := Lib.hid (show insA ⟨name, v⟩ at' = at'.take k ++ ⟨name, v⟩ :: at'.drop q by rw [hq.out, hins.out]; simp only [← hpos.out])
                clear hat hna hbv v0 n2 n3 hka hpos hins
                have hpre := rows_take hRq.out (k := k) (by rw [List.length_map]; exact hk)
                rw [← List.map_take] at hpre
                have htk : (at'.take k).length = k := by rw [List.length_take]; omega
                have vx := hKq0.x.v
                obtain ⟨v0, v1, v2, v3, -, -, -, -⟩ := own4z vx
                have hvl := vx.lt
                replace hpre := Lib.hid hpre
                replace htk := Lib.hid htk
                have hbox : Hid (∀ W : World, Below wr.heap.size wr W → VC w.heap.size v W) := Lib.hid fun W hb => ⟨(hb.cell (by simpa using hvl)).trans v0, (hb.cell (by simpa using hvl)).trans v1, (hb.cell (by simpa using hvl)).trans v2, (hb.cell (by simpa using hvl)).trans v3⟩
                have hB0 : Hid (∀ u : World, AS wr.heap.size (.slice none 0 0) [] u) := Lib.hid (fun u => as_nil wr.heap.size u)
                clear v0 v1 v2 v3 vx hvl
                go_cut [16] (fun s16 wy => ∃ (va : Option Addr) (vc : Nat), s16 = .slice va (k + 1) vc ∧ Hid (AS wr.heap.size s16 (at'.take k ++ [⟨name, v⟩]) wy) ∧ Hid (Below wr.heap.size wr wy))
                case first =>
                  obtain ⟨wd, hwd⟩ : ∃ wd, wr.drew = wd := ⟨_, rfl⟩
                  have hbd : Below wr.heap.size wr wd := by rw [← hwd]; exact (Below.refl wr.heap.size wr).grown (grown_drew wr none) (Nat.le_refl _) (fun k e => by cases e)
                  have hsd : wr.heap.size ≤ wd.heap.size := hbd.size
                  have hpd := Lib.hid (hpre.out.mono (sub_of_below hbd))
                  have hbx := hbox.out wd hbd
                  replace hbd := Lib.hid hbd
                  refine wp_region_held_drew (S := VC w.heap.size v) (by kernel_rfl) (by rw [hwd]; exact hbx) (fun hHeld => ?_)
                  rw [hwd]
                  clear hwd
                  refine wpAnyH_take (i := 0) (oi := ?oi1) (v := ?v1) ?ho1 (by kernel_rfl) (by kernel_rfl) (by kernel_rfl) ?hp1 (Or.inl ⟨?hw1, ?hy1⟩) (by assumption) ?rest1
                  case ho1 => simp only [List.getElem?_toArray, List.getElem?_cons_zero]; rfl
                  case hp1 => exact fun _ _ _ h => h
                  case hw1 => rfl
                  case hy1 =>
                    intro W hSw
                    go_simp
                    try exact rfl
                  simp only [Act.put, List.setIfInBounds_toArray, List.set_cons_zero, List.set_cons_succ]
                  refine wpAnyH_take (i := 1) (oi := ?oi2) (v := ?v2) ?ho2 (by kernel_rfl) (by kernel_rfl) (by kernel_rfl) ?hp2 (Or.inl ⟨?hw2, ?hy2⟩) (by assumption) ?rest2
                  case ho2 => simp only [List.getElem?_toArray, List.getElem?_cons_succ, List.getElem?_cons_zero]; rfl
                  case hp2 => exact fun _ _ _ h => h
                  case hw2 => rfl
                  case hy2 =>
                    intro W hSw
                    go_simp
                    try exact rfl
                  simp only [Act.put, List.setIfInBounds_toArray, List.set_cons_zero, List.set_cons_succ]
                  refine wpAnyH_take (i := 2) (oi := ?oi3) (v := ?v3) ?ho3 (by kernel_rfl) (by kernel_rfl) (by kernel_rfl) ?hp3 (Or.inl ⟨?hw3, ?hy3⟩) (by assumption) ?rest3
                  case ho3 => simp only [List.getElem?_toArray, List.getElem?_cons_succ, List.getElem?_cons_zero]; rfl
                  case hp3 => exact fun _ _ _ h => h
                  case hw3 => rfl
                  case hy3 =>
                    intro W hSw
                    go_simp
                    try exact rfl
                  simp only [Act.put, List.setIfInBounds_toArray, List.set_cons_zero, List.set_cons_succ]
                  refine wpAnyH_take (i := 4) (oi := ?oi4) (v := ?v4) ?ho4 (by kernel_rfl) (by kernel_rfl) (by kernel_rfl) ?hp4 (Or.inl ⟨?hw4, ?hy4⟩) (by assumption) ?rest4
                  case ho4 => simp only [List.getElem?_toArray, List.getElem?_cons_succ, List.getElem?_cons_zero]; rfl
                  case hp4 => exact fun _ _ _ h => h
                  case hw4 => rfl
                  case hy4 =>
                    intro W hSw
                    go_simp
                    try exact rfl
                  simp only [Act.put, List.setIfInBounds_toArray, List.set_cons_zero, List.set_cons_succ]
                  refine wpAnyH_take (i := 5) (oi := ?oi5) (v := ?v5) ?ho5 (by kernel_rfl) (by kernel_rfl) (by kernel_rfl) ?hp5 (Or.inl ⟨?hw5, ?hy5⟩) (by assumption) ?rest5
                  case ho5 => simp only [List.getElem?_toArray, List.getElem?_cons_succ, List.getElem?_cons_zero]; rfl
                  case hp5 => exact fun _ _ _ h => h
                  case hw5 => rfl
                  case hy5 =>
                    intro W hSw
                    obtain ⟨v0, v1, v2, v3⟩ := hSw
                    go_simp
                    try exact rfl
                  simp only [Act.put, List.setIfInBounds_toArray, List.set_cons_zero, List.set_cons_succ]
                  refine wpAnyH_take (i := 6) (oi := ?oi6) (v := ?v6) ?ho6 (by kernel_rfl) (by kernel_rfl) (by kernel_rfl) ?hp6 (Or.inl ⟨?hw6, ?hy6⟩) (by assumption) ?rest6
                  case ho6 => simp only [List.getElem?_toArray, List.getElem?_cons_succ, List.getElem?_cons_zero]; rfl
                  case hp6 => exact fun _ _ _ h => h
                  case hw6 => rfl
                  case hy6 =>
                    intro W hSw
                    go_simp
                    try exact rfl
                  simp only [Act.put, List.setIfInBounds_toArray, List.set_cons_zero, List.set_cons_succ]
                  refine wpAnyH_ready (rs := [3, 7]) (by kernel_rfl) (by simp) ?_
                  refine AllReadyH.cons rfl (fun K hK => ?_) (AllReadyH.cons rfl (fun K hK => ?_) AllReadyH.nil)
                  · refine step_append_attrs (by rfl) _ _ (by rfl) wr.heap.size _ 0 _ [] (by rfl) (hB0.out _) (by rfl) _ k _ (at'.take k) (by rfl) hpd.out (by omega) hsd ?_
                    intro va3 vc3 w8 hB8 hn8 hb8 hg8
                    rw [Nat.zero_add, List.nil_append] at hB8
                    rw [Nat.zero_add]
                    have hBx8 := Lib.hid (hbd.out.trans hb8)
                    have hs8 := hBx8.out.size
                    replace hB8 := Lib.hid hB8
                    replace hg8 := Lib.hid hg8
                    clear hn8 hb8
                    refine hK.out _ _ (hbox.out _ hBx8.out) (fun hHeld => ?_)
                    clear hK K
                    try simp only [List.getElem_toArray, List.getElem_cons_succ, List.getElem_cons_zero, Act.put, List.setIfInBounds_toArray, List.set_cons_zero, List.set_cons_succ]
                    refine wpAnyH_ready (rs := [7]) (by kernel_rfl) (by simp) ?_
                    refine AllReadyH.cons rfl (fun K hK => ?_) AllReadyH.nil
                    go_simp
                    refine hK.out _ _ (hbox.out _ (hBx8.out.alloc hs8 _)) (fun hHeld => ?_)
                    clear hK K
                    try simp only [List.getElem_toArray, List.getElem_cons_succ, List.getElem_cons_zero, Act.put, List.setIfInBounds_toArray, List.set_cons_zero, List.set_cons_succ]
                    refine wpAnyH_ready (rs := [8]) (by kernel_rfl) (by simp) ?_
                    refine AllReadyH.cons rfl (fun K hK => ?_) AllReadyH.nil
                    refine step_append_attrs (by rfl) _ _ (by rfl) wr.heap.size va3 k vc3 (at'.take k) (by rfl) (hB8.out.below ((Below.refl w8.heap.size w8).alloc (Nat.le_refl _) _)) htk.out.symm _ 1 1 [⟨name, v⟩] (by rfl) (row_lit (d := ⟨name, v⟩) (Own.new w8 _ _)) (by omega) (by simp; omega) ?_
                    intro va4 vc4 w9 hB9 hn9 hb9 hg9
                    have hBx9 := Lib.hid ((hBx8.out.alloc hs8 (.cells #[.string name, .int .i64 v.kind, .int .i64 v.num, .string v.text, .slice v.ptr v.len v.cap] 79)).trans hb9)
                    replace hB9 := Lib.hid hB9
                    clear hn9 hb9 hg9
                    refine hK.out _ _ (hbox.out _ hBx9.out) (fun hHeld => ?_)
                    clear hK K
                    try simp only [List.getElem_toArray, List.getElem_cons_succ, List.getElem_cons_zero, Act.put, List.setIfInBounds_toArray, List.set_cons_zero, List.set_cons_succ]
                    refine wpAnyH_take (i := 9) (oi := ?oi7) (v := ?v7) ?ho7 (by kernel_rfl) (by kernel_rfl) (by kernel_rfl) ?hp7 (Or.inl ⟨?hw7, ?hy7⟩) (by assumption) ?rest7
                    case ho7 => simp only [List.getElem?_toArray, List.getElem?_cons_succ, List.getElem?_cons_zero]; rfl
                    case hp7 => exact fun _ _ _ h => h
                    case hw7 => rfl
                    case hy7 =>
                      intro W hSw
                      go_simp
                      try exact rfl
                    simp only [Act.put, List.setIfInBounds_toArray, List.set_cons_zero, List.set_cons_succ]
                    refine wpAnyH_done (by kernel_rfl) ?_ _
                    go_wp2
                    go_meet
                    exact ⟨va4, vc4, rfl, hB9, hBx9⟩
                  · go_simp
                    refine hK.out _ _ (hbox.out _ (hbd.out.alloc hsd _)) (fun hHeld => ?_)
                    clear hK K
                    try simp only [List.getElem_toArray, List.getElem_cons_succ, List.getElem_cons_zero, Act.put, List.setIfInBounds_toArray, List.set_cons_zero, List.set_cons_succ]
                    refine wpAnyH_ready (rs := [3]) (by kernel_rfl) (by simp) ?_
                    refine AllReadyH.cons rfl (fun K hK => ?_) AllReadyH.nil
                    refine step_append_attrs (by rfl) _ _ (by rfl) wr.heap.size _ 0 _ [] (by rfl) (hB0.out _) (by rfl) _ k _ (at'.take k) (by rfl) (hpd.out.mono (sub_of_below ((Below.refl wd.heap.size wd).alloc (Nat.le_refl _) _))) (by omega) (by simp; omega) ?_
                    intro va3 vc3 w8 hB8 hn8 hb8 hg8
                    rw [Nat.zero_add, List.nil_append] at hB8
                    rw [Nat.zero_add]
                    have hBx8 := Lib.hid ((hbd.out.alloc hsd (.cells #[.string name, .int .i64 v.kind, .int .i64 v.num, .string v.text, .slice v.ptr v.len v.cap] 79)).trans hb8)
                    have hs8 := hBx8.out.size
                    replace hB8 := Lib.hid hB8
                    replace hg8 := Lib.hid hg8
                    clear hn8 hb8
                    refine hK.out _ _ (hbox.out _ hBx8.out) (fun hHeld => ?_)
                    clear hK K
                    try simp only [List.getElem_toArray, List.getElem_cons_succ, List.getElem_cons_zero, Act.put, List.setIfInBounds_toArray, List.set_cons_zero, List.set_cons_succ]
                    refine wpAnyH_ready (rs := [8]) (by kernel_rfl) (by simp) ?_
                    refine AllReadyH.cons rfl (fun K hK => ?_) AllReadyH.nil
                    refine step_append_attrs (by rfl) _ _ (by rfl) wr.heap.size va3 k vc3 (at'.take k) (by rfl) hB8.out htk.out.symm _ 1 1 [⟨name, v⟩] (by rfl) (row_lit (d := ⟨name, v⟩) ((Own.new wd _ _).kept hg8.out (by simp [Value.ownBlock]))) (by omega) hs8 ?_
                    intro va4 vc4 w9 hB9 hn9 hb9 hg9
                    have hBx9 := Lib.hid (hBx8.out.trans hb9)
                    replace hB9 := Lib.hid hB9
                    clear hn9 hb9 hg9
                    refine hK.out _ _ (hbox.out _ hBx9.out) (fun hHeld => ?_)
                    clear hK K
                    try simp only [List.getElem_toArray, List.getElem_cons_succ, List.getElem_cons_zero, Act.put, List.setIfInBounds_toArray, List.set_cons_zero, List.set_cons_succ]
                    refine wpAnyH_take (i := 9) (oi := ?oi8) (v := ?v8) ?ho8 (by kernel_rfl) (by kernel_rfl) (by kernel_rfl) ?hp8 (Or.inl ⟨?hw8, ?hy8⟩) (by assumption) ?rest8
                    case ho8 => simp only [List.getElem?_toArray, List.getElem?_cons_succ, List.getElem?_cons_zero]; rfl
                    case hp8 => exact fun _ _ _ h => h
                    case hw8 => rfl
                    case hy8 =>
                      intro W hSw
                      go_simp
                      try exact rfl
                    simp only [Act.put, List.setIfInBounds_toArray, List.set_cons_zero, List.set_cons_succ]
                    refine wpAnyH_done (by kernel_rfl) ?_ _
                    go_wp2
                    go_meet
                    exact ⟨va4, vc4, rfl, hB9, hBx9⟩
                case rest =>
                  obtain ⟨va, vc, rfl, hA, hbc⟩ := hcut
                  have hrc := Lib.hid (hrest.out.mono (sub_of_below hbc.out))
                  have hrn := (rows_len hrest.out).1
                  rw [List.length_map, List.length_drop] at hrn
                  have hrn' := Lib.hid hrn
                  have hn20 : k + 1 + rn ≤ 1099511627776 := by omega
                  have hszc := hbc.out.size
                  have hBg := hKq0.Bg
                  have hAn : k + 1 = (at'.take k ++ [(⟨name, v⟩ : AD)]).length := by rw [List.length_append, htk.out]; rfl
                  have hL2 : (at'.take k ++ [(⟨name, v⟩ : AD)]) ++ at'.drop q = insA ⟨name, v⟩ at' := by rw [hins2.out, List.append_assoc]; rfl
                  have hlenI : k + 1 + rn = (insA ⟨name, v⟩ (l[i]'hlt).attrs).length := by
                    rw [← (insA_alike (a' := ⟨name, v⟩) (a := ⟨name, v⟩) ⟨rfl, rfl, rfl, rfl, rfl⟩ hsk.out.2.2).1]
                    rw [hins2.out, List.length_append, htk.out, List.length_cons, List.length_drop, hrn'.out]
                    omega
                  have hmem : ∀ a ∈ insA (⟨name, v⟩ : AD) at', a ∈ at' ∨ a.val = v := by
                    intro a ha
                    rw [hins2.out] at ha
                    rcases List.mem_append.1 ha with ha | ha
                    · exact Or.inl (List.mem_of_mem_take ha)
                    · rcases List.mem_cons.1 ha with rfl | ha
                      · exact Or.inr rfl
                      · exact Or.inl (List.mem_of_mem_drop ha)
                  replace hAn := Lib.hid hAn
                  replace hL2 := Lib.hid hL2
                  replace hlenI := Lib.hid hlenI
                  replace hmem := Lib.hid hmem
                  replace hbc := Lib.hid hbc.out
                  clear hrn hpre htk hbox hB0 hrest hins2 hRq c0 c2 cf z0 y0
                  obtain ⟨N, hN⟩ : ∃ N, Hid (N = k + 1 + rn) := ⟨_, Lib.hid rfl⟩
                  replace hlenI := Lib.hid (hN.out.trans hlenI.out)
                  have hlw := hKq0.low
                  have q3 : ¬ g = w.heap.size + 1 + 1 := by omega
                  have q4 : ¬ w.heap.size + 1 + 1 = g := by omega
                  by_cases h20 : 20 < N
                  case pos =>
                    have h20' := Lib.hid (show 20 < (insA ⟨name, v⟩ (l[i]'hlt).attrs).length by rw [← hlenI.out]; exact h20)
                    have h20i : (20 : Int) < (N : Int) := by omega
                    go_wp2_with (at_builtin; refine wpList_append_attrs rfl _ _ rfl wr.heap.size va (k + 1) vc (at'.take k ++ [⟨name, v⟩]) rfl hA.out hAn.out _ _ _ (at'.drop q) rfl hrc.out hn20 hszc ?_; intro xa xc w9 hX hXn hb9 hg9; rw [hL2.out] at hX; have hK9 := Lib.hid (hKq0.call (hbc.out.trans hb9)); obtain ⟨-, d2, df⟩ := hK9.out.cells hck.out; simp only at d2; have hK10 := Lib.hid (hK9.out.put hck.out hX (show g < wr.heap.size by omega) hmem.out hv.out); have zz := hK9.out.x.z.cell 0; have yy := hK9.out.x.z.free 0; have zl := hK9.out.x.low'; simp only [List.getElem?_toArray, List.getElem?_cons_zero] at zz; clear hb9 hg9 hX hXn; rw [← hN.out] at hK10 ⊢)
                    have hr := hK10.out.x.res (.slice none 0 0)
                    go_wp2
                    refine bodyPost_ret (v := .tuple #[.agg #[.slice none 0 0], .int .i64 5]) (by simp [results, Tryz.results35, go_sem, hr]) rfl ?_
                    exact ⟨with_err (withS_many hc.out hfi.out hbd.out hcv.out h20'.out), hK10.out.x.low.setCell (by simp; omega) _⟩
                  have h20i : ¬ (20 : Int) < (N : Int) := by omega
                  have hm := Lib.hid (mixC_hit ⟨name, v⟩ hlt (by rw [← hsk.out.1]; exact hne))
                  have hf2 := Lib.hid (fun (j : Nat) (hj : j < l.length) (h : j < i + 1) (hk : (l[j].kind.toList == kind.toList) = true) => show (insA ⟨name, v⟩ l[j].attrs).length ≤ 20 from by
                    rcases Nat.lt_or_ge j i with h1 | h1
                    · exact hfew.out j hj h1 hk
                    · obtain rfl : j = i := by omega
                      rw [← hlenI.out]
                      omega)
                  go_wp2_with (at_builtin; refine wpList_append_attrs rfl _ _ rfl wr.heap.size va (k + 1) vc (at'.take k ++ [⟨name, v⟩]) rfl hA.out hAn.out _ _ _ (at'.drop q) rfl hrc.out hn20 hszc ?_; intro xa xc w9 hX hXn hb9 hg9; rw [hL2.out] at hX; have hK9 := Lib.hid (hKq0.call (hbc.out.trans hb9)); obtain ⟨-, d2, df⟩ := hK9.out.cells hck.out; simp only at d2; have hK10 := Lib.hid (hK9.out.put hck.out hX (show g < wr.heap.size by omega) hmem.out hv.out); have zz := hK9.out.x.z.cell 0; have yy := hK9.out.x.z.free 0; have zl := hK9.out.x.low'; simp only [List.getElem?_toArray, List.getElem?_cons_zero] at zz; clear hb9 hg9 hX hXn; rw [← hN.out] at hK10 ⊢)
                  have hal2 := Lib.hid (show Alike SameC (L.set i ⟨kd, ky, xa, N, xc, insA ⟨name, v⟩ at'⟩) (mixC kind.toList ⟨name, v⟩ l (i + 1)) by
                    rw [hm.out]
                    exact Alike.set' (R := SameC) hal.out (a' := ⟨kd, ky, xa, N, xc, insA ⟨name, v⟩ at'⟩) (a := ⟨l[i].kind, l[i].key, l[i].ptr, l[i].len, l[i].cap, insA ⟨name, v⟩ l[i].attrs⟩) ⟨hsk.out.1, hsk.out.2.1, insA_alike ⟨rfl, rfl, rfl, rfl, rfl⟩ hsk.out.2.2⟩ i)
                  go_wp2
                  go_roundw
                  case rel => exact ⟨i + 1, _, by omega, by go_num, hK10, hal2, hf2⟩
                  case measure => simp [intOf]; omega
              case true =>
                rw [hna] at hat
                have hins := Lib.hid (insA_at (a := ⟨name, v⟩) (l := at') (by rw [← hpos.out]; simp only [← ByteArray.toList_eq]; exact hat))
                have hrest := rows_drop hRq.out (k := k + 1) (by rw [List.length_map]; omega)
                replace hrest := Lib.hid (show RowsAt wr.cell? 5 (.slice (if m' = k + 1 then some ⟨blk, ao, none⟩ else some ⟨blk, ao + (k + 1) * 5, none⟩) (at'.length - (k + 1)) (m' - (k + 1))) ((at'.map AD.row).drop (k + 1)) from by
                  by_cases he : m' = k + 1
                  · rw [if_pos he, show at'.length - (k + 1) = 0 by omega]
                    exact rows_end (by rw [List.length_map]; omega) (by omega)
                  · rw [if_neg he]
                    exact hrest)
                replace hat := Lib.hid hat
                go_upto_region 24 with fail
                rw [← List.map_drop] at hrest
                generalize (if m' = k + 1 then some ⟨blk, ao, none⟩ else some ⟨blk, ao + (k + 1) * 5, none⟩ : Option Addr) = ra at hrest ⊢
                generalize at'.length - (k + 1) = rn at hrest ⊢
                generalize m' - (k + 1) = rc at hrest ⊢
                obtain ⟨q, hq⟩ : ∃ q : Nat, Hid (q = k + 1) := ⟨_, Lib.hid rfl⟩
                rw [← hq.out] at hrest
                have hins2 := Lib.hid (show insA ⟨name, v⟩ at' = at'.take k ++ ⟨name, v⟩ :: at'.drop q by rw [hq.out, hins.out]; simp only [← hpos.out])
                clear hat hna hbv v0 n2 n3 hka hpos hins
                have hpre := rows_take hRq.out (k := k) (by rw [List.length_map]; exact hk)
                rw [← List.map_take] at hpre
                have htk : (at'.take k).length = k := by rw [List.length_take]; omega
                have vx := hKq0.x.v
                obtain ⟨v0, v1, v2, v3, -, -, -, -⟩ := own4z vx
                have hvl := vx.lt
                replace hpre := Lib.hid hpre
                replace htk := Lib.hid htk
                have hbox : Hid (∀ W : World, Below wr.heap.size wr W → VC w.heap.size v W) := Lib.hid fun W hb => ⟨(hb.cell (by simpa using hvl)).trans v0, (hb.cell (by simpa using hvl)).trans v1, (hb.cell (by simpa using hvl)).trans v2, (hb.cell (by simpa using hvl)).trans v3⟩
                have hB0 : Hid (∀ u : World, AS wr.heap.size (.slice none 0 0) [] u) := Lib.hid (fun u => as_nil wr.heap.size u)
                clear v0 v1 v2 v3 vx hvl
                go_cut [16] (fun s16 wy => ∃ (va : Option Addr) (vc : Nat), s16 = .slice va (k + 1) vc ∧ Hid (AS wr.heap.size s16 (at'.take k ++ [⟨name, v⟩]) wy) ∧ Hid (Below wr.heap.size wr wy))
                case first =>
                  obtain ⟨wd, hwd⟩ : ∃ wd, wr.drew = wd := ⟨_, rfl⟩
                  have hbd : Below wr.heap.size wr wd := by rw [← hwd]; exact (Below.refl wr.heap.size wr).grown (grown_drew wr none) (Nat.le_refl _) (fun k e => by cases e)
                  have hsd : wr.heap.size ≤ wd.heap.size := hbd.size
                  have hpd := Lib.hid (hpre.out.mono (sub_of_below hbd))
                  have hbx := hbox.out wd hbd
                  replace hbd := Lib.hid hbd
                  refine wp_region_held_drew (S := VC w.heap.size v) (by kernel_rfl) (by rw [hwd]; exact hbx) (fun hHeld => ?_)
                  rw [hwd]
                  clear hwd
                  refine wpAnyH_take (i := 0) (oi := ?oi9) (v := ?v9) ?ho9 (by kernel_rfl) (by kernel_rfl) (by kernel_rfl) ?hp9 (Or.inl ⟨?hw9, ?hy9⟩) (by assumption) ?rest9
                  case ho9 => simp only [List.getElem?_toArray, List.getElem?_cons_zero]; rfl
                  case hp9 => exact fun _ _ _ h => h
                  case hw9 => rfl
                  case hy9 =>
                    intro W hSw
                    go_simp
                    try exact rfl
                  simp only [Act.put, List.setIfInBounds_toArray, List.set_cons_zero, List.set_cons_succ]
                  refine wpAnyH_take (i := 1) (oi := ?oi10) (v := ?v10) ?ho10 (by kernel_rfl) (by kernel_rfl) (by kernel_rfl) ?hp10 (Or.inl ⟨?hw10, ?hy10⟩) (by assumption) ?rest10
                  case ho10 => simp only [List.getElem?_toArray, List.getElem?_cons_succ, List.getElem?_cons_zero]; rfl
                  case hp10 => exact fun _ _ _ h => h
                  case hw10 => rfl
                  case hy10 =>
                    intro W hSw
                    go_simp
                    try exact rfl
                  simp only [Act.put, List.setIfInBounds_toArray, List.set_cons_zero, List.set_cons_succ]
                  refine wpAnyH_take (i := 2) (oi := ?oi11) (v := ?v11) ?ho11 (by kernel_rfl) (by kernel_rfl) (by kernel_rfl) ?hp11 (Or.inl ⟨?hw11, ?hy11⟩) (by assumption) ?rest11
                  case ho11 => simp only [List.getElem?_toArray, List.getElem?_cons_succ, List.getElem?_cons_zero]; rfl
                  case hp11 => exact fun _ _ _ h => h
                  case hw11 => rfl
                  case hy11 =>
                    intro W hSw
                    go_simp
                    try exact rfl
                  simp only [Act.put, List.setIfInBounds_toArray, List.set_cons_zero, List.set_cons_succ]
                  refine wpAnyH_take (i := 4) (oi := ?oi12) (v := ?v12) ?ho12 (by kernel_rfl) (by kernel_rfl) (by kernel_rfl) ?hp12 (Or.inl ⟨?hw12, ?hy12⟩) (by assumption) ?rest12
                  case ho12 => simp only [List.getElem?_toArray, List.getElem?_cons_succ, List.getElem?_cons_zero]; rfl
                  case hp12 => exact fun _ _ _ h => h
                  case hw12 => rfl
                  case hy12 =>
                    intro W hSw
                    go_simp
                    try exact rfl
                  simp only [Act.put, List.setIfInBounds_toArray, List.set_cons_zero, List.set_cons_succ]
                  refine wpAnyH_take (i := 5) (oi := ?oi13) (v := ?v13) ?ho13 (by kernel_rfl) (by kernel_rfl) (by kernel_rfl) ?hp13 (Or.inl ⟨?hw13, ?hy13⟩) (by assumption) ?rest13
                  case ho13 => simp only [List.getElem?_toArray, List.getElem?_cons_succ, List.getElem?_cons_zero]; rfl
                  case hp13 => exact fun _ _ _ h => h
                  case hw13 => rfl
                  case hy13 =>
                    intro W hSw
                    obtain ⟨v0, v1, v2, v3⟩ := hSw
                    go_simp
                    try exact rfl
                  simp only [Act.put, List.setIfInBounds_toArray, List.set_cons_zero, List.set_cons_succ]
                  refine wpAnyH_take (i := 6) (oi := ?oi14) (v := ?v14) ?ho14 (by kernel_rfl) (by kernel_rfl) (by kernel_rfl) ?hp14 (Or.inl ⟨?hw14, ?hy14⟩) (by assumption) ?rest14
                  case ho14 => simp only [List.getElem?_toArray, List.getElem?_cons_succ, List.getElem?_cons_zero]; rfl
                  case hp14 => exact fun _ _ _ h => h
                  case hw14 => rfl
                  case hy14 =>
                    intro W hSw
                    go_simp
                    try exact rfl
                  simp only [Act.put, List.setIfInBounds_toArray, List.set_cons_zero, List.set_cons_succ]
                  refine wpAnyH_ready (rs := [3, 7]) (by kernel_rfl) (by simp) ?_
                  refine AllReadyH.cons rfl (fun K hK => ?_) (AllReadyH.cons rfl (fun K hK => ?_) AllReadyH.nil)
                  · refine step_append_attrs (by rfl) _ _ (by rfl) wr.heap.size _ 0 _ [] (by rfl) (hB0.out _) (by rfl) _ k _ (at'.take k) (by rfl) hpd.out (by omega) hsd ?_
                    intro va3 vc3 w8 hB8 hn8 hb8 hg8
                    rw [Nat.zero_add, List.nil_append] at hB8
                    rw [Nat.zero_add]
                    have hBx8 := Lib.hid (hbd.out.trans hb8)
                    have hs8 := hBx8.out.size
                    replace hB8 := Lib.hid hB8
                    replace hg8 := Lib.hid hg8
                    clear hn8 hb8
                    refine hK.out _ _ (hbox.out _ hBx8.out) (fun hHeld => ?_)
                    clear hK K
                    try simp only [List.getElem_toArray, List.getElem_cons_succ, List.getElem_cons_zero, Act.put, List.setIfInBounds_toArray, List.set_cons_zero, List.set_cons_succ]
                    refine wpAnyH_ready (rs := [7]) (by kernel_rfl) (by simp) ?_
                    refine AllReadyH.cons rfl (fun K hK => ?_) AllReadyH.nil
                    go_simp
                    refine hK.out _ _ (hbox.out _ (hBx8.out.alloc hs8 _)) (fun hHeld => ?_)
                    clear hK K
                    try simp only [List.getElem_toArray, List.getElem_cons_succ, List.getElem_cons_zero, Act.put, List.setIfInBounds_toArray, List.set_cons_zero, List.set_cons_succ]
                    refine wpAnyH_ready (rs := [8]) (by kernel_rfl) (by simp) ?_
                    refine AllReadyH.cons rfl (fun K hK => ?_) AllReadyH.nil
                    refine step_append_attrs (by rfl) _ _ (by rfl) wr.heap.size va3 k vc3 (at'.take k) (by rfl) (hB8.out.below ((Below.refl w8.heap.size w8).alloc (Nat.le_refl _) _)) htk.out.symm _ 1 1 [⟨name, v⟩] (by rfl) (row_lit (d := ⟨name, v⟩) (Own.new w8 _ _)) (by omega) (by simp; omega) ?_
                    intro va4 vc4 w9 hB9 hn9 hb9 hg9
                    have hBx9 := Lib.hid ((hBx8.out.alloc hs8 (.cells #[.string name, .int .i64 v.kind, .int .i64 v.num, .string v.text, .slice v.ptr v.len v.cap] 79)).trans hb9)
                    replace hB9 := Lib.hid hB9
                    clear hn9 hb9 hg9
                    refine hK.out _ _ (hbox.out _ hBx9.out) (fun hHeld => ?_)
                    clear hK K
                    try simp only [List.getElem_toArray, List.getElem_cons_succ, List.getElem_cons_zero, Act.put, List.setIfInBounds_toArray, List.set_cons_zero, List.set_cons_succ]
                    refine wpAnyH_take (i := 9) (oi := ?oi15) (v := ?v15) ?ho15 (by kernel_rfl) (by kernel_rfl) (by kernel_rfl) ?hp15 (Or.inl ⟨?hw15, ?hy15⟩) (by assumption) ?rest15
                    case ho15 => simp only [List.getElem?_toArray, List.getElem?_cons_succ, List.getElem?_cons_zero]; rfl
                    case hp15 => exact fun _ _ _ h => h
                    case hw15 => rfl
                    case hy15 =>
                      intro W hSw
                      go_simp
                      try exact rfl
                    simp only [Act.put, List.setIfInBounds_toArray, List.set_cons_zero, List.set_cons_succ]
                    refine wpAnyH_done (by kernel_rfl) ?_ _
                    go_wp2
                    go_meet
                    exact ⟨va4, vc4, rfl, hB9, hBx9⟩
                  · go_simp
                    refine hK.out _ _ (hbox.out _ (hbd.out.alloc hsd _)) (fun hHeld => ?_)
                    clear hK K
                    try simp only [List.getElem_toArray, List.getElem_cons_succ, List.getElem_cons_zero, Act.put, List.setIfInBounds_toArray, List.set_cons_zero, List.set_cons_succ]
                    refine wpAnyH_ready (rs := [3]) (by kernel_rfl) (by simp) ?_
                    refine AllReadyH.cons rfl (fun K hK => ?_) AllReadyH.nil
                    refine step_append_attrs (by rfl) _ _ (by rfl) wr.heap.size _ 0 _ [] (by rfl) (hB0.out _) (by rfl) _ k _ (at'.take k) (by rfl) (hpd.out.mono (sub_of_below ((Below.refl wd.heap.size wd).alloc (Nat.le_refl _) _))) (by omega) (by simp; omega) ?_
                    intro va3 vc3 w8 hB8 hn8 hb8 hg8
                    rw [Nat.zero_add, List.nil_append] at hB8
                    rw [Nat.zero_add]
                    have hBx8 := Lib.hid ((hbd.out.alloc hsd (.cells #[.string name, .int .i64 v.kind, .int .i64 v.num, .string v.text, .slice v.ptr v.len v.cap] 79)).trans hb8)
                    have hs8 := hBx8.out.size
                    replace hB8 := Lib.hid hB8
                    replace hg8 := Lib.hid hg8
                    clear hn8 hb8
                    refine hK.out _ _ (hbox.out _ hBx8.out) (fun hHeld => ?_)
                    clear hK K
                    try simp only [List.getElem_toArray, List.getElem_cons_succ, List.getElem_cons_zero, Act.put, List.setIfInBounds_toArray, List.set_cons_zero, List.set_cons_succ]
                    refine wpAnyH_ready (rs := [8]) (by kernel_rfl) (by simp) ?_
                    refine AllReadyH.cons rfl (fun K hK => ?_) AllReadyH.nil
                    refine step_append_attrs (by rfl) _ _ (by rfl) wr.heap.size va3 k vc3 (at'.take k) (by rfl) hB8.out htk.out.symm _ 1 1 [⟨name, v⟩] (by rfl) (row_lit (d := ⟨name, v⟩) ((Own.new wd _ _).kept hg8.out (by simp [Value.ownBlock]))) (by omega) hs8 ?_
                    intro va4 vc4 w9 hB9 hn9 hb9 hg9
                    have hBx9 := Lib.hid (hBx8.out.trans hb9)
                    replace hB9 := Lib.hid hB9
                    clear hn9 hb9 hg9
                    refine hK.out _ _ (hbox.out _ hBx9.out) (fun hHeld => ?_)
                    clear hK K
                    try simp only [List.getElem_toArray, List.getElem_cons_succ, List.getElem_cons_zero, Act.put, List.setIfInBounds_toArray, List.set_cons_zero, List.set_cons_succ]
                    refine wpAnyH_take (i := 9) (oi := ?oi16) (v := ?v16) ?ho16 (by kernel_rfl) (by kernel_rfl) (by kernel_rfl) ?hp16 (Or.inl ⟨?hw16, ?hy16⟩) (by assumption) ?rest16
                    case ho16 => simp only [List.getElem?_toArray, List.getElem?_cons_succ, List.getElem?_cons_zero]; rfl
                    case hp16 => exact fun _ _ _ h => h
                    case hw16 => rfl
                    case hy16 =>
                      intro W hSw
                      go_simp
                      try exact rfl
                    simp only [Act.put, List.setIfInBounds_toArray, List.set_cons_zero, List.set_cons_succ]
                    refine wpAnyH_done (by kernel_rfl) ?_ _
                    go_wp2
                    go_meet
                    exact ⟨va4, vc4, rfl, hB9, hBx9⟩
                case rest =>
                  obtain ⟨va, vc, rfl, hA, hbc⟩ := hcut
                  have hrc := Lib.hid (hrest.out.mono (sub_of_below hbc.out))
                  have hrn := (rows_len hrest.out).1
                  rw [List.length_map, List.length_drop] at hrn
                  have hrn' := Lib.hid hrn
                  have hn20 : k + 1 + rn ≤ 1099511627776 := by omega
                  have hszc := hbc.out.size
                  have hBg := hKq0.Bg
                  have hAn : k + 1 = (at'.take k ++ [(⟨name, v⟩ : AD)]).length := by rw [List.length_append, htk.out]; rfl
                  have hL2 : (at'.take k ++ [(⟨name, v⟩ : AD)]) ++ at'.drop q = insA ⟨name, v⟩ at' := by rw [hins2.out, List.append_assoc]; rfl
                  have hlenI : k + 1 + rn = (insA ⟨name, v⟩ (l[i]'hlt).attrs).length := by
                    rw [← (insA_alike (a' := ⟨name, v⟩) (a := ⟨name, v⟩) ⟨rfl, rfl, rfl, rfl, rfl⟩ hsk.out.2.2).1]
                    rw [hins2.out, List.length_append, htk.out, List.length_cons, List.length_drop, hrn'.out]
                    omega
                  have hmem : ∀ a ∈ insA (⟨name, v⟩ : AD) at', a ∈ at' ∨ a.val = v := by
                    intro a ha
                    rw [hins2.out] at ha
                    rcases List.mem_append.1 ha with ha | ha
                    · exact Or.inl (List.mem_of_mem_take ha)
                    · rcases List.mem_cons.1 ha with rfl | ha
                      · exact Or.inr rfl
                      · exact Or.inl (List.mem_of_mem_drop ha)
                  replace hAn := Lib.hid hAn
                  replace hL2 := Lib.hid hL2
                  replace hlenI := Lib.hid hlenI
                  replace hmem := Lib.hid hmem
                  replace hbc := Lib.hid hbc.out
                  clear hrn hpre htk hbox hB0 hrest hins2 hRq c0 c2 cf z0 y0
                  obtain ⟨N, hN⟩ : ∃ N, Hid (N = k + 1 + rn) := ⟨_, Lib.hid rfl⟩
                  replace hlenI := Lib.hid (hN.out.trans hlenI.out)
                  have hlw := hKq0.low
                  have q3 : ¬ g = w.heap.size + 1 + 1 := by omega
                  have q4 : ¬ w.heap.size + 1 + 1 = g := by omega
                  by_cases h20 : 20 < N
                  case pos =>
                    have h20' := Lib.hid (show 20 < (insA ⟨name, v⟩ (l[i]'hlt).attrs).length by rw [← hlenI.out]; exact h20)
                    have h20i : (20 : Int) < (N : Int) := by omega
                    go_wp2_with (at_builtin; refine wpList_append_attrs rfl _ _ rfl wr.heap.size va (k + 1) vc (at'.take k ++ [⟨name, v⟩]) rfl hA.out hAn.out _ _ _ (at'.drop q) rfl hrc.out hn20 hszc ?_; intro xa xc w9 hX hXn hb9 hg9; rw [hL2.out] at hX; have hK9 := Lib.hid (hKq0.call (hbc.out.trans hb9)); obtain ⟨-, d2, df⟩ := hK9.out.cells hck.out; simp only at d2; have hK10 := Lib.hid (hK9.out.put hck.out hX (show g < wr.heap.size by omega) hmem.out hv.out); have zz := hK9.out.x.z.cell 0; have yy := hK9.out.x.z.free 0; have zl := hK9.out.x.low'; simp only [List.getElem?_toArray, List.getElem?_cons_zero] at zz; clear hb9 hg9 hX hXn; rw [← hN.out] at hK10 ⊢)
                    have hr := hK10.out.x.res (.slice none 0 0)
                    go_wp2
                    refine bodyPost_ret (v := .tuple #[.agg #[.slice none 0 0], .int .i64 5]) (by simp [results, Tryz.results35, go_sem, hr]) rfl ?_
                    exact ⟨with_err (withS_many hc.out hfi.out hbd.out hcv.out h20'.out), hK10.out.x.low.setCell (by simp; omega) _⟩
                  have h20i : ¬ (20 : Int) < (N : Int) := by omega
                  have hm := Lib.hid (mixC_hit ⟨name, v⟩ hlt (by rw [← hsk.out.1]; exact hne))
                  have hf2 := Lib.hid (fun (j : Nat) (hj : j < l.length) (h : j < i + 1) (hk : (l[j].kind.toList == kind.toList) = true) => show (insA ⟨name, v⟩ l[j].attrs).length ≤ 20 from by
                    rcases Nat.lt_or_ge j i with h1 | h1
                    · exact hfew.out j hj h1 hk
                    · obtain rfl : j = i := by omega
                      rw [← hlenI.out]
                      omega)
                  go_wp2_with (at_builtin; refine wpList_append_attrs rfl _ _ rfl wr.heap.size va (k + 1) vc (at'.take k ++ [⟨name, v⟩]) rfl hA.out hAn.out _ _ _ (at'.drop q) rfl hrc.out hn20 hszc ?_; intro xa xc w9 hX hXn hb9 hg9; rw [hL2.out] at hX; have hK9 := Lib.hid (hKq0.call (hbc.out.trans hb9)); obtain ⟨-, d2, df⟩ := hK9.out.cells hck.out; simp only at d2; have hK10 := Lib.hid (hK9.out.put hck.out hX (show g < wr.heap.size by omega) hmem.out hv.out); have zz := hK9.out.x.z.cell 0; have yy := hK9.out.x.z.free 0; have zl := hK9.out.x.low'; simp only [List.getElem?_toArray, List.getElem?_cons_zero] at zz; clear hb9 hg9 hX hXn; rw [← hN.out] at hK10 ⊢)
                  have hal2 := Lib.hid (show Alike SameC (L.set i ⟨kd, ky, xa, N, xc, insA ⟨name, v⟩ at'⟩) (mixC kind.toList ⟨name, v⟩ l (i + 1)) by
                    rw [hm.out]
                    exact Alike.set' (R := SameC) hal.out (a' := ⟨kd, ky, xa, N, xc, insA ⟨name, v⟩ at'⟩) (a := ⟨l[i].kind, l[i].key, l[i].ptr, l[i].len, l[i].cap, insA ⟨name, v⟩ l[i].attrs⟩) ⟨hsk.out.1, hsk.out.2.1, insA_alike ⟨rfl, rfl, rfl, rfl, rfl⟩ hsk.out.2.2⟩ i)
                  go_wp2
                  go_roundw
                  case rel => exact ⟨i + 1, _, by omega, by go_num, hK10, hal2, hf2⟩
                  case measure => simp [intOf]; omega
            case inl =>
              have hpos := Lib.hid (posA_of (x := name.data.toList) hk hbef.out (fun h => absurd h hka))
              have hins := Lib.hid (insA_new (a := ⟨name, v⟩) (l := at') (by rw [← hpos.out]; exact hasAt_out hka))
              have hrest := Lib.hid (show RowsAt wr.cell? 5 (.slice p 0 0) ((at'.map AD.row).drop k) from rows_end (by rw [List.length_map]; omega) (by decide))
              replace hRq := Lib.hid hRq
              subst hkc
              go_upto_region 24 with fail
              rw [← List.map_drop] at hrest
              have hex : ∃ (ra : Option Addr) (rn rc : Nat), Value.slice p 0 0 = .slice ra rn rc := ⟨_, _, _, rfl⟩
              generalize Value.slice p 0 0 = sl at hrest hex ⊢
              obtain ⟨ra, rn, rc, rfl⟩ := hex
              obtain ⟨q, hq⟩ : ∃ q : Nat, Hid (q = k) := ⟨_, Lib.hid rfl⟩
              rw [← hq.out] at hrest
              have hins2 := Lib.hid (show insA ⟨name, v⟩ at' = at'.take k ++ ⟨name, v⟩ :: at'.drop q by rw [hq.out, hins.out]; simp only [← hpos.out])
              clear hka hpos hins
              have hpre := rows_take hRq.out (k := k) (by rw [List.length_map]; exact hk)
              rw [← List.map_take] at hpre
              have htk : (at'.take k).length = k := by rw [List.length_take]; omega
              have vx := hKq0.x.v
              obtain ⟨v0, v1, v2, v3, -, -, -, -⟩ := own4z vx
              have hvl := vx.lt
              replace hpre := Lib.hid hpre
              replace htk := Lib.hid htk
              have hbox : Hid (∀ W : World, Below wr.heap.size wr W → VC w.heap.size v W) := Lib.hid fun W hb => ⟨(hb.cell (by simpa using hvl)).trans v0, (hb.cell (by simpa using hvl)).trans v1, (hb.cell (by simpa using hvl)).trans v2, (hb.cell (by simpa using hvl)).trans v3⟩
              have hB0 : Hid (∀ u : World, AS wr.heap.size (.slice none 0 0) [] u) := Lib.hid (fun u => as_nil wr.heap.size u)
              clear v0 v1 v2 v3 vx hvl
              go_cut [16] (fun s16 wy => ∃ (va : Option Addr) (vc : Nat), s16 = .slice va (k + 1) vc ∧ Hid (AS wr.heap.size s16 (at'.take k ++ [⟨name, v⟩]) wy) ∧ Hid (Below wr.heap.size wr wy))
              case first =>
                obtain ⟨wd, hwd⟩ : ∃ wd, wr.drew = wd := ⟨_, rfl⟩
                have hbd : Below wr.heap.size wr wd := by rw [← hwd]; exact (Below.refl wr.heap.size wr).grown (grown_drew wr none) (Nat.le_refl _) (fun k e => by cases e)
                have hsd : wr.heap.size ≤ wd.heap.size := hbd.size
                have hpd := Lib.hid (hpre.out.mono (sub_of_below hbd))
                have hbx := hbox.out wd hbd
                replace hbd := Lib.hid hbd
                refine wp_region_held_drew (S := VC w.heap.size v) (by kernel_rfl) (by rw [hwd]; exact hbx) (fun hHeld => ?_)
                rw [hwd]
                clear hwd
                refine wpAnyH_take (i := 0) (oi := ?oi17) (v := ?v17) ?ho17 (by kernel_rfl) (by kernel_rfl) (by kernel_rfl) ?hp17 (Or.inl ⟨?hw17, ?hy17⟩) (by assumption) ?rest17
                case ho17 => simp only [List.getElem?_toArray, List.getElem?_cons_zero]; rfl
                case hp17 => exact fun _ _ _ h => h
                case hw17 => rfl
                case hy17 =>
                  intro W hSw
                  go_simp
                  try exact rfl
                simp only [Act.put, List.setIfInBounds_toArray, List.set_cons_zero, List.set_cons_succ]
                refine wpAnyH_take (i := 1) (oi := ?oi18) (v := ?v18) ?ho18 (by kernel_rfl) (by kernel_rfl) (by kernel_rfl) ?hp18 (Or.inl ⟨?hw18, ?hy18⟩) (by assumption) ?rest18
                case ho18 => simp only [List.getElem?_toArray, List.getElem?_cons_succ, List.getElem?_cons_zero]; rfl
                case hp18 => exact fun _ _ _ h => h
                case hw18 => rfl
                case hy18 =>
                  intro W hSw
                  go_simp
                  try exact rfl
                simp only [Act.put, List.setIfInBounds_toArray, List.set_cons_zero, List.set_cons_succ]
                refine wpAnyH_take (i := 2) (oi := ?oi19) (v := ?v19) ?ho19 (by kernel_rfl) (by kernel_rfl) (by kernel_rfl) ?hp19 (Or.inl ⟨?hw19, ?hy19⟩) (by assumption) ?rest19
                case ho19 => simp only [List.getElem?_toArray, List.getElem?_cons_succ, List.getElem?_cons_zero]; rfl
                case hp19 => exact fun _ _ _ h => h
                case hw19 => rfl
                case hy19 =>
                  intro W hSw
                  go_simp
                  try exact rfl
                simp only [Act.put, List.setIfInBounds_toArray, List.set_cons_zero, List.set_cons_succ]
                refine wpAnyH_take (i := 4) (oi := ?oi20) (v := ?v20) ?ho20 (by kernel_rfl) (by kernel_rfl) (by kernel_rfl) ?hp20 (Or.inl ⟨?hw20, ?hy20⟩) (by assumption) ?rest20
                case ho20 => simp only [List.getElem?_toArray, List.getElem?_cons_succ, List.getElem?_cons_zero]; rfl
                case hp20 => exact fun _ _ _ h => h
                case hw20 => rfl
                case hy20 =>
                  intro W hSw
                  go_simp
                  try exact rfl
                simp only [Act.put, List.setIfInBounds_toArray, List.set_cons_zero, List.set_cons_succ]
                refine wpAnyH_take (i := 5) (oi := ?oi21) (v := ?v21) ?ho21 (by kernel_rfl) (by kernel_rfl) (by kernel_rfl) ?hp21 (Or.inl ⟨?hw21, ?hy21⟩) (by assumption) ?rest21
                case ho21 => simp only [List.getElem?_toArray, List.getElem?_cons_succ, List.getElem?_cons_zero]; rfl
                case hp21 => exact fun _ _ _ h => h
                case hw21 => rfl
                case hy21 =>
                  intro W hSw
                  obtain ⟨v0, v1, v2, v3⟩ := hSw
                  go_simp
                  try exact rfl
                simp only [Act.put, List.setIfInBounds_toArray, List.set_cons_zero, List.set_cons_succ]
                refine wpAnyH_take (i := 6) (oi := ?oi22) (v := ?v22) ?ho22 (by kernel_rfl) (by kernel_rfl) (by kernel_rfl) ?hp22 (Or.inl ⟨?hw22, ?hy22⟩) (by assumption) ?rest22
                case ho22 => simp only [List.getElem?_toArray, List.getElem?_cons_succ, List.getElem?_cons_zero]; rfl
                case hp22 => exact fun _ _ _ h => h
                case hw22 => rfl
                case hy22 =>
                  intro W hSw
                  go_simp
                  try exact rfl
                simp only [Act.put, List.setIfInBounds_toArray, List.set_cons_zero, List.set_cons_succ]
                refine wpAnyH_ready (rs := [3, 7]) (by kernel_rfl) (by simp) ?_
                refine AllReadyH.cons rfl (fun K hK => ?_) (AllReadyH.cons rfl (fun K hK => ?_) AllReadyH.nil)
                · refine step_append_attrs (by rfl) _ _ (by rfl) wr.heap.size _ 0 _ [] (by rfl) (hB0.out _) (by rfl) _ k _ (at'.take k) (by rfl) hpd.out (by omega) hsd ?_
                  intro va3 vc3 w8 hB8 hn8 hb8 hg8
                  rw [Nat.zero_add, List.nil_append] at hB8
                  rw [Nat.zero_add]
                  have hBx8 := Lib.hid (hbd.out.trans hb8)
                  have hs8 := hBx8.out.size
                  replace hB8 := Lib.hid hB8
                  replace hg8 := Lib.hid hg8
                  clear hn8 hb8
                  refine hK.out _ _ (hbox.out _ hBx8.out) (fun hHeld => ?_)
                  clear hK K
                  try simp only [List.getElem_toArray, List.getElem_cons_succ, List.getElem_cons_zero, Act.put, List.setIfInBounds_toArray, List.set_cons_zero, List.set_cons_succ]
                  refine wpAnyH_ready (rs := [7]) (by kernel_rfl) (by simp) ?_
                  refine AllReadyH.cons rfl (fun K hK => ?_) AllReadyH.nil
                  go_simp
                  refine hK.out _ _ (hbox.out _ (hBx8.out.alloc hs8 _)) (fun hHeld => ?_)
                  clear hK K
                  try simp only [List.getElem_toArray, List.getElem_cons_succ, List.getElem_cons_zero, Act.put, List.setIfInBounds_toArray, List.set_cons_zero, List.set_cons_succ]
                  refine wpAnyH_ready (rs := [8]) (by kernel_rfl) (by simp) ?_
                  refine AllReadyH.cons rfl (fun K hK => ?_) AllReadyH.nil
                  refine step_append_attrs (by rfl) _ _ (by rfl) wr.heap.size va3 k vc3 (at'.take k) (by rfl) (hB8.out.below ((Below.refl w8.heap.size w8).alloc (Nat.le_refl _) _)) htk.out.symm _ 1 1 [⟨name, v⟩] (by rfl) (row_lit (d := ⟨name, v⟩) (Own.new w8 _ _)) (by omega) (by simp; omega) ?_
                  intro va4 vc4 w9 hB9 hn9 hb9 hg9
                  have hBx9 := Lib.hid ((hBx8.out.alloc hs8 (.cells #[.string name, .int .i64 v.kind, .int .i64 v.num, .string v.text, .slice v.ptr v.len v.cap] 79)).trans hb9)
                  replace hB9 := Lib.hid hB9
                  clear hn9 hb9 hg9
                  refine hK.out _ _ (hbox.out _ hBx9.out) (fun hHeld => ?_)
                  clear hK K
                  try simp only [List.getElem_toArray, List.getElem_cons_succ, List.getElem_cons_zero, Act.put, List.setIfInBounds_toArray, List.set_cons_zero, List.set_cons_succ]
                  refine wpAnyH_take (i := 9) (oi := ?oi23) (v := ?v23) ?ho23 (by kernel_rfl) (by kernel_rfl) (by kernel_rfl) ?hp23 (Or.inl ⟨?hw23, ?hy23⟩) (by assumption) ?rest23
                  case ho23 => simp only [List.getElem?_toArray, List.getElem?_cons_succ, List.getElem?_cons_zero]; rfl
                  case hp23 => exact fun _ _ _ h => h
                  case hw23 => rfl
                  case hy23 =>
                    intro W hSw
                    go_simp
                    try exact rfl
                  simp only [Act.put, List.setIfInBounds_toArray, List.set_cons_zero, List.set_cons_succ]
                  refine wpAnyH_done (by kernel_rfl) ?_ _
                  go_wp2
                  go_meet
                  exact ⟨va4, vc4, rfl, hB9, hBx9⟩
                · go_simp
                  refine hK.out _ _ (hbox.out _ (hbd.out.alloc hsd _)) (fun hHeld => ?_)
                  clear hK K
                  try simp only [List.getElem_toArray, List.getElem_cons_succ, List.getElem_cons_zero, Act.put, List.setIfInBounds_toArray, List.set_cons_zero, List.set_cons_succ]
                  refine wpAnyH_ready (rs := [3]) (by kernel_rfl) (by simp) ?_
                  refine AllReadyH.cons rfl (fun K hK => ?_) AllReadyH.nil
                  refine step_append_attrs (by rfl) _ _ (by rfl) wr.heap.size _ 0 _ [] (by rfl) (hB0.out _) (by rfl) _ k _ (at'.take k) (by rfl) (hpd.out.mono (sub_of_below ((Below.refl wd.heap.size wd).alloc (Nat.le_refl _) _))) (by omega) (by simp; omega) ?_
                  intro va3 vc3 w8 hB8 hn8 hb8 hg8
                  rw [Nat.zero_add, List.nil_append] at hB8
                  rw [Nat.zero_add]
                  have hBx8 := Lib.hid ((hbd.out.alloc hsd (.cells #[.string name, .int .i64 v.kind, .int .i64 v.num, .string v.text, .slice v.ptr v.len v.cap] 79)).trans hb8)
                  have hs8 := hBx8.out.size
                  replace hB8 := Lib.hid hB8
                  replace hg8 := Lib.hid hg8
                  clear hn8 hb8
                  refine hK.out _ _ (hbox.out _ hBx8.out) (fun hHeld => ?_)
                  clear hK K
                  try simp only [List.getElem_toArray, List.getElem_cons_succ, List.getElem_cons_zero, Act.put, List.setIfInBounds_toArray, List.set_cons_zero, List.set_cons_succ]
                  refine wpAnyH_ready (rs := [8]) (by kernel_rfl) (by simp) ?_
                  refine AllReadyH.cons rfl (fun K hK => ?_) AllReadyH.nil
                  refine step_append_attrs (by rfl) _ _ (by rfl) wr.heap.size va3 k vc3 (at'.take k) (by rfl) hB8.out htk.out.symm _ 1 1 [⟨name, v⟩] (by rfl) (row_lit (d := ⟨name, v⟩) ((Own.new wd _ _).kept hg8.out (by simp [Value.ownBlock]))) (by omega) hs8 ?_
                  intro va4 vc4 w9 hB9 hn9 hb9 hg9
                  have hBx9 := Lib.hid (hBx8.out.trans hb9)
                  replace hB9 := Lib.hid hB9
                  clear hn9 hb9 hg9
                  refine hK.out _ _ (hbox.out _ hBx9.out) (fun hHeld => ?_)
                  clear hK K
                  try simp only [List.getElem_toArray, List.getElem_cons_succ, List.getElem_cons_zero, Act.put, List.setIfInBounds_toArray, List.set_cons_zero, List.set_cons_succ]
                  refine wpAnyH_take (i := 9) (oi := ?oi24) (v := ?v24) ?ho24 (by kernel_rfl) (by kernel_rfl) (by kernel_rfl) ?hp24 (Or.inl ⟨?hw24, ?hy24⟩) (by assumption) ?rest24
                  case ho24 => simp only [List.getElem?_toArray, List.getElem?_cons_succ, List.getElem?_cons_zero]; rfl
                  case hp24 => exact fun _ _ _ h => h
                  case hw24 => rfl
                  case hy24 =>
                    intro W hSw
                    go_simp
                    try exact rfl
                  simp only [Act.put, List.setIfInBounds_toArray, List.set_cons_zero, List.set_cons_succ]
                  refine wpAnyH_done (by kernel_rfl) ?_ _
                  go_wp2
                  go_meet
                  exact ⟨va4, vc4, rfl, hB9, hBx9⟩
              case rest =>
                obtain ⟨va, vc, rfl, hA, hbc⟩ := hcut
                have hrc := Lib.hid (hrest.out.mono (sub_of_below hbc.out))
                have hrn := (rows_len hrest.out).1
                rw [List.length_map, List.length_drop] at hrn
                have hrn' := Lib.hid hrn
                have hn20 : k + 1 + rn ≤ 1099511627776 := by omega
                have hszc := hbc.out.size
                have hBg := hKq0.Bg
                have hAn : k + 1 = (at'.take k ++ [(⟨name, v⟩ : AD)]).length := by rw [List.length_append, htk.out]; rfl
                have hL2 : (at'.take k ++ [(⟨name, v⟩ : AD)]) ++ at'.drop q = insA ⟨name, v⟩ at' := by rw [hins2.out, List.append_assoc]; rfl
                have hlenI : k + 1 + rn = (insA ⟨name, v⟩ (l[i]'hlt).attrs).length := by
                  rw [← (insA_alike (a' := ⟨name, v⟩) (a := ⟨name, v⟩) ⟨rfl, rfl, rfl, rfl, rfl⟩ hsk.out.2.2).1]
                  rw [hins2.out, List.length_append, htk.out, List.length_cons, List.length_drop, hrn'.out]
                  omega
                have hmem : ∀ a ∈ insA (⟨name, v⟩ : AD) at', a ∈ at' ∨ a.val = v := by
                  intro a ha
                  rw [hins2.out] at ha
                  rcases List.mem_append.1 ha with ha | ha
                  · exact Or.inl (List.mem_of_mem_take ha)
                  · rcases List.mem_cons.1 ha with rfl | ha
                    · exact Or.inr rfl
                    · exact Or.inl (List.mem_of_mem_drop ha)
                replace hAn := Lib.hid hAn
                replace hL2 := Lib.hid hL2
                replace hlenI := Lib.hid hlenI
                replace hmem := Lib.hid hmem
                replace hbc := Lib.hid hbc.out
                clear hrn hpre htk hbox hB0 hrest hins2 hRq c0 c2 cf z0 y0
                obtain ⟨N, hN⟩ : ∃ N, Hid (N = k + 1 + rn) := ⟨_, Lib.hid rfl⟩
                replace hlenI := Lib.hid (hN.out.trans hlenI.out)
                have hlw := hKq0.low
                have q3 : ¬ g = w.heap.size + 1 + 1 := by omega
                have q4 : ¬ w.heap.size + 1 + 1 = g := by omega
                by_cases h20 : 20 < N
                case pos =>
                  have h20' := Lib.hid (show 20 < (insA ⟨name, v⟩ (l[i]'hlt).attrs).length by rw [← hlenI.out]; exact h20)
                  have h20i : (20 : Int) < (N : Int) := by omega
                  go_wp2_with (at_builtin; refine wpList_append_attrs rfl _ _ rfl wr.heap.size va (k + 1) vc (at'.take k ++ [⟨name, v⟩]) rfl hA.out hAn.out _ _ _ (at'.drop q) rfl hrc.out hn20 hszc ?_; intro xa xc w9 hX hXn hb9 hg9; rw [hL2.out] at hX; have hK9 := Lib.hid (hKq0.call (hbc.out.trans hb9)); obtain ⟨-, d2, df⟩ := hK9.out.cells hck.out; simp only at d2; have hK10 := Lib.hid (hK9.out.put hck.out hX (show g < wr.heap.size by omega) hmem.out hv.out); have zz := hK9.out.x.z.cell 0; have yy := hK9.out.x.z.free 0; have zl := hK9.out.x.low'; simp only [List.getElem?_toArray, List.getElem?_cons_zero] at zz; clear hb9 hg9 hX hXn; rw [← hN.out] at hK10 ⊢)
                  have hr := hK10.out.x.res (.slice none 0 0)
                  go_wp2
                  refine bodyPost_ret (v := .tuple #[.agg #[.slice none 0 0], .int .i64 5]) (by simp [results, Tryz.results35, go_sem, hr]) rfl ?_
                  exact ⟨with_err (withS_many hc.out hfi.out hbd.out hcv.out h20'.out), hK10.out.x.low.setCell (by simp; omega) _⟩
                have h20i : ¬ (20 : Int) < (N : Int) := by omega
                have hm := Lib.hid (mixC_hit ⟨name, v⟩ hlt (by rw [← hsk.out.1]; exact hne))
                have hf2 := Lib.hid (fun (j : Nat) (hj : j < l.length) (h : j < i + 1) (hk : (l[j].kind.toList == kind.toList) = true) => show (insA ⟨name, v⟩ l[j].attrs).length ≤ 20 from by
                  rcases Nat.lt_or_ge j i with h1 | h1
                  · exact hfew.out j hj h1 hk
                  · obtain rfl : j = i := by omega
                    rw [← hlenI.out]
                    omega)
                go_wp2_with (at_builtin; refine wpList_append_attrs rfl _ _ rfl wr.heap.size va (k + 1) vc (at'.take k ++ [⟨name, v⟩]) rfl hA.out hAn.out _ _ _ (at'.drop q) rfl hrc.out hn20 hszc ?_; intro xa xc w9 hX hXn hb9 hg9; rw [hL2.out] at hX; have hK9 := Lib.hid (hKq0.call (hbc.out.trans hb9)); obtain ⟨-, d2, df⟩ := hK9.out.cells hck.out; simp only at d2; have hK10 := Lib.hid (hK9.out.put hck.out hX (show g < wr.heap.size by omega) hmem.out hv.out); have zz := hK9.out.x.z.cell 0; have yy := hK9.out.x.z.free 0; have zl := hK9.out.x.low'; simp only [List.getElem?_toArray, List.getElem?_cons_zero] at zz; clear hb9 hg9 hX hXn; rw [← hN.out] at hK10 ⊢)
                have hal2 := Lib.hid (show Alike SameC (L.set i ⟨kd, ky, xa, N, xc, insA ⟨name, v⟩ at'⟩) (mixC kind.toList ⟨name, v⟩ l (i + 1)) by
                  rw [hm.out]
                  exact Alike.set' (R := SameC) hal.out (a' := ⟨kd, ky, xa, N, xc, insA ⟨name, v⟩ at'⟩) (a := ⟨l[i].kind, l[i].key, l[i].ptr, l[i].len, l[i].cap, insA ⟨name, v⟩ l[i].attrs⟩) ⟨hsk.out.1, hsk.out.2.1, insA_alike ⟨rfl, rfl, rfl, rfl, rfl⟩ hsk.out.2.2⟩ i)
                go_wp2
                go_roundw
                case rel => exact ⟨i + 1, _, by omega, by go_num, hK10, hal2, hf2⟩
                case measure => simp [intOf]; omega
            case inr.inl =>
              have hpos := Lib.hid (posA_of (x := name.data.toList) hk hbef.out (fun h => absurd h hka))
              have hins := Lib.hid (insA_new (a := ⟨name, v⟩) (l := at') (by rw [← hpos.out]; exact hasAt_out hka))
              have hrest := Lib.hid (show RowsAt wr.cell? 5 (.slice (Option.map (fun x => x.add (k * 5)) p) (at'.length - k) (m' - k)) ((at'.map AD.row).drop k) from by
                rw [show at'.length - k = 0 by omega]
                exact rows_end (by rw [List.length_map]; omega) (by omega))
              replace hRq := Lib.hid hRq
              go_upto_region 24 with fail
              rw [← List.map_drop] at hrest
              generalize Option.map (fun x => x.add (k * 5)) p = ra at hrest ⊢
              generalize at'.length - k = rn at hrest ⊢
              generalize m' - k = rc at hrest ⊢
              obtain ⟨q, hq⟩ : ∃ q : Nat, Hid (q = k) := ⟨_, Lib.hid rfl⟩
              rw [← hq.out] at hrest
              have hins2 := Lib.hid (show insA ⟨name, v⟩ at' = at'.take k ++ ⟨name, v⟩ :: at'.drop q by rw [hq.out, hins.out]; simp only [← hpos.out])
              clear hka hkc hpos hins
              have hpre := rows_take hRq.out (k := k) (by rw [List.length_map]; exact hk)
              rw [← List.map_take] at hpre
              have htk : (at'.take k).length = k := by rw [List.length_take]; omega
              have vx := hKq0.x.v
              obtain ⟨v0, v1, v2, v3, -, -, -, -⟩ := own4z vx
              have hvl := vx.lt
              replace hpre := Lib.hid hpre
              replace htk := Lib.hid htk
              have hbox : Hid (∀ W : World, Below wr.heap.size wr W → VC w.heap.size v W) := Lib.hid fun W hb => ⟨(hb.cell (by simpa using hvl)).trans v0, (hb.cell (by simpa using hvl)).trans v1, (hb.cell (by simpa using hvl)).trans v2, (hb.cell (by simpa using hvl)).trans v3⟩
              have hB0 : Hid (∀ u : World, AS wr.heap.size (.slice none 0 0) [] u) := Lib.hid (fun u => as_nil wr.heap.size u)
              clear v0 v1 v2 v3 vx hvl
              go_cut [16] (fun s16 wy => ∃ (va : Option Addr) (vc : Nat), s16 = .slice va (k + 1) vc ∧ Hid (AS wr.heap.size s16 (at'.take k ++ [⟨name, v⟩]) wy) ∧ Hid (Below wr.heap.size wr wy))
              case first =>
                obtain ⟨wd, hwd⟩ : ∃ wd, wr.drew = wd := ⟨_, rfl⟩
                have hbd : Below wr.heap.size wr wd := by rw [← hwd]; exact (Below.refl wr.heap.size wr).grown (grown_drew wr none) (Nat.le_refl _) (fun k e => by cases e)
                have hsd : wr.heap.size ≤ wd.heap.size := hbd.size
                have hpd := Lib.hid (hpre.out.mono (sub_of_below hbd))
                have hbx := hbox.out wd hbd
                replace hbd := Lib.hid hbd
                refine wp_region_held_drew (S := VC w.heap.size v) (by kernel_rfl) (by rw [hwd]; exact hbx) (fun hHeld => ?_)
                rw [hwd]
                clear hwd
                refine wpAnyH_take (i := 0) (oi := ?oi25) (v := ?v25) ?ho25 (by kernel_rfl) (by kernel_rfl) (by kernel_rfl) ?hp25 (Or.inl ⟨?hw25, ?hy25⟩) (by assumption) ?rest25
                case ho25 => simp only [List.getElem?_toArray, List.getElem?_cons_zero]; rfl
                case hp25 => exact fun _ _ _ h => h
                case hw25 => rfl
                case hy25 =>
                  intro W hSw
                  go_simp
                  try exact rfl
                simp only [Act.put, List.setIfInBounds_toArray, List.set_cons_zero, List.set_cons_succ]
                refine wpAnyH_take (i := 1) (oi := ?oi26) (v := ?v26) ?ho26 (by kernel_rfl) (by kernel_rfl) (by kernel_rfl) ?hp26 (Or.inl ⟨?hw26, ?hy26⟩) (by assumption) ?rest26
                case ho26 => simp only [List.getElem?_toArray, List.getElem?_cons_succ, List.getElem?_cons_zero]; rfl
                case hp26 => exact fun _ _ _ h => h
                case hw26 => rfl
                case hy26 =>
                  intro W hSw
                  go_simp
                  try exact rfl
                simp only [Act.put, List.setIfInBounds_toArray, List.set_cons_zero, List.set_cons_succ]
                refine wpAnyH_take (i := 2) (oi := ?oi27) (v := ?v27) ?ho27 (by kernel_rfl) (by kernel_rfl) (by kernel_rfl) ?hp27 (Or.inl ⟨?hw27, ?hy27⟩) (by assumption) ?rest27
                case ho27 => simp only [List.getElem?_toArray, List.getElem?_cons_succ, List.getElem?_cons_zero]; rfl
                case hp27 => exact fun _ _ _ h => h
                case hw27 => rfl
                case hy27 =>
                  intro W hSw
                  go_simp
                  try exact rfl
                simp only [Act.put, List.setIfInBounds_toArray, List.set_cons_zero, List.set_cons_succ]
                refine wpAnyH_take (i := 4) (oi := ?oi28) (v := ?v28) ?ho28 (by kernel_rfl) (by kernel_rfl) (by kernel_rfl) ?hp28 (Or.inl ⟨?hw28, ?hy28⟩) (by assumption) ?rest28
                case ho28 => simp only [List.getElem?_toArray, List.getElem?_cons_succ, List.getElem?_cons_zero]; rfl
                case hp28 => exact fun _ _ _ h => h
                case hw28 => rfl
                case hy28 =>
                  intro W hSw
                  go_simp
                  try exact rfl
                simp only [Act.put, List.setIfInBounds_toArray, List.set_cons_zero, List.set_cons_succ]
                refine wpAnyH_take (i := 5) (oi := ?oi29) (v := ?v29) ?ho29 (by kernel_rfl) (by kernel_rfl) (by kernel_rfl) ?hp29 (Or.inl ⟨?hw29, ?hy29⟩) (by assumption) ?rest29
                case ho29 => simp only [List.getElem?_toArray, List.getElem?_cons_succ, List.getElem?_cons_zero]; rfl
                case hp29 => exact fun _ _ _ h => h
                case hw29 => rfl
                case hy29 =>
                  intro W hSw
                  obtain ⟨v0, v1, v2, v3⟩ := hSw
                  go_simp
                  try exact rfl
                simp only [Act.put, List.setIfInBounds_toArray, List.set_cons_zero, List.set_cons_succ]
                refine wpAnyH_take (i := 6) (oi := ?oi30) (v := ?v30) ?ho30 (by kernel_rfl) (by kernel_rfl) (by kernel_rfl) ?hp30 (Or.inl ⟨?hw30, ?hy30⟩) (by assumption) ?rest30
                case ho30 => simp only [List.getElem?_toArray, List.getElem?_cons_succ, List.getElem?_cons_zero]; rfl
                case hp30 => exact fun _ _ _ h => h
                case hw30 => rfl
                case hy30 =>
                  intro W hSw
                  go_simp
                  try exact rfl
                simp only [Act.put, List.setIfInBounds_toArray, List.set_cons_zero, List.set_cons_succ]
                refine wpAnyH_ready (rs := [3, 7]) (by kernel_rfl) (by simp) ?_
                refine AllReadyH.cons rfl (fun K hK => ?_) (AllReadyH.cons rfl (fun K hK => ?_) AllReadyH.nil)
                · refine step_append_attrs (by rfl) _ _ (by rfl) wr.heap.size _ 0 _ [] (by rfl) (hB0.out _) (by rfl) _ k _ (at'.take k) (by rfl) hpd.out (by omega) hsd ?_
                  intro va3 vc3 w8 hB8 hn8 hb8 hg8
                  rw [Nat.zero_add, List.nil_append] at hB8
                  rw [Nat.zero_add]
                  have hBx8 := Lib.hid (hbd.out.trans hb8)
                  have hs8 := hBx8.out.size
                  replace hB8 := Lib.hid hB8
                  replace hg8 := Lib.hid hg8
                  clear hn8 hb8
                  refine hK.out _ _ (hbox.out _ hBx8.out) (fun hHeld => ?_)
                  clear hK K
                  try simp only [List.getElem_toArray, List.getElem_cons_succ, List.getElem_cons_zero, Act.put, List.setIfInBounds_toArray, List.set_cons_zero, List.set_cons_succ]
                  refine wpAnyH_ready (rs := [7]) (by kernel_rfl) (by simp) ?_
                  refine AllReadyH.cons rfl (fun K hK => ?_) AllReadyH.nil
                  go_simp
                  refine hK.out _ _ (hbox.out _ (hBx8.out.alloc hs8 _)) (fun hHeld => ?_)
                  clear hK K
                  try simp only [List.getElem_toArray, List.getElem_cons_succ, List.getElem_cons_zero, Act.put, List.setIfInBounds_toArray, List.set_cons_zero, List.set_cons_succ]
                  refine wpAnyH_ready (rs := [8]) (by kernel_rfl) (by simp) ?_
                  refine AllReadyH.cons rfl (fun K hK => ?_) AllReadyH.nil
                  refine step_append_attrs (by rfl) _ _ (by rfl) wr.heap.size va3 k vc3 (at'.take k) (by rfl) (hB8.out.below ((Below.refl w8.heap.size w8).alloc (Nat.le_refl _) _)) htk.out.symm _ 1 1 [⟨name, v⟩] (by rfl) (row_lit (d := ⟨name, v⟩) (Own.new w8 _ _)) (by omega) (by simp; omega) ?_
                  intro va4 vc4 w9 hB9 hn9 hb9 hg9
                  have hBx9 := Lib.hid ((hBx8.out.alloc hs8 (.cells #[.string name, .int .i64 v.kind, .int .i64 v.num, .string v.text, .slice v.ptr v.len v.cap] 79)).trans hb9)
                  replace hB9 := Lib.hid hB9
                  clear hn9 hb9 hg9
                  refine hK.out _ _ (hbox.out _ hBx9.out) (fun hHeld => ?_)
                  clear hK K
                  try simp only [List.getElem_toArray, List.getElem_cons_succ, List.getElem_cons_zero, Act.put, List.setIfInBounds_toArray, List.set_cons_zero, List.set_cons_succ]
                  refine wpAnyH_take (i := 9) (oi := ?oi31) (v := ?v31) ?ho31 (by kernel_rfl) (by kernel_rfl) (by kernel_rfl) ?hp31 (Or.inl ⟨?hw31, ?hy31⟩) (by assumption) ?rest31
                  case ho31 => simp only [List.getElem?_toArray, List.getElem?_cons_succ, List.getElem?_cons_zero]; rfl
                  case hp31 => exact fun _ _ _ h => h
                  case hw31 => rfl
                  case hy31 =>
                    intro W hSw
                    go_simp
                    try exact rfl
                  simp only [Act.put, List.setIfInBounds_toArray, List.set_cons_zero, List.set_cons_succ]
                  refine wpAnyH_done (by kernel_rfl) ?_ _
                  go_wp2
                  go_meet
                  exact ⟨va4, vc4, rfl, hB9, hBx9⟩
                · go_simp
                  refine hK.out _ _ (hbox.out _ (hbd.out.alloc hsd _)) (fun hHeld => ?_)
                  clear hK K
                  try simp only [List.getElem_toArray, List.getElem_cons_succ, List.getElem_cons_zero, Act.put, List.setIfInBounds_toArray, List.set_cons_zero, List.set_cons_succ]
                  refine wpAnyH_ready (rs := [3]) (by kernel_rfl) (by simp) ?_
                  refine AllReadyH.cons rfl (fun K hK => ?_) AllReadyH.nil
                  refine step_append_attrs (by rfl) _ _ (by rfl) wr.heap.size _ 0 _ [] (by rfl) (hB0.out _) (by rfl) _ k _ (at'.take k) (by rfl) (hpd.out.mono (sub_of_below ((Below.refl wd.heap.size wd).alloc (Nat.le_refl _) _))) (by omega) (by simp; omega) ?_
                  intro va3 vc3 w8 hB8 hn8 hb8 hg8
                  rw [Nat.zero_add, List.nil_append] at hB8
                  rw [Nat.zero_add]
                  have hBx8 := Lib.hid ((hbd.out.alloc hsd (.cells #[.string name, .int .i64 v.kind, .int .i64 v.num, .string v.text, .slice v.ptr v.len v.cap] 79)).trans hb8)
                  have hs8 := hBx8.out.size
                  replace hB8 := Lib.hid hB8
                  replace hg8 := Lib.hid hg8
                  clear hn8 hb8
                  refine hK.out _ _ (hbox.out _ hBx8.out) (fun hHeld => ?_)
                  clear hK K
                  try simp only [List.getElem_toArray, List.getElem_cons_succ, List.getElem_cons_zero, Act.put, List.setIfInBounds_toArray, List.set_cons_zero, List.set_cons_succ]
                  refine wpAnyH_ready (rs := [8]) (by kernel_rfl) (by simp) ?_
                  refine AllReadyH.cons rfl (fun K hK => ?_) AllReadyH.nil
                  refine step_append_attrs (by rfl) _ _ (by rfl) wr.heap.size va3 k vc3 (at'.take k) (by rfl) hB8.out htk.out.symm _ 1 1 [⟨name, v⟩] (by rfl) (row_lit (d := ⟨name, v⟩) ((Own.new wd _ _).kept hg8.out (by simp [Value.ownBlock]))) (by omega) hs8 ?_
                  intro va4 vc4 w9 hB9 hn9 hb9 hg9
                  have hBx9 := Lib.hid (hBx8.out.trans hb9)
                  replace hB9 := Lib.hid hB9
                  clear hn9 hb9 hg9
                  refine hK.out _ _ (hbox.out _ hBx9.out) (fun hHeld => ?_)
                  clear hK K
                  try simp only [List.getElem_toArray, List.getElem_cons_succ, List.getElem_cons_zero, Act.put, List.setIfInBounds_toArray, List.set_cons_zero, List.set_cons_succ]
                  refine wpAnyH_take (i := 9) (oi := ?oi32) (v := ?v32) ?ho32 (by kernel_rfl) (by kernel_rfl) (by kernel_rfl) ?hp32 (Or.inl ⟨?hw32, ?hy32⟩) (by assumption) ?rest32
                  case ho32 => simp only [List.getElem?_toArray, List.getElem?_cons_succ, List.getElem?_cons_zero]; rfl
                  case hp32 => exact fun _ _ _ h => h
                  case hw32 => rfl
                  case hy32 =>
                    intro W hSw
                    go_simp
                    try exact rfl
                  simp only [Act.put, List.setIfInBounds_toArray, List.set_cons_zero, List.set_cons_succ]
                  refine wpAnyH_done (by kernel_rfl) ?_ _
                  go_wp2
                  go_meet
                  exact ⟨va4, vc4, rfl, hB9, hBx9⟩
              case rest =>
                obtain ⟨va, vc, rfl, hA, hbc⟩ := hcut
                have hrc := Lib.hid (hrest.out.mono (sub_of_below hbc.out))
                have hrn := (rows_len hrest.out).1
                rw [List.length_map, List.length_drop] at hrn
                have hrn' := Lib.hid hrn
                have hn20 : k + 1 + rn ≤ 1099511627776 := by omega
                have hszc := hbc.out.size
                have hBg := hKq0.Bg
                have hAn : k + 1 = (at'.take k ++ [(⟨name, v⟩ : AD)]).length := by rw [List.length_append, htk.out]; rfl
                have hL2 : (at'.take k ++ [(⟨name, v⟩ : AD)]) ++ at'.drop q = insA ⟨name, v⟩ at' := by rw [hins2.out, List.append_assoc]; rfl
                have hlenI : k + 1 + rn = (insA ⟨name, v⟩ (l[i]'hlt).attrs).length := by
                  rw [← (insA_alike (a' := ⟨name, v⟩) (a := ⟨name, v⟩) ⟨rfl, rfl, rfl, rfl, rfl⟩ hsk.out.2.2).1]
                  rw [hins2.out, List.length_append, htk.out, List.length_cons, List.length_drop, hrn'.out]
                  omega
                have hmem : ∀ a ∈ insA (⟨name, v⟩ : AD) at', a ∈ at' ∨ a.val = v := by
                  intro a ha
                  rw [hins2.out] at ha
                  rcases List.mem_append.1 ha with ha | ha
                  · exact Or.inl (List.mem_of_mem_take ha)
                  · rcases List.mem_cons.1 ha with rfl | ha
                    · exact Or.inr rfl
                    · exact Or.inl (List.mem_of_mem_drop ha)
                replace hAn := Lib.hid hAn
                replace hL2 := Lib.hid hL2
                replace hlenI := Lib.hid hlenI
                replace hmem := Lib.hid hmem
                replace hbc := Lib.hid hbc.out
                clear hrn hpre htk hbox hB0 hrest hins2 hRq c0 c2 cf z0 y0
                obtain ⟨N, hN⟩ : ∃ N, Hid (N = k + 1 + rn) := ⟨_, Lib.hid rfl⟩
                replace hlenI := Lib.hid (hN.out.trans hlenI.out)
                have hlw := hKq0.low
                have q3 : ¬ g = w.heap.size + 1 + 1 := by omega
                have q4 : ¬ w.heap.size + 1 + 1 = g := by omega
                by_cases h20 : 20 < N
                case pos =>
                  have h20' := Lib.hid (show 20 < (insA ⟨name, v⟩ (l[i]'hlt).attrs).length by rw [← hlenI.out]; exact h20)
                  have h20i : (20 : Int) < (N : Int) := by omega
                  go_wp2_with (at_builtin; refine wpList_append_attrs rfl _ _ rfl wr.heap.size va (k + 1) vc (at'.take k ++ [⟨name, v⟩]) rfl hA.out hAn.out _ _ _ (at'.drop q) rfl hrc.out hn20 hszc ?_; intro xa xc w9 hX hXn hb9 hg9; rw [hL2.out] at hX; have hK9 := Lib.hid (hKq0.call (hbc.out.trans hb9)); obtain ⟨-, d2, df⟩ := hK9.out.cells hck.out; simp only at d2; have hK10 := Lib.hid (hK9.out.put hck.out hX (show g < wr.heap.size by omega) hmem.out hv.out); have zz := hK9.out.x.z.cell 0; have yy := hK9.out.x.z.free 0; have zl := hK9.out.x.low'; simp only [List.getElem?_toArray, List.getElem?_cons_zero] at zz; clear hb9 hg9 hX hXn; rw [← hN.out] at hK10 ⊢)
                  have hr := hK10.out.x.res (.slice none 0 0)
                  go_wp2
                  refine bodyPost_ret (v := .tuple #[.agg #[.slice none 0 0], .int .i64 5]) (by simp [results, Tryz.results35, go_sem, hr]) rfl ?_
                  exact ⟨with_err (withS_many hc.out hfi.out hbd.out hcv.out h20'.out), hK10.out.x.low.setCell (by simp; omega) _⟩
                have h20i : ¬ (20 : Int) < (N : Int) := by omega
                have hm := Lib.hid (mixC_hit ⟨name, v⟩ hlt (by rw [← hsk.out.1]; exact hne))
                have hf2 := Lib.hid (fun (j : Nat) (hj : j < l.length) (h : j < i + 1) (hk : (l[j].kind.toList == kind.toList) = true) => show (insA ⟨name, v⟩ l[j].attrs).length ≤ 20 from by
                  rcases Nat.lt_or_ge j i with h1 | h1
                  · exact hfew.out j hj h1 hk
                  · obtain rfl : j = i := by omega
                    rw [← hlenI.out]
                    omega)
                go_wp2_with (at_builtin; refine wpList_append_attrs rfl _ _ rfl wr.heap.size va (k + 1) vc (at'.take k ++ [⟨name, v⟩]) rfl hA.out hAn.out _ _ _ (at'.drop q) rfl hrc.out hn20 hszc ?_; intro xa xc w9 hX hXn hb9 hg9; rw [hL2.out] at hX; have hK9 := Lib.hid (hKq0.call (hbc.out.trans hb9)); obtain ⟨-, d2, df⟩ := hK9.out.cells hck.out; simp only at d2; have hK10 := Lib.hid (hK9.out.put hck.out hX (show g < wr.heap.size by omega) hmem.out hv.out); have zz := hK9.out.x.z.cell 0; have yy := hK9.out.x.z.free 0; have zl := hK9.out.x.low'; simp only [List.getElem?_toArray, List.getElem?_cons_zero] at zz; clear hb9 hg9 hX hXn; rw [← hN.out] at hK10 ⊢)
                have hal2 := Lib.hid (show Alike SameC (L.set i ⟨kd, ky, xa, N, xc, insA ⟨name, v⟩ at'⟩) (mixC kind.toList ⟨name, v⟩ l (i + 1)) by
                  rw [hm.out]
                  exact Alike.set' (R := SameC) hal.out (a' := ⟨kd, ky, xa, N, xc, insA ⟨name, v⟩ at'⟩) (a := ⟨l[i].kind, l[i].key, l[i].ptr, l[i].len, l[i].cap, insA ⟨name, v⟩ l[i].attrs⟩) ⟨hsk.out.1, hsk.out.2.1, insA_alike ⟨rfl, rfl, rfl, rfl, rfl⟩ hsk.out.2.2⟩ i)
                go_wp2
                go_roundw
                case rel => exact ⟨i + 1, _, by omega, by go_num, hK10, hal2, hf2⟩
                case measure => simp [intOf]; omega

end Go.Proofs.YtamkmdlfhlbbeaaGreatDoor.subj

