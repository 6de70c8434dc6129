/- The program's Join. -/
import Derived.Test.YtkglejfkfeahcaaGreatDoorKJ21
import Derived.Test.YtkglejfkfeahcaaGreatDoorKJ22
import Derived.Deep.RegionHeld
namespace Go.Proofs.YtkglejfkfeahcaaGreatDoor.subj
open Go.RowKit Go.Sort Go.Deep Go.Proofs.YtkglejfkfeahcaaGreatDoor Go.Proofs.YtkglejfkfeahcaaGreatDoor.schema Go.Proofs.YtkglejfkfeahcaaGreatDoor.value Go.Proofs.YtkglejfkfeahcaaGreatDoor.text Go.Proofs.YtkglejfkfeahcaaGreatDoor.clause Go.Proofs.YtkglejfkfeahcaaGreatDoor.draw

set_option maxRecDepth 100000 in
set_option maxHeartbeats 8000000 in
theorem join_any (la lb : List CT) (pa pb : Option Addr) (na ca nb cb : Nat) (w : World) (ha : SAt w.cell? (.slice pa na ca) la) (hb : SAt w.cell? (.slice pb nb cb) lb) (hT : STabs w) :
    Calls Tryz.prog 9 #[.agg #[.slice pa na ca], .agg #[.slice pb nb cb]] w fun e w' => JoinIs la lb e w' ∧ Below w.heap.size w w' := by
  have hW := Lib.hid (JX.start w pa na ca pb nb cb)
  have hA := Lib.hid ha
  have hL := Lib.hid hb
  have hT0 := Lib.hid hT
  clear ha hb hT
  go_enter Tryz.func9, Tryz.ntmps9
  go_wp2_with fail
  generalize ((w.alloc (.cells #[.slice pa na ca] 25)).alloc (.cells #[.slice pb nb cb] 25)).alloc (.cells #[.slice none 0 0] 25) = w0 at hW ⊢
  refine (scheck_any la pa na ca _ (hA.out.mono (sub_of_below hW.out.low)) (hT0.out.below hW.out.low)).mono ?_
  rintro e w1 ⟨rfl, hb⟩
  have hW1 := Lib.hid (hW.out.call hb)
  clear hb hW
  have b0 := hW1.out.b.cell 0
  have z0 := hW1.out.z.cell 0
  have y0 := hW1.out.z.free 0
  simp only [List.getElem?_toArray, List.getElem?_cons_zero] at b0 z0
  have hlz := hW1.out.low'
  by_cases hca : subS la = 0
  case neg =>
    have hcz := Lib.hid hca
    have hr := hW1.out.res (.slice none 0 0)
    go_wp2
    refine bodyPost_ret (v := .tuple #[.agg #[.slice none 0 0], .int .i64 (subS la)]) (by simp [results, Tryz.results9, go_sem, hr]) rfl ?_
    exact ⟨join_err (joinE_a hcz.out) hcz.out, hW1.out.low.setCell (by simp; omega) _⟩
  rw [hca]
  replace hca := Lib.hid hca
  go_wp2_with fail
  refine (scheck_any lb pb nb cb _ (hL.out.mono (sub_of_below hW1.out.low)) (hT0.out.below hW1.out.low)).mono ?_
  rintro e w2 ⟨rfl, hb⟩
  have hW2 := Lib.hid (hW1.out.call hb)
  clear hb hW1 b0 z0 y0 hlz
  have b0 := hW2.out.b.cell 0
  have z0 := hW2.out.z.cell 0
  have y0 := hW2.out.z.free 0
  simp only [List.getElem?_toArray, List.getElem?_cons_zero] at b0 z0
  have hlz := hW2.out.low'
  by_cases hcb : subS lb = 0
  case neg =>
    have hcz := Lib.hid hcb
    have hr := hW2.out.res (.slice none 0 0)
    go_wp2
    refine bodyPost_ret (v := .tuple #[.agg #[.slice none 0 0], .int .i64 (subS lb)]) (by simp [results, Tryz.results9, go_sem, hr]) rfl ?_
    exact ⟨join_err (joinE_b hca.out hcz.out) hcz.out, hW2.out.low.setCell (by simp; omega) _⟩
  rw [hcb]
  replace hcb := Lib.hid hcb
  have hla : la.length ≤ 4 := (subS_asc hca.out).2.2
  have hlb : lb.length ≤ 4 := (subS_asc hcb.out).2.2
  have hna : na = la.length := by have := (len_of hA.out.rows).1; simpa using this
  have hnb : nb = lb.length := by have := (len_of hL.out.rows).1; simpa using this
  subst hna
  subst hnb
  go_wp2
  go_loopw [26] (fun s26 wr => ∃ k : Nat, k ≤ lb.length ∧ s26 = .int .i64 k ∧ Hid (JX w wr pa la.length ca pb lb.length cb) ∧ Hid (∀ (j : Nat) (hj : j < lb.length), j < k → findS lb[j].kind.toList la = none)) (fun s26 _ => lb.length - (intOf s26).toNat)
  case atStart => exact ⟨0, by omega, rfl, hW2, Lib.hid (fun j _ h => by omega)⟩
  case round =>
    clear hW2 b0 z0 y0 hlz
    obtain ⟨k, hk, rfl, hK, hno⟩ := hrel
    have a0 := hK.out.a.cell 0
    have b0 := hK.out.b.cell 0
    have z0 := hK.out.z.cell 0
    have y0 := hK.out.z.free 0
    simp only [List.getElem?_toArray, List.getElem?_cons_zero] at a0 b0 z0
    have hlz := hK.out.low'
    by_cases hlt : k < lb.length
    case neg =>
      have hd := Lib.hid (dup_none (la := la) (lb := lb) fun j hj => hno.out j hj (by omega))
      by_cases hmany : 4 < la.length + lb.length
      case pos =>
        have hm1 : (4 : Int) < (la.length : Int) + (lb.length : Int) := by omega
        have hw1 : IntKind.i64.wrap ((la.length : Int) + (lb.length : Int)) = (la.length : Int) + (lb.length : Int) := by rw [IntKind.wrap_i64]; omega
        have hmz := Lib.hid hmany
        have hr := hK.out.res (.slice none 0 0)
        go_wp2
        refine bodyPost_ret (v := .tuple #[.agg #[.slice none 0 0], .int .i64 5]) (by simp [results, Tryz.results9, go_sem, hr]) rfl ?_
        exact ⟨join_err (joinE_many hca.out hcb.out hd.out hmz.out) (by decide), hK.out.low.setCell (by simp; omega) _⟩
      have hm1 : ¬ (4 : Int) < (la.length : Int) + (lb.length : Int) := by omega
      have hw1 : IntKind.i64.wrap ((la.length : Int) + (lb.length : Int)) = (la.length : Int) + (lb.length : Int) := by rw [IntKind.wrap_i64]; omega
      go_wp2_with fail
      refine (clone_subject2 la.length la pa la.length ca _ (hA.out.mono (sub_of_below hK.out.low)) (by omega) (fun d hd => by have := (attrS_asc ((subS_asc hca.out).2.1 d hd)).2; omega)).mono ?_
      rintro e w5 ⟨⟨B, g, l1, hB, rfl, hal1, hown1, hpar1⟩, hb⟩
      have hK5 := Lib.hid (hK.out.call hb)
      have hB5 : B < w5.heap.size := (hown1.lt B rfl).2
      have hsz5 : wr.heap.size ≤ w5.heap.size := hb.size
      rw [← hal1.1] at hown1 ⊢
      have hown5 := Lib.hid (hown1.alloc (.cells #[.slice (some ⟨B, 0, none⟩) l1.length l1.length] 25))
      have hO5 := Lib.hid (Own.new w5 #[.slice (some ⟨B, 0, none⟩) l1.length l1.length] 25)
      have hb5 : Below w5.heap.size w5 (w5.alloc (.cells #[.slice (some ⟨B, 0, none⟩) l1.length l1.length] 25)) := (Below.refl _ _).alloc (Nat.le_refl _) _
      have hK6 := Lib.hid (hK5.out.call hb5)
      have hc5 := Lib.hid (show ∀ x ∈ l1, CAt (excl [w.heap.size + 1 + 1, w5.heap.size, B] (w5.alloc (.cells #[.slice (some ⟨B, 0, none⟩) l1.length l1.length] 25))) x from fun x hx => by
        obtain ⟨j, hj, rfl⟩ := List.getElem_of_mem hx
        have hjl : j ≠ la.length := by have := hal1.1; omega
        refine (hpar1.others j _ (List.getElem?_eq_getElem hj) hjl).mono ?_
        intro p v hp
        have h1 := newG_in _ _ _ _ _ _ hp
        have hl := World.block_lt_of_cell? w5 p h1
        unfold newG at hp
        split at hp
        · cases hp
        · rename_i hne
          refine excl_mk (fun e => hne ?_) (sub_of_below hb5 _ _ h1)
          simp only [List.mem_cons, List.not_mem_nil, or_false] at e
          rcases e with e | e | e
          · exact Or.inl (by omega)
          · omega
          · exact Or.inr (Or.inr (by rw [e])))
      have hl1 := Lib.hid (show l1.length = la.length from hal1.1)
      replace hal1 := Lib.hid hal1
      have hBz : w.heap.size + 1 + 1 < B := by omega
      have hGo : B < w5.heap.size := hB5
      clear hb hb5 hpar1 hown1 hK5 hK a0 b0 z0 y0 hlz hno hm1 hw1
      go_upto_region 16 with fail
      generalize w5.alloc (.cells #[.slice (some ⟨B, 0, none⟩) l1.length l1.length] 25) = w6 at hown5 hO5 hK6 hc5 ⊢
      obtain ⟨go, hgo⟩ : ∃ g : Nat, g = w5.heap.size := ⟨_, rfl⟩
      rw [← hgo] at hO5 hc5 hGo ⊢
      clear hgo
      go_cut [] (fun wy => ∃ (gr cap : Nat) (l2 : List CT), Hid (Alike SameC l2 lb) ∧ Hid (JX w wy pa la.length ca pb lb.length cb) ∧ Hid (Own wy go #[.slice (some ⟨gr, 0, none⟩) (l1.length + lb.length) cap] 25) ∧ Hid (wy.ownsRow B 41 3 (.slice (some ⟨gr, 0, none⟩) (l1 ++ l2).length cap) (l1 ++ l2).length ((l1 ++ l2).map CT.row).flatten) ∧ Hid (∀ x ∈ l1 ++ l2, CAt (excl [w.heap.size + 1 + 1, go, gr] wy) x) ∧ gr ≠ go)
      case first =>
        have hBx := hK6.out.b
        have b0 := hBx.cell 0
        have hbl := hBx.lt
        have o0 := hO5.out.cell 0
        have hol := hO5.out.lt
        have hzl := hK6.out.low'
        simp only [List.getElem?_toArray, List.getElem?_cons_zero] at b0 o0
        obtain ⟨wd, hwd⟩ : ∃ wd, w6.drew = wd := ⟨_, rfl⟩
        have hbd : Below w6.heap.size w6 wd := by rw [← hwd]; exact (Below.refl w6.heap.size w6).grown (grown_drew w6 none) (Nat.le_refl _) (fun k e => by cases e)
        have hcells : Hid (∀ W : World, Below w6.heap.size w6 W → W.cell? ⟨go, 0, none⟩ = some (.slice (some ⟨B, 0, none⟩) l1.length l1.length) ∧ W.cell? ⟨w.heap.size + 1, 0, none⟩ = some (.slice pb lb.length cb)) := Lib.hid fun W h => ⟨(h.cell (by simpa using hol)).trans o0, (h.cell (by simpa using hbl)).trans b0⟩
        have hSd := Lib.hid (hL.out.mono (sub_of_below (hK6.out.low.trans (hbd.mono hK6.out.low.size))))
        have hdc := hcells.out wd hbd
        have od := hdc.1
        have hdb := hdc.2
        have odl : go < wd.heap.size := Nat.lt_of_lt_of_le hol hbd.size
        replace hbd := Lib.hid hbd
        clear b0 o0 hBx hdc
        refine wp_region_held_drew (S := fun W => W.cell? ⟨w.heap.size + 1, 0, none⟩ = some (.slice pb lb.length cb)) (by kernel_rfl) (by rw [hwd]; exact hdb) (fun hHeld => ?_)
        rw [hwd] at hHeld ⊢
        clear hwd
        refine wpAnyH_take (i := 0) (oi := ?oi1) (v := ?v1) ?ho1 (by kernel_rfl) (by kernel_rfl) (by kernel_rfl) ?hp1 (Or.inl ⟨?hw1, ?hy1⟩) (by assumption) ?rest1
        case ho1 => simp only [List.getElem?_toArray, List.getElem?_cons_zero]; rfl
        case hp1 => exact fun _ _ _ h => h
        case hw1 => rfl
        case hy1 =>
          intro W hSw
          go_simp
          try exact rfl
        simp only [Act.put, List.setIfInBounds_toArray, List.set_cons_zero, List.set_cons_succ]
        refine wpAnyH_take (i := 2) (oi := ?oi2) (v := ?v2) ?ho2 (by kernel_rfl) (by kernel_rfl) (by kernel_rfl) ?hp2 (Or.inl ⟨?hw2, ?hy2⟩) (by assumption) ?rest2
        case ho2 => simp only [List.getElem?_toArray, List.getElem?_cons_succ, List.getElem?_cons_zero]; rfl
        case hp2 => exact fun _ _ _ h => h
        case hw2 => rfl
        case hy2 =>
          intro W hSw
          have v1 := (show W.cell? ⟨w.heap.size + 1, 0, none⟩ = some (.slice pb lb.length cb) from hSw)
          go_simp
          try exact rfl
        simp only [Act.put, List.setIfInBounds_toArray, List.set_cons_zero, List.set_cons_succ]
        refine wpAnyH_ready (rs := [1, 3]) (by kernel_rfl) (by simp) ?_
        refine AllReadyH.cons rfl (fun K hK => ?_) (AllReadyH.cons rfl (fun K hK => ?_) AllReadyH.nil)
        · go_simp
          refine hK.out _ _ hHeld (fun hHeld => ?_)
          clear hK K
          try simp only [List.getElem_toArray, List.getElem_cons_succ, List.getElem_cons_zero, Act.put, List.setIfInBounds_toArray, List.set_cons_zero, List.set_cons_succ]
          refine wpAnyH_ready (rs := [3]) (by kernel_rfl) (by simp) ?_
          refine AllReadyH.cons rfl (fun K hK => ?_) AllReadyH.nil
          go_simp
          go_at_call 21
          refine (clone_subject2 lb.length lb pb lb.length cb _ hSd.out (by omega) (fun d hd => by have := (attrS_asc ((subS_asc hcb.out).2.1 d hd)).2; omega)).mono ?_
          rintro e u1 ⟨⟨B2, g2, l2, hB2, rfl, hal2, hown2, hpar2⟩, hb⟩
          have hbu := hbd.out.trans (hb.mono hbd.out.size)
          have hsu : w6.heap.size ≤ u1.heap.size := hbu.size
          have hB2l : B2 < u1.heap.size := (hown2.lt B2 rfl).2
          have hwd6 : w6.heap.size ≤ wd.heap.size := hbd.out.size
          refine hK.out _ _ (hcells.out _ hbu).2 (fun hHeld => ?_)
          clear hK K
          try simp only [List.getElem_toArray, List.getElem_cons_succ, List.getElem_cons_zero, Act.put, List.setIfInBounds_toArray, List.set_cons_zero, List.set_cons_succ]
          refine wpAnyH_take (i := 4) (oi := ?oi3) (v := ?v3) ?ho3 (by kernel_rfl) (by kernel_rfl) (by kernel_rfl) ?hp3 (Or.inl ⟨?hw3, ?hy3⟩) (by assumption) ?rest3
          case ho3 => simp only [List.getElem?_toArray, List.getElem?_cons_succ, List.getElem?_cons_zero]; rfl
          case hp3 => exact fun _ _ _ h => h
          case hw3 => rfl
          case hy3 =>
            intro W hSw
            go_simp
            try exact rfl
          simp only [Act.put, List.setIfInBounds_toArray, List.set_cons_zero, List.set_cons_succ]
          have hl2 := Lib.hid (show l2.length = lb.length from hal2.1)
          refine wpAnyH_ready (rs := [5]) (by kernel_rfl) (by simp) ?_
          refine AllReadyH.cons rfl (fun K hK => ?_) AllReadyH.nil
          refine step_append_ctx (by rfl) _ _ (by rfl) B B l1.length l1.length l1 (by rfl) (hown5.out.kept (grown_of_below hbu none) (Or.inr (by intro e; cases e))) (by rfl) B2 lb.length lb.length l2 (by rfl) (rows_of_owns hown2 (l2.map CT.row) (by rw [List.length_map]; exact hl2.out.symm) (rows3c l2) rfl) (by have := hl1.out; omega) (by omega) ?_
          intro gr cap u2 hown3 hG3 hat
          have hgo : go < w6.heap.size := hol
          have hgr : gr ≠ go := by omega
          have hgrz : w.heap.size + 1 + 1 < gr := by omega
          have hK2 := (hK6.out.call hbu).grown hG3 (by omega)
          have hO2 := (hO5.out.below hbu hol).kept hG3 (by simp; omega)
          have o2 := hO2.cell 0
          have f2 := hO2.free 0
          have l2o := hO2.lt
          simp only [List.getElem?_toArray, List.getElem?_cons_zero] at o2
          have b2 := hK2.b.cell 0
          simp only [List.getElem?_toArray, List.getElem?_cons_zero] at b2
          have hc1 : ∀ x ∈ l1, CAt (excl [w.heap.size + 1 + 1, go, gr] u2) x := fun x hx => by
            have h1 := (hc5.out x hx).mono (excl_grown (X := [w.heap.size + 1 + 1, go, B]) (grown_of_below hbu none) (fun k e => by cases e))
            refine h1.mono (fun p v hp => ?_)
            have h2 := excl_some hp
            have hlt : p.block < u1.heap.size := World.block_lt_of_cell? u1 _ h2.2
            have hnB : p.block ≠ B := fun e => h2.1 (by rw [e]; simp)
            refine excl_mk (fun e => h2.1 ?_) (hG3.cell h2.2 (fun e => hnB (Option.some.inj e)))
            simp only [List.mem_cons, List.not_mem_nil, or_false] at e ⊢
            rcases e with e | e | e
            · exact Or.inl e
            · exact Or.inr (Or.inl e)
            · exact absurd e (by rcases hat with h | h <;> omega)
          have hc2 : ∀ x ∈ l2, CAt (excl [w.heap.size + 1 + 1, go, gr] u2) x := fun x hx => by
            obtain ⟨j, hj, rfl⟩ := List.getElem_of_mem hx
            refine (hpar2.others j _ (List.getElem?_eq_getElem hj) (by have := hl2.out; omega)).mono (fun p v hp => ?_)
            have h1 := newG_in _ _ _ _ _ _ hp
            have hlt : p.block < u1.heap.size := World.block_lt_of_cell? u1 _ h1
            have hge : B2 ≤ p.block := by
              unfold newG at hp
              split at hp
              · cases hp
              · rename_i hne; exact Nat.le_of_not_lt fun e => hne (Or.inl e)
            refine excl_mk (fun e => ?_) (hG3.cell h1 (fun e => by have := Option.some.inj e; omega))
            simp only [List.mem_cons, List.not_mem_nil, or_false] at e
            rcases e with e | e | e
            · omega
            · omega
            · rcases hat with h | h <;> omega
          have hcc := Lib.hid (fun x (hx : x ∈ l1 ++ l2) => (List.mem_append.1 hx).elim (hc1 x) (hc2 x))
          replace hK2 := Lib.hid hK2
          replace hO2 := Lib.hid hO2
          replace hown3 := Lib.hid hown3
          replace hal2 := Lib.hid hal2
          clear hc1 hc2 hG3 hown2 hpar2 hb
          refine hK.out _ _ b2 (fun hHeld => ?_)
          clear hK K
          try simp only [List.getElem_toArray, List.getElem_cons_succ, List.getElem_cons_zero, Act.put, List.setIfInBounds_toArray, List.set_cons_zero, List.set_cons_succ]
          refine wpAnyH_take (i := 6) (oi := ?oi4) (v := ?v4) ?ho4 (by kernel_rfl) (by kernel_rfl) (by kernel_rfl) ?hp4 (Or.inl ⟨?hw4, ?hy4⟩) (by assumption) ?rest4
          case ho4 => simp only [List.getElem?_toArray, List.getElem?_cons_succ, List.getElem?_cons_zero]; rfl
          case hp4 => exact fun _ _ _ h => h
          case hw4 => rfl
          case hy4 =>
            intro W hSw
            go_simp
            try exact rfl
          simp only [Act.put, List.setIfInBounds_toArray, List.set_cons_zero, List.set_cons_succ]
          refine wpAnyH_ready (rs := [7]) (by kernel_rfl) (by simp) ?_
          refine AllReadyH.cons rfl (fun K hK => ?_) AllReadyH.nil
          go_simp
          have hK3 := Lib.hid (show JX w (u2.setCell ⟨go, 0, none⟩ (.slice (some ⟨gr, 0, none⟩) (l1.length + lb.length) cap)) pa la.length ca pb lb.length cb from hK2.out.grown (grown_setCell u2 go 0 _) (by omega))
          have hO3 := Lib.hid (show Own (u2.setCell ⟨go, 0, none⟩ (.slice (some ⟨gr, 0, none⟩) (l1.length + lb.length) cap)) go #[.slice (some ⟨gr, 0, none⟩) (l1.length + lb.length) cap] 25 from hO2.out.set 0 _)
          have b3 := hK3.out.b.cell 0
          simp only [List.getElem?_toArray, List.getElem?_cons_zero] at b3
          refine hK.out _ _ b3 (fun _ => ?_)
          clear hK K
          try simp only [List.getElem_toArray, List.getElem_cons_succ, List.getElem_cons_zero, Act.put, List.setIfInBounds_toArray, List.set_cons_zero, List.set_cons_succ]
          refine wpAnyH_done (by kernel_rfl) ?_ _
          go_wp2
          go_meet
          exact ⟨gr, cap, l2, hal2, hK3, hO3, Lib.hid (by rw [show (l1 ++ l2).length = l1.length + lb.length by rw [List.length_append, hl2.out]]; exact owns_kept2 hown3.out (grown_setCell u2 go 0 _) hgr), Lib.hid (fun x hx => (hcc.out x hx).mono (excl_set (X := [w.heap.size + 1 + 1, go, gr]) (by simp) _)), hgr⟩
        · go_simp
          go_at_call 21
          refine (clone_subject2 lb.length lb pb lb.length cb _ hSd.out (by omega) (fun d hd => by have := (attrS_asc ((subS_asc hcb.out).2.1 d hd)).2; omega)).mono ?_
          rintro e u1 ⟨⟨B2, g2, l2, hB2, rfl, hal2, hown2, hpar2⟩, hb⟩
          have hbu := hbd.out.trans (hb.mono hbd.out.size)
          have hsu : w6.heap.size ≤ u1.heap.size := hbu.size
          have hB2l : B2 < u1.heap.size := (hown2.lt B2 rfl).2
          have hwd6 : w6.heap.size ≤ wd.heap.size := hbd.out.size
          refine hK.out _ _ (hcells.out _ hbu).2 (fun hHeld => ?_)
          clear hK K
          try simp only [List.getElem_toArray, List.getElem_cons_succ, List.getElem_cons_zero, Act.put, List.setIfInBounds_toArray, List.set_cons_zero, List.set_cons_succ]
          refine wpAnyH_take (i := 4) (oi := ?oi5) (v := ?v5) ?ho5 (by kernel_rfl) (by kernel_rfl) (by kernel_rfl) ?hp5 (Or.inl ⟨?hw5, ?hy5⟩) (by assumption) ?rest5
          case ho5 => simp only [List.getElem?_toArray, List.getElem?_cons_succ, List.getElem?_cons_zero]; rfl
          case hp5 => exact fun _ _ _ h => h
          case hw5 => rfl
          case hy5 =>
            intro W hSw
            go_simp
            try exact rfl
          simp only [Act.put, List.setIfInBounds_toArray, List.set_cons_zero, List.set_cons_succ]
          refine wpAnyH_ready (rs := [1]) (by kernel_rfl) (by simp) ?_
          refine AllReadyH.cons rfl (fun K hK => ?_) AllReadyH.nil
          have ou := (hcells.out _ hbu).1
          go_simp
          refine hK.out _ _ hHeld (fun hHeld => ?_)
          clear hK K
          try simp only [List.getElem_toArray, List.getElem_cons_succ, List.getElem_cons_zero, Act.put, List.setIfInBounds_toArray, List.set_cons_zero, List.set_cons_succ]
          have hl2 := Lib.hid (show l2.length = lb.length from hal2.1)
          refine wpAnyH_ready (rs := [5]) (by kernel_rfl) (by simp) ?_
          refine AllReadyH.cons rfl (fun K hK => ?_) AllReadyH.nil
          refine step_append_ctx (by rfl) _ _ (by rfl) B B l1.length l1.length l1 (by rfl) (hown5.out.kept (grown_of_below hbu none) (Or.inr (by intro e; cases e))) (by rfl) B2 lb.length lb.length l2 (by rfl) (rows_of_owns hown2 (l2.map CT.row) (by rw [List.length_map]; exact hl2.out.symm) (rows3c l2) rfl) (by have := hl1.out; omega) (by omega) ?_
          intro gr cap u2 hown3 hG3 hat
          have hgo : go < w6.heap.size := hol
          have hgr : gr ≠ go := by omega
          have hgrz : w.heap.size + 1 + 1 < gr := by omega
          have hK2 := (hK6.out.call hbu).grown hG3 (by omega)
          have hO2 := (hO5.out.below hbu hol).kept hG3 (by simp; omega)
          have o2 := hO2.cell 0
          have f2 := hO2.free 0
          have l2o := hO2.lt
          simp only [List.getElem?_toArray, List.getElem?_cons_zero] at o2
          have b2 := hK2.b.cell 0
          simp only [List.getElem?_toArray, List.getElem?_cons_zero] at b2
          have hc1 : ∀ x ∈ l1, CAt (excl [w.heap.size + 1 + 1, go, gr] u2) x := fun x hx => by
            have h1 := (hc5.out x hx).mono (excl_grown (X := [w.heap.size + 1 + 1, go, B]) (grown_of_below hbu none) (fun k e => by cases e))
            refine h1.mono (fun p v hp => ?_)
            have h2 := excl_some hp
            have hlt : p.block < u1.heap.size := World.block_lt_of_cell? u1 _ h2.2
            have hnB : p.block ≠ B := fun e => h2.1 (by rw [e]; simp)
            refine excl_mk (fun e => h2.1 ?_) (hG3.cell h2.2 (fun e => hnB (Option.some.inj e)))
            simp only [List.mem_cons, List.not_mem_nil, or_false] at e ⊢
            rcases e with e | e | e
            · exact Or.inl e
            · exact Or.inr (Or.inl e)
            · exact absurd e (by rcases hat with h | h <;> omega)
          have hc2 : ∀ x ∈ l2, CAt (excl [w.heap.size + 1 + 1, go, gr] u2) x := fun x hx => by
            obtain ⟨j, hj, rfl⟩ := List.getElem_of_mem hx
            refine (hpar2.others j _ (List.getElem?_eq_getElem hj) (by have := hl2.out; omega)).mono (fun p v hp => ?_)
            have h1 := newG_in _ _ _ _ _ _ hp
            have hlt : p.block < u1.heap.size := World.block_lt_of_cell? u1 _ h1
            have hge : B2 ≤ p.block := by
              unfold newG at hp
              split at hp
              · cases hp
              · rename_i hne; exact Nat.le_of_not_lt fun e => hne (Or.inl e)
            refine excl_mk (fun e => ?_) (hG3.cell h1 (fun e => by have := Option.some.inj e; omega))
            simp only [List.mem_cons, List.not_mem_nil, or_false] at e
            rcases e with e | e | e
            · omega
            · omega
            · rcases hat with h | h <;> omega
          have hcc := Lib.hid (fun x (hx : x ∈ l1 ++ l2) => (List.mem_append.1 hx).elim (hc1 x) (hc2 x))
          replace hK2 := Lib.hid hK2
          replace hO2 := Lib.hid hO2
          replace hown3 := Lib.hid hown3
          replace hal2 := Lib.hid hal2
          clear hc1 hc2 hG3 hown2 hpar2 hb
          refine hK.out _ _ b2 (fun hHeld => ?_)
          clear hK K
          try simp only [List.getElem_toArray, List.getElem_cons_succ, List.getElem_cons_zero, Act.put, List.setIfInBounds_toArray, List.set_cons_zero, List.set_cons_succ]
          refine wpAnyH_take (i := 6) (oi := ?oi6) (v := ?v6) ?ho6 (by kernel_rfl) (by kernel_rfl) (by kernel_rfl) ?hp6 (Or.inl ⟨?hw6, ?hy6⟩) (by assumption) ?rest6
          case ho6 => simp only [List.getElem?_toArray, List.getElem?_cons_succ, List.getElem?_cons_zero]; rfl
          case hp6 => exact fun _ _ _ h => h
          case hw6 => rfl
          case hy6 =>
            intro W hSw
            go_simp
            try exact rfl
          simp only [Act.put, List.setIfInBounds_toArray, List.set_cons_zero, List.set_cons_succ]
          refine wpAnyH_ready (rs := [7]) (by kernel_rfl) (by simp) ?_
          refine AllReadyH.cons rfl (fun K hK => ?_) AllReadyH.nil
          go_simp
          have hK3 := Lib.hid (show JX w (u2.setCell ⟨go, 0, none⟩ (.slice (some ⟨gr, 0, none⟩) (l1.length + lb.length) cap)) pa la.length ca pb lb.length cb from hK2.out.grown (grown_setCell u2 go 0 _) (by omega))
          have hO3 := Lib.hid (show Own (u2.setCell ⟨go, 0, none⟩ (.slice (some ⟨gr, 0, none⟩) (l1.length + lb.length) cap)) go #[.slice (some ⟨gr, 0, none⟩) (l1.length + lb.length) cap] 25 from hO2.out.set 0 _)
          have b3 := hK3.out.b.cell 0
          simp only [List.getElem?_toArray, List.getElem?_cons_zero] at b3
          refine hK.out _ _ b3 (fun _ => ?_)
          clear hK K
          try simp only [List.getElem_toArray, List.getElem_cons_succ, List.getElem_cons_zero, Act.put, List.setIfInBounds_toArray, List.set_cons_zero, List.set_cons_succ]
          refine wpAnyH_done (by kernel_rfl) ?_ _
          go_wp2
          go_meet
          exact ⟨gr, cap, l2, hal2, hK3, hO3, Lib.hid (by rw [show (l1 ++ l2).length = l1.length + lb.length by rw [List.length_append, hl2.out]]; exact owns_kept2 hown3.out (grown_setCell u2 go 0 _) hgr), Lib.hid (fun x hx => (hcc.out x hx).mono (excl_set (X := [w.heap.size + 1 + 1, go, gr]) (by simp) _)), hgr⟩
      case rest =>
        obtain ⟨gr, cap, l2, hal2, hKc, hOc0, hrow0, hcat, hne⟩ := hcut
        have hll : (l1 ++ l2).length = l1.length + lb.length := by rw [List.length_append, hal2.out.1]
        have hsum : l1.length + lb.length ≤ 4 := by have := hl1.out; omega
        have hrow := hrow0.out
        rw [hll] at hrow
        have hOc := hOc0.out
        clear hrow0 hOc0 hO5 hK6 hown5 hc5
        generalize l1.length + lb.length = N at hll hsum hrow hOc
        replace hll := Lib.hid hll
        replace hrow := Lib.hid hrow
        replace hOc := Lib.hid hOc
        have hsum' := Lib.hid hsum
        clear hsum
        have hgB : B ≤ gr := (hrow.out.lt gr rfl).1
        have o0 := hOc.out.cell 0
        have hol := hOc.out.lt
        simp only [List.getElem?_toArray, List.getElem?_cons_zero] at o0
        go_wp2_with fail
        refine (sort_any (l1 ++ l2) N hll.out gr cap B _ hrow.out (by have := hsum'.out; omega)).mono ?_
        rintro e w8 ⟨rfl, ⟨d', hp, hs, hR⟩, hG⟩
        have hK8 := Lib.hid (hKc.out.grown hG (by omega))
        have hO8 := Lib.hid (hOc.out.kept hG (by simp; omega))
        have hc8 := Lib.hid (fun x (hx : x ∈ d') => (hcat.out x (hp.mem_iff.1 hx)).mono (excl_grown hG (fun k e => by cases e; simp)))
        have hR8 := Lib.hid (rows_excl (X := [w.heap.size + 1 + 1]) hR (fun n hn => by cases hn; simp; omega))
        have hsp := Lib.hid (sort_strict hca.out hcb.out hd.out hal1.out hal2.out hp hs)
        have hz0 := Lib.hid (show joinE la lb = 0 from joinE_zero.2 ⟨hca.out, hcb.out, hd.out, by omega⟩)
        have o8 := hO8.out.cell 0
        have hol8 := hO8.out.lt
        have z0 := hK8.out.z.cell 0
        have y0 := hK8.out.z.free 0
        have hlz := hK8.out.low'
        simp only [List.getElem?_toArray, List.getElem?_cons_zero] at o8 z0
        have hr := hK8.out.res (.slice (some ⟨gr, 0, none⟩) N cap)
        clear hp hs hR hG hKc hOc hcat hrow o0 hol hll
        go_wp2
        refine bodyPost_ret (v := .tuple #[.agg #[.slice (some ⟨gr, 0, none⟩) N cap], .int .i64 0]) (by simp [results, Tryz.results9, go_sem, hr]) rfl ?_
        exact ⟨⟨_, _, _, d', by rw [hz0.out], ⟨fun _ => ⟨hsp.out.2, hsp.out.1⟩, fun h => absurd hz0.out h⟩, ⟨hR8.out.mono ((excl_set (X := [w.heap.size + 1 + 1]) (by simp) _).trans (excl_sub _ _)), fun x hx => (hc8.out x hx).mono ((excl_set (X := [w.heap.size + 1 + 1, go, gr]) (by simp) _).trans (excl_sub _ _))⟩⟩, hK8.out.low.setCell (by simp; omega) _⟩
    obtain ⟨blk, off, rfl, -, -, c0, c1, c2⟩ := ct_at (hL.out.rows.mono (sub_of_below hK.out.low)) hlt
    have n0 : (0 : Int) ≤ (k : Int) := by omega
    have n1 : (k : Int) < (lb.length : Int) := by omega
    have hdup := Lib.hid (fun h => dup_at (la := la) hlt h)
    have hstep := Lib.hid (fun (h : findS lb[k].kind.toList la = none) (j : Nat) (hj : j < lb.length) (h1 : j < k + 1) => show findS lb[j].kind.toList la = none from by
      rcases Nat.lt_or_ge j k with h2 | h2
      · exact hno.out j hj h2
      · obtain rfl : j = k := by omega
        exact h)
    generalize lb[k] = ck at c0 c1 c2 hdup hstep
    have hbc : Below wr.heap.size wr (wr.alloc (.cells #[.string ck.kind, .string ck.key, .slice ck.ptr ck.len ck.cap] 41)) := (Below.refl _ _).alloc (Nat.le_refl _) _
    have hKc := Lib.hid (hK.out.call hbc)
    have hal := hK.out.a.lt
    clear hbc
    go_wp2_with fail
    generalize wr.alloc (.cells #[.string ck.kind, .string ck.key, .slice ck.ptr ck.len ck.cap] 41) = wc at hKc ⊢
    refine (index_any ck.kind pa la.length ca la _ (hA.out.mono (sub_of_below hKc.out.low)).rows).mono ?_
    rintro e w6 ⟨⟨q, rfl, hq⟩, hb⟩
    have hK6 := Lib.hid (hKc.out.call hb)
    clear hb hKc a0 b0 z0 y0 hlz c0 c1 c2 hal
    have z0 := hK6.out.z.cell 0
    have y0 := hK6.out.z.free 0
    simp only [List.getElem?_toArray, List.getElem?_cons_zero] at z0
    have hlz := hK6.out.low'
    rcases hq with ⟨q', hq', rfl, hf⟩ | ⟨rfl, hf⟩
    case inl =>
      have hd := Lib.hid (hdup.out (by rw [hf]; rfl))
      have hr := hK6.out.res (.slice none 0 0)
      have hqn : (0 : Int) ≤ (q' : Int) := by omega
      clear hdup hstep hf
      go_wp2
      refine bodyPost_ret (v := .tuple #[.agg #[.slice none 0 0], .int .i64 10]) (by simp [results, Tryz.results9, go_sem, hr]) rfl ?_
      exact ⟨join_err (joinE_dup hca.out hcb.out hd.out) (by decide), hK6.out.low.setCell (by simp; omega) _⟩
    have hs := Lib.hid (hstep.out hf)
    clear hdup hstep hf
    go_wp2
    go_roundw
    case rel => exact ⟨k + 1, by omega, by go_num, hK6, hs⟩
    case measure => simp [intOf]; omega

end Go.Proofs.YtkglejfkfeahcaaGreatDoor.subj

