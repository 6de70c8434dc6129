/- The reference's Join. -/
import Derived.Test.YtkglejfkfeahcaaGreatDoorKJ21
import Derived.Test.YtkglejfkfeahcaaGreatDoorKJ22
import Derived.Deep.RegionHeld
namespace Go.Proofs.YtkglejfkfeahcaaGreatDoor.subj
open Go.RowKit Go.Sort Go.Deep Go.Proofs.YtkglejfkfeahcaaGreatDoor Go.Proofs.YtkglejfkfeahcaaGreatDoor.schema Go.Proofs.YtkglejfkfeahcaaGreatDoor.value Go.Proofs.YtkglejfkfeahcaaGreatDoor.text Go.Proofs.YtkglejfkfeahcaaGreatDoor.clause Go.Proofs.YtkglejfkfeahcaaGreatDoor.draw

/-- A context in its box. -/
def KC (n : Nat) (c : CT) (W : World) : Prop := W.cell? ⟨n, 0, none⟩ = some (.string c.kind) ∧ W.cell? ⟨n, 1, none⟩ = some (.string c.key) ∧ W.cell? ⟨n, 2, none⟩ = some (.slice c.ptr c.len c.cap)

set_option maxRecDepth 100000 in
set_option maxHeartbeats 8000000 in
theorem join_ref (la lb : List CT) (pa pb : Option Addr) (na ca nb cb : Nat) (w : World) (ha : SAt w.cell? (.slice pa na ca) la) (hb : SAt w.cell? (.slice pb nb cb) lb) (hNa : Nm la) (hNb : Nm lb) (hT : STabs w) :
    Calls Tryz.prog 10 #[.agg #[.slice pa na ca], .agg #[.slice pb nb cb]] w fun e w' => JoinIs la lb e w' ∧ Below w.heap.size w w' := by
  have hW := Lib.hid (JX.start w pa na ca pb nb cb)
  have hA := Lib.hid ha
  have hL := Lib.hid hb
  have hT0 := Lib.hid hT
  replace hNa := Lib.hid hNa
  replace hNb := Lib.hid hNb
  clear ha hb hT
  go_enter Tryz.func10, Tryz.ntmps10
  go_wp2_with fail
  generalize ((w.alloc (.cells #[.slice pa na ca] 25)).alloc (.cells #[.slice pb nb cb] 25)).alloc (.cells #[.slice none 0 0] 25) = w0 at hW ⊢
  refine (scheck_ref la pa na ca _ (hA.out.mono (sub_of_below hW.out.low)) hNa.out (hT0.out.below hW.out.low)).mono ?_
  rintro e w1 ⟨rfl, hb⟩
  have hW1 := Lib.hid (hW.out.call hb)
  clear hb hW
  have b0 := hW1.out.b.cell 0
  have z0 := hW1.out.z.cell 0
  have y0 := hW1.out.z.free 0
  simp only [List.getElem?_toArray, List.getElem?_cons_zero] at b0 z0
  have hlz := hW1.out.low'
  by_cases hca : subS la = 0
  case neg =>
    have hcz := Lib.hid hca
    have hr := hW1.out.res (.slice none 0 0)
    go_wp2
    refine bodyPost_ret (v := .tuple #[.agg #[.slice none 0 0], .int .i64 (subS la)]) (by simp [results, Tryz.results10, go_sem, hr]) rfl ?_
    exact ⟨join_err (joinE_a hcz.out) hcz.out, hW1.out.low.setCell (by simp; omega) _⟩
  rw [hca]
  replace hca := Lib.hid hca
  go_wp2_with fail
  refine (scheck_ref lb pb nb cb _ (hL.out.mono (sub_of_below hW1.out.low)) hNb.out (hT0.out.below hW1.out.low)).mono ?_
  rintro e w2 ⟨rfl, hb⟩
  have hW2 := Lib.hid (hW1.out.call hb)
  clear hb hW1 b0 z0 y0 hlz
  have a0 := hW2.out.a.cell 0
  have b0 := hW2.out.b.cell 0
  have z0 := hW2.out.z.cell 0
  have y0 := hW2.out.z.free 0
  simp only [List.getElem?_toArray, List.getElem?_cons_zero] at a0 b0 z0
  have hlz := hW2.out.low'
  by_cases hcb : subS lb = 0
  case neg =>
    have hcz := Lib.hid hcb
    have hr := hW2.out.res (.slice none 0 0)
    go_wp2
    refine bodyPost_ret (v := .tuple #[.agg #[.slice none 0 0], .int .i64 (subS lb)]) (by simp [results, Tryz.results10, go_sem, hr]) rfl ?_
    exact ⟨join_err (joinE_b hca.out hcz.out) hcz.out, hW2.out.low.setCell (by simp; omega) _⟩
  rw [hcb]
  replace hcb := Lib.hid hcb
  have hla : la.length ≤ 4 := (subS_asc hca.out).2.2
  have hlb : lb.length ≤ 4 := (subS_asc hcb.out).2.2
  have hna : na = la.length := by have := (len_of hA.out.rows).1; simpa using this
  have hnb : nb = lb.length := by have := (len_of hL.out.rows).1; simpa using this
  subst hna
  subst hnb
  have hRa := Lib.hid (hA.out.rows.mono (sub_of_below hW2.out.low))
  go_wp2_with (at_builtin; refine wpList_append_cs rfl _ _ rfl w2.heap.size none 0 0 [] rfl (cs_nil _ _) rfl pa la.length ca la rfl hRa.out (by omega) (Nat.le_refl _) ?_; intro va vc w3 hX hXn hb3 hg3; rw [Nat.zero_add, List.nil_append] at hX; rw [Nat.zero_add]; replace hX := Lib.hid hX; replace hb3 := Lib.hid hb3; clear hXn hg3)
  have hR0 := Lib.hid (show RJ w w3 pa la.length ca pb lb.length cb la lb 0 w2.heap.size (.slice va la.length vc) la from ⟨hW2.out.call hb3.out, hX.out, hlz, hb3.out.size, by rw [List.take_zero, List.append_nil], (subS_asc hca.out).1, fun j _ h => by omega⟩)
  clear hX hb3 hRa a0 b0 z0 y0
  generalize w2.heap.size = E0 at hR0 hlz
  go_loopw [8, 9] (fun s8 s9 wr => ∃ (i E : Nat) (L : List CT), i ≤ lb.length ∧ s9 = .int .i64 i ∧ Hid (RJ w wr pa la.length ca pb lb.length cb la lb i E s8 L)) (fun _ s9 _ => lb.length - (intOf s9).toNat)
  case atStart => exact ⟨0, E0, la, by omega, rfl, hR0⟩
  case round =>
    clear hR0 hlz hW2
    obtain ⟨i, E, L, hi, rfl, hK⟩ := hrel
    obtain ⟨va, vc, rfl⟩ := cs_form hK.out.row
    have hLn := hK.out.len hi
    have b0 := hK.out.x.b.cell 0
    have z0 := hK.out.x.z.cell 0
    have y0 := hK.out.x.z.free 0
    simp only [List.getElem?_toArray, List.getElem?_cons_zero] at b0 z0
    have hlz := hK.out.x.low'
    by_cases hlt : i < lb.length
    case neg =>
      have hd := Lib.hid (dup_none (la := la) (lb := lb) fun j hj => hK.out.no j hj (by omega))
      by_cases hmany : 4 < la.length + lb.length
      case pos =>
        have hm1 : (4 : Int) < (L.length : Int) := by omega
        have hmz := Lib.hid hmany
        have hr := hK.out.x.res (.slice none 0 0)
        replace hLn := Lib.hid hLn
        go_wp2
        refine bodyPost_ret (v := .tuple #[.agg #[.slice none 0 0], .int .i64 5]) (by simp [results, Tryz.results10, go_sem, hr]) rfl ?_
        exact ⟨join_err (joinE_many hca.out hcb.out hd.out hmz.out) (by decide), hK.out.x.low.setCell (by simp; omega) _⟩
      have hm1 : ¬ (4 : Int) < (L.length : Int) := by omega
      have hr := hK.out.x.res (.slice va L.length vc)
      have hz0 := Lib.hid (show joinE la lb = 0 from joinE_zero.2 ⟨hca.out, hcb.out, hd.out, by omega⟩)
      have hti := Lib.hid (show lb.take i = lb from List.take_of_length_le (by omega))
      replace hLn := Lib.hid hLn
      go_wp2
      refine bodyPost_ret (v := .tuple #[.agg #[.slice va L.length vc], .int .i64 0]) (by simp [results, Tryz.results10, go_sem, hr]) rfl ?_
      obtain ⟨p1, p2⟩ := hK.out.done hA.out.each hL.out.each (.slice va L.length vc)
      have hp := hK.out.perm
      rw [hti.out] at hp
      exact ⟨⟨_, _, _, L, by rw [hz0.out], ⟨fun _ => ⟨hp.map nC, hK.out.sort⟩, fun h => absurd hz0.out h⟩, p1⟩, p2⟩
    obtain ⟨blb, offb, rfl, -, -, c0, c1, c2⟩ := ct_at (hL.out.rows.mono (sub_of_below hK.out.x.low)) hlt
    have n0 : (0 : Int) ≤ (i : Int) := by omega
    have n1 : (i : Int) < (lb.length : Int) := by omega
    have hdup := Lib.hid (fun (u : World) (h : RJ w u pa la.length ca (some ⟨blb, offb, none⟩) lb.length cb la lb i E (.slice va L.length vc) L) (k : Nat) (hk : k < L.length) (he : L[k].kind.toList = lb[i].kind.toList) => h.dup hcb.out hlt hk he)
    have hnext := Lib.hid (fun (u u2 : World) (h : RJ w u pa la.length ca (some ⟨blb, offb, none⟩) lb.length cb la lb i E (.slice va L.length vc) L) (k F : Nat) (v' : Value) (hx : JX w u2 pa la.length ca (some ⟨blb, offb, none⟩) lb.length cb) (hrow : CS F v' (putK k lb[i] L) u2) (hF : w.heap.size + 1 + 1 < F) (hu : F ≤ u2.heap.size) (h1 : ∀ (j : Nat) (hj : j < L.length), j < k → befC lb[i].kind.data.toList L[j] = true) (h2 : ∀ hk : k < L.length, befC lb[i].kind.data.toList L[k] = false ∧ L[k].kind.data.toList ≠ lb[i].kind.data.toList) => h.next hlt hx hrow hF hu h1 h2)
    generalize lb[i] = ck at c0 c1 c2 hdup hnext
    have hbc : Below wr.heap.size wr (wr.alloc (.cells #[.string ck.kind, .string ck.key, .slice ck.ptr ck.len ck.cap] 41)) := (Below.refl _ _).alloc (Nat.le_refl _) _
    have hKc := Lib.hid (hK.out.call hbc)
    have hO := Lib.hid (Own.new wr #[.string ck.kind, .string ck.key, .slice ck.ptr ck.len ck.cap] 41)
    clear hbc
    replace hLn := Lib.hid hLn
    go_wp2_with fail
    generalize wr.alloc (.cells #[.string ck.kind, .string ck.key, .slice ck.ptr ck.len ck.cap] 41) = wc at hKc hO ⊢
    generalize wr.heap.size = cx at hO ⊢
    clear hK c0 c1 c2 b0 z0 y0 hlz
    go_loopw [11] (fun s11 wq => ∃ k : Nat, k ≤ L.length ∧ s11 = .int .i64 k ∧ Hid (Below wc.heap.size wc wq) ∧ Hid (∀ (j : Nat) (hj : j < L.length), j < k → befC ck.kind.data.toList L[j] = true)) (fun s11 _ => L.length - (intOf s11).toNat)
    case atStart => exact ⟨0, by omega, rfl, Lib.hid (Below.refl _ _), Lib.hid (fun j _ h => by omega)⟩
    case round =>
      obtain ⟨k, hk, rfl, hb, hbef⟩ := hrel
      have hKq := Lib.hid (hKc.out.call hb.out)
      have hOq := Lib.hid (hO.out.below hb.out hO.out.lt)
      have hRq := Lib.hid hKq.out.row.rows
      have hvc := rows_len hRq.out
      rw [List.length_map] at hvc
      have hkc1 : k ≤ vc := by omega
      have hLs : L.length ≤ 8 := by have := hLn.out; omega
      have o0 := hOq.out.cell 0
      have ol := hOq.out.lt
      simp only [List.getElem?_toArray, List.getElem?_cons_zero] at o0
      by_cases hka : k < L.length
      case pos =>
        obtain ⟨blk, ao, rfl, -, -, v0, -, -⟩ := ct_at hRq.out hka
        have hbv : befC ck.kind.data.toList L[k] = Op.bytesLess L[k].kind.data.toList ck.kind.data.toList := rfl
        have hstep := Lib.hid (fun (ht : befC ck.kind.data.toList L[k] = true) (j : Nat) (hj : j < L.length) (h : j < k + 1) => show befC ck.kind.data.toList L[j] = true from by
          rcases Nat.lt_or_ge j k with h1 | h1
          · exact hbef.out j hj h1
          · obtain rfl : j = k := by omega
            exact ht)
        have hde := Lib.hid (fun (u : World) (h : _) => hdup.out u h k hka)
        have hstop := Lib.hid (fun (ht : befC ck.kind.data.toList L[k] = false) (hn : L[k].kind.data.toList ≠ ck.kind.data.toList) => show StopK ck L k from fun _ => ⟨ht, hn⟩)
        generalize befC ck.kind.data.toList L[k] = bm at hbv hstep hstop
        generalize L[k] = ak at v0 hbv hstop hde
        have n2 : (0 : Int) ≤ (k : Int) := by omega
        have n3 : (k : Int) < (L.length : Int) := by omega
        rw [← ByteArray.toList_eq, ← ByteArray.toList_eq] at hbv
        cases bm
        case true =>
          have hs := Lib.hid (hstep.out rfl)
          replace hbv := hbv.symm
          clear hstep hstop hbef hde hvc
          go_wp2_with fail
          go_quiet (fail)
          generalize hqw9 : World.drewN wr _ = w9
          have hbw9 : Below wr.heap.size wr w9 := by rw [← hqw9]; exact (Below.refl wr.heap.size wr).grown (grown_drewN wr _ none) (Nat.le_refl _) (fun k e => by cases e)
          clear hqw9
          go_wp2
          go_roundw
          case rel => exact ⟨k + 1, by omega, by go_num, Lib.hid (hb.out.trans (hbw9.mono hb.out.size)), hs⟩
          case measure => simp [intOf]; omega
        replace hbv := hbv.symm
        replace hvc := Lib.hid hvc
        cases hna : (ak.kind.toList == ck.kind.toList)
        case true =>
          have hd := Lib.hid (hde.out _ hKq.out (eq_of_beq hna))
          clear hstep hstop hbef hde
          go_wp2_with fail
          go_quiet (fail)
          generalize hqw9 : World.drewN wr _ = w9
          have hbw9 : Below wr.heap.size wr w9 := by rw [← hqw9]; exact (Below.refl wr.heap.size wr).grown (grown_drewN wr _ none) (Nat.le_refl _) (fun k e => by cases e)
          clear hqw9
          have v9 := hbw9.cell (World.block_lt_of_cell? wr _ v0)
          rw [v0] at v9
          have o9 := hbw9.cell (World.block_lt_of_cell? wr _ o0)
          rw [o0] at o9
          go_wp2_with fail
          go_quiet (fail)
          generalize hqw10 : World.drewN w9 _ = w10
          have hbw10 : Below w9.heap.size w9 w10 := by rw [← hqw10]; exact (Below.refl w9.heap.size w9).grown (grown_drewN w9 _ none) (Nat.le_refl _) (fun k e => by cases e)
          clear hqw10
          have hKr := Lib.hid ((hKq.out.call hbw9).call hbw10)
          have z0 := hKr.out.x.z.cell 0
          have y0 := hKr.out.x.z.free 0
          simp only [List.getElem?_toArray, List.getElem?_cons_zero] at z0
          have hlz := hKr.out.x.low'
          have hr := hKr.out.x.res (.slice none 0 0)
          clear hbw9 hbw10
          go_wp2
          refine bodyPost_ret (v := .tuple #[.agg #[.slice none 0 0], .int .i64 10]) (by simp [results, Tryz.results10, go_sem, hr]) rfl ?_
          exact ⟨join_err (joinE_dup hca.out hcb.out hd.out) (by decide), hKr.out.x.low.setCell (by simp; omega) _⟩
        have hst := Lib.hid (hstop.out rfl (by have := ne_of_beq_false hna; simpa only [ByteArray.toList_eq] using this))
        clear hstep hstop hde
        go_wp2_with fail
        go_quiet (fail)
        generalize hqw9 : World.drewN wr _ = w9
        have hbw9 : Below wr.heap.size wr w9 := by rw [← hqw9]; exact (Below.refl wr.heap.size wr).grown (grown_drewN wr _ none) (Nat.le_refl _) (fun k e => by cases e)
        clear hqw9
        have v9 := hbw9.cell (World.block_lt_of_cell? wr _ v0)
        rw [v0] at v9
        have o9 := hbw9.cell (World.block_lt_of_cell? wr _ o0)
        rw [o0] at o9
        go_wp2_with fail
        go_quiet (fail)
        generalize hqw10 : World.drewN w9 _ = w10
        have hbw10 : Below w9.heap.size w9 w10 := by rw [← hqw10]; exact (Below.refl w9.heap.size w9).grown (grown_drewN w9 _ none) (Nat.le_refl _) (fun k e => by cases e)
        clear hqw10
        clear v9 o9
        go_upto_region 17 with fail
        generalize (some ⟨blk, ao, none⟩ : Option Addr) = va at hKq hRq hnext ⊢
        have hrest := Lib.hid (rows_from hRq.out (k := k) (by rw [List.length_map]; exact hk))
        rw [← List.map_drop] at hrest
        clear hna hbv v0 hka
        obtain ⟨wz, hwz⟩ : ∃ z, z = w10 := ⟨_, rfl⟩
        rw [← hwz] at hbw10 ⊢
        clear hwz
        have hbz : Below wr.heap.size wr wz := hbw9.trans (hbw10.mono hbw9.size)
        have hKz := Lib.hid (hKq.out.call hbz)
        have hOz := hOq.out.below hbz ol
        have hRz := Lib.hid hKz.out.row.rows
        have hrz := Lib.hid (hrest.out.mono (sub_of_below hbz))
        have olz := hOz.lt
        clear hbw9 hbw10 hbz hrest hRq hKq hOq ol hb
        have hpre := rows_take hRz.out (k := k) (by rw [List.length_map]; exact hk)
        rw [← List.map_take] at hpre
        have htk : (L.take k).length = k := by rw [List.length_take]; omega
        have v0 := hOz.cell 0
        have v1 := hOz.cell 1
        have v2 := hOz.cell 2
        simp only [List.getElem?_toArray, List.getElem?_cons_zero, List.getElem?_cons_succ] at v0 v1 v2
        replace hpre := Lib.hid hpre
        replace htk := Lib.hid htk
        have hbox : Hid (∀ W : World, Below wz.heap.size wz W → KC cx ck W) := Lib.hid fun W hb => ⟨(hb.cell (by simpa using olz)).trans v0, (hb.cell (by simpa using olz)).trans v1, (hb.cell (by simpa using olz)).trans v2⟩
        have hB0 : Hid (∀ u : World, CS wz.heap.size (.slice none 0 0) [] u) := Lib.hid (fun u => cs_nil wz.heap.size u)
        have hlow := hKz.out.low
        have hle := hKz.out.le
        have hn20 : ∀ m : Nat, m ≤ 8 → k + 1 + m ≤ 1099511627776 := by intro m h; omega
        clear v0 v1 v2 o0
        obtain ⟨wd, hwd⟩ : ∃ wd, wz.drew = wd := ⟨_, rfl⟩
        have hbd : Below wz.heap.size wz wd := by rw [← hwd]; exact (Below.refl wz.heap.size wz).grown (grown_drew wz none) (Nat.le_refl _) (fun k e => by cases e)
        have hsd : wz.heap.size ≤ wd.heap.size := hbd.size
        have hpd := Lib.hid (hpre.out.mono (sub_of_below hbd))
        have hbx := hbox.out wd hbd
        replace hbd := Lib.hid hbd
        refine wp_region_held_drew (S := KC cx ck) (by kernel_rfl) (by rw [hwd]; exact hbx) (fun hHeld => ?_)
        rw [hwd]
        clear hwd
        refine wpAnyH_take (i := 0) (oi := ?oi1) (v := ?v1) ?ho1 (by kernel_rfl) (by kernel_rfl) (by kernel_rfl) ?hp1 (Or.inl ⟨?hw1, ?hy1⟩) (by assumption) ?rest1
        case ho1 => simp only [List.getElem?_toArray, List.getElem?_cons_zero]; rfl
        case hp1 => exact fun _ _ _ h => h
        case hw1 => rfl
        case hy1 =>
          intro W hSw
          go_simp
          try exact rfl
        simp only [Act.put, List.setIfInBounds_toArray, List.set_cons_zero, List.set_cons_succ]
        refine wpAnyH_take (i := 1) (oi := ?oi2) (v := ?v2) ?ho2 (by kernel_rfl) (by kernel_rfl) (by kernel_rfl) ?hp2 (Or.inl ⟨?hw2, ?hy2⟩) (by assumption) ?rest2
        case ho2 => simp only [List.getElem?_toArray, List.getElem?_cons_succ, List.getElem?_cons_zero]; rfl
        case hp2 => exact fun _ _ _ h => h
        case hw2 => rfl
        case hy2 =>
          intro W hSw
          go_simp
          try exact rfl
        simp only [Act.put, List.setIfInBounds_toArray, List.set_cons_zero, List.set_cons_succ]
        refine wpAnyH_take (i := 2) (oi := ?oi3) (v := ?v3) ?ho3 (by kernel_rfl) (by kernel_rfl) (by kernel_rfl) ?hp3 (Or.inl ⟨?hw3, ?hy3⟩) (by assumption) ?rest3
        case ho3 => simp only [List.getElem?_toArray, List.getElem?_cons_succ, List.getElem?_cons_zero]; rfl
        case hp3 => exact fun _ _ _ h => h
        case hw3 => rfl
        case hy3 =>
          intro W hSw
          go_simp
          try exact rfl
        simp only [Act.put, List.setIfInBounds_toArray, List.set_cons_zero, List.set_cons_succ]
        refine wpAnyH_take (i := 7) (oi := ?oi4) (v := ?v4) ?ho4 (by kernel_rfl) (by kernel_rfl) (by kernel_rfl) ?hp4 (Or.inl ⟨?hw4, ?hy4⟩) (by assumption) ?rest4
        case ho4 => simp only [List.getElem?_toArray, List.getElem?_cons_succ, List.getElem?_cons_zero]; rfl
        case hp4 => exact fun _ _ _ h => h
        case hw4 => rfl
        case hy4 =>
          intro W hSw
          go_simp
          try exact rfl
        simp only [Act.put, List.setIfInBounds_toArray, List.set_cons_zero, List.set_cons_succ]
        refine wpAnyH_take (i := 8) (oi := ?oi5) (v := ?v5) ?ho5 (by kernel_rfl) (by kernel_rfl) (by kernel_rfl) ?hp5 (Or.inl ⟨?hw5, ?hy5⟩) (by assumption) ?rest5
        case ho5 => simp only [List.getElem?_toArray, List.getElem?_cons_succ, List.getElem?_cons_zero]; rfl
        case hp5 => exact fun _ _ _ h => h
        case hw5 => rfl
        case hy5 =>
          intro W hSw
          go_simp
          try exact rfl
        simp only [Act.put, List.setIfInBounds_toArray, List.set_cons_zero, List.set_cons_succ]
        refine wpAnyH_take (i := 9) (oi := ?oi6) (v := ?v6) ?ho6 (by kernel_rfl) (by kernel_rfl) (by kernel_rfl) ?hp6 (Or.inl ⟨?hw6, ?hy6⟩) (by assumption) ?rest6
        case ho6 => simp only [List.getElem?_toArray, List.getElem?_cons_succ, List.getElem?_cons_zero]; rfl
        case hp6 => exact fun _ _ _ h => h
        case hw6 => rfl
        case hy6 =>
          intro W hSw
          go_simp
          try exact rfl
        simp only [Act.put, List.setIfInBounds_toArray, List.set_cons_zero, List.set_cons_succ]
        refine wpAnyH_take (i := 4) (oi := ?oi7) (v := ?v7) ?ho7 (by kernel_rfl) (by kernel_rfl) (by kernel_rfl) ?hp7 (Or.inl ⟨?hw7, ?hy7⟩) (by assumption) ?rest7
        case ho7 => simp only [List.getElem?_toArray, List.getElem?_cons_succ, List.getElem?_cons_zero]; rfl
        case hp7 => exact fun _ _ _ h => h
        case hw7 => rfl
        case hy7 =>
          intro W hSw
          obtain ⟨v0, v1, v2⟩ := hSw
          go_simp
          try exact rfl
        simp only [Act.put, List.setIfInBounds_toArray, List.set_cons_zero, List.set_cons_succ]
        refine wpAnyH_ready (rs := [3, 5]) (by kernel_rfl) (by simp) ?_
        refine AllReadyH.cons rfl (fun K hK => ?_) (AllReadyH.cons rfl (fun K hK => ?_) AllReadyH.nil)
        · refine step_append_cs (by rfl) _ _ (by rfl) wz.heap.size none 0 0 [] (by rfl) (hB0.out _) (by rfl) va k vc (L.take k) (by rfl) hpd.out (by omega) hsd ?_
          intro va3 vc3 w8 hB8 hn8 hb8 hg8
          rw [Nat.zero_add, List.nil_append] at hB8
          rw [Nat.zero_add]
          have hBx8 := Lib.hid (hbd.out.trans hb8)
          have hs8 := hBx8.out.size
          replace hB8 := Lib.hid hB8
          replace hg8 := Lib.hid hg8
          clear hn8 hb8
          refine hK.out _ _ (hbox.out _ hBx8.out) (fun hHeld => ?_)
          clear hK K
          try simp only [List.getElem_toArray, List.getElem_cons_succ, List.getElem_cons_zero, Act.put, List.setIfInBounds_toArray, List.set_cons_zero, List.set_cons_succ]
          refine wpAnyH_ready (rs := [5]) (by kernel_rfl) (by simp) ?_
          refine AllReadyH.cons rfl (fun K hK => ?_) AllReadyH.nil
          go_simp
          refine hK.out _ _ (hbox.out _ (hBx8.out.alloc hs8 _)) (fun hHeld => ?_)
          clear hK K
          try simp only [List.getElem_toArray, List.getElem_cons_succ, List.getElem_cons_zero, Act.put, List.setIfInBounds_toArray, List.set_cons_zero, List.set_cons_succ]
          refine wpAnyH_ready (rs := [6]) (by kernel_rfl) (by simp) ?_
          refine AllReadyH.cons rfl (fun K hK => ?_) AllReadyH.nil
          refine step_append_cs (by rfl) _ _ (by rfl) wz.heap.size va3 k vc3 (L.take k) (by rfl) (hB8.out.below ((Below.refl w8.heap.size w8).alloc (Nat.le_refl _) _)) htk.out.symm _ 1 1 [ck] (by rfl) (row_ctx (d := ck) (Own.new w8 _ _)) (by omega) (by simp; omega) ?_
          intro va4 vc4 w9 hB9 hn9 hb9 hg9
          have hBx9 := Lib.hid ((hBx8.out.alloc hs8 (.cells #[.string ck.kind, .string ck.key, .slice ck.ptr ck.len ck.cap] 41)).trans hb9)
          have hs9 := hBx9.out.size
          replace hB9 := Lib.hid hB9
          replace hn9 := Lib.hid hn9
          clear hb9 hg9
          refine hK.out _ _ (hbox.out _ hBx9.out) (fun hHeld => ?_)
          clear hK K
          try simp only [List.getElem_toArray, List.getElem_cons_succ, List.getElem_cons_zero, Act.put, List.setIfInBounds_toArray, List.set_cons_zero, List.set_cons_succ]
          refine wpAnyH_ready (rs := [10]) (by kernel_rfl) (by simp) ?_
          refine AllReadyH.cons rfl (fun K hK => ?_) AllReadyH.nil
          refine step_append_cs (by rfl) _ _ (by rfl) wz.heap.size va4 (k + 1) vc4 (L.take k ++ [ck]) (by rfl) hB9.out hn9.out _ _ _ (L.drop k) (by rfl) (hrz.out.mono (sub_of_below hBx9.out)) (hn20 _ (by omega)) hs9 ?_
          intro va5 vc5 w10 hB10 hn10 hb10 hg10
          have hBx10 := Lib.hid (hBx9.out.trans hb10)
          replace hB10 := Lib.hid hB10
          clear hn10 hb10 hg10
          refine hK.out _ _ (hbox.out _ hBx10.out) (fun hHeld => ?_)
          clear hK K
          try simp only [List.getElem_toArray, List.getElem_cons_succ, List.getElem_cons_zero, Act.put, List.setIfInBounds_toArray, List.set_cons_zero, List.set_cons_succ]
          refine wpAnyH_take (i := 11) (oi := ?oi8) (v := ?v8) ?ho8 (by kernel_rfl) (by kernel_rfl) (by kernel_rfl) ?hp8 (Or.inl ⟨?hw8, ?hy8⟩) (by assumption) ?rest8
          case ho8 => simp only [List.getElem?_toArray, List.getElem?_cons_succ, List.getElem?_cons_zero]; rfl
          case hp8 => exact fun _ _ _ h => h
          case hw8 => rfl
          case hy8 =>
            intro W hSw
            go_simp
            try exact rfl
          simp only [Act.put, List.setIfInBounds_toArray, List.set_cons_zero, List.set_cons_succ]
          have hNx := Lib.hid (hnext.out _ w10 hKz.out k wz.heap.size _ (hKz.out.x.call hBx10.out) (by have h := hB10.out; rw [List.append_assoc] at h; exact h) (by omega) hBx10.out.size hbef.out hst.out)
          clear hpre htk hbox hB0 hrz hB10 hBx10 hBx9 hB9 hB8 hBx8
          refine wpAnyH_done (by kernel_rfl) ?_ _
          go_wp2
          go_roundw
          case rel => exact ⟨i + 1, _, _, by omega, by go_num, hNx⟩
          case measure => simp [intOf]; omega
        · go_simp
          refine hK.out _ _ (hbox.out _ (hbd.out.alloc hsd _)) (fun hHeld => ?_)
          clear hK K
          try simp only [List.getElem_toArray, List.getElem_cons_succ, List.getElem_cons_zero, Act.put, List.setIfInBounds_toArray, List.set_cons_zero, List.set_cons_succ]
          refine wpAnyH_ready (rs := [3]) (by kernel_rfl) (by simp) ?_
          refine AllReadyH.cons rfl (fun K hK => ?_) AllReadyH.nil
          refine step_append_cs (by rfl) _ _ (by rfl) wz.heap.size none 0 0 [] (by rfl) (hB0.out _) (by rfl) va k vc (L.take k) (by rfl) (hpd.out.mono (sub_of_below ((Below.refl wd.heap.size wd).alloc (Nat.le_refl _) _))) (by omega) (by simp; omega) ?_
          intro va3 vc3 w8 hB8 hn8 hb8 hg8
          rw [Nat.zero_add, List.nil_append] at hB8
          rw [Nat.zero_add]
          have hBx8 := Lib.hid ((hbd.out.alloc hsd (.cells #[.string ck.kind, .string ck.key, .slice ck.ptr ck.len ck.cap] 41)).trans hb8)
          have hs8 := hBx8.out.size
          replace hB8 := Lib.hid hB8
          replace hg8 := Lib.hid hg8
          clear hn8 hb8
          refine hK.out _ _ (hbox.out _ hBx8.out) (fun hHeld => ?_)
          clear hK K
          try simp only [List.getElem_toArray, List.getElem_cons_succ, List.getElem_cons_zero, Act.put, List.setIfInBounds_toArray, List.set_cons_zero, List.set_cons_succ]
          refine wpAnyH_ready (rs := [6]) (by kernel_rfl) (by simp) ?_
          refine AllReadyH.cons rfl (fun K hK => ?_) AllReadyH.nil
          refine step_append_cs (by rfl) _ _ (by rfl) wz.heap.size va3 k vc3 (L.take k) (by rfl) hB8.out htk.out.symm _ 1 1 [ck] (by rfl) (row_ctx (d := ck) ((Own.new wd _ _).kept hg8.out (by simp [Value.ownBlock]))) (by omega) hs8 ?_
          intro va4 vc4 w9 hB9 hn9 hb9 hg9
          have hBx9 := Lib.hid (hBx8.out.trans hb9)
          have hs9 := hBx9.out.size
          replace hB9 := Lib.hid hB9
          replace hn9 := Lib.hid hn9
          clear hb9 hg9
          refine hK.out _ _ (hbox.out _ hBx9.out) (fun hHeld => ?_)
          clear hK K
          try simp only [List.getElem_toArray, List.getElem_cons_succ, List.getElem_cons_zero, Act.put, List.setIfInBounds_toArray, List.set_cons_zero, List.set_cons_succ]
          refine wpAnyH_ready (rs := [10]) (by kernel_rfl) (by simp) ?_
          refine AllReadyH.cons rfl (fun K hK => ?_) AllReadyH.nil
          refine step_append_cs (by rfl) _ _ (by rfl) wz.heap.size va4 (k + 1) vc4 (L.take k ++ [ck]) (by rfl) hB9.out hn9.out _ _ _ (L.drop k) (by rfl) (hrz.out.mono (sub_of_below hBx9.out)) (hn20 _ (by omega)) hs9 ?_
          intro va5 vc5 w10 hB10 hn10 hb10 hg10
          have hBx10 := Lib.hid (hBx9.out.trans hb10)
          replace hB10 := Lib.hid hB10
          clear hn10 hb10 hg10
          refine hK.out _ _ (hbox.out _ hBx10.out) (fun hHeld => ?_)
          clear hK K
          try simp only [List.getElem_toArray, List.getElem_cons_succ, List.getElem_cons_zero, Act.put, List.setIfInBounds_toArray, List.set_cons_zero, List.set_cons_succ]
          refine wpAnyH_take (i := 11) (oi := ?oi9) (v := ?v9) ?ho9 (by kernel_rfl) (by kernel_rfl) (by kernel_rfl) ?hp9 (Or.inl ⟨?hw9, ?hy9⟩) (by assumption) ?rest9
          case ho9 => simp only [List.getElem?_toArray, List.getElem?_cons_succ, List.getElem?_cons_zero]; rfl
          case hp9 => exact fun _ _ _ h => h
          case hw9 => rfl
          case hy9 =>
            intro W hSw
            go_simp
            try exact rfl
          simp only [Act.put, List.setIfInBounds_toArray, List.set_cons_zero, List.set_cons_succ]
          have hNx := Lib.hid (hnext.out _ w10 hKz.out k wz.heap.size _ (hKz.out.x.call hBx10.out) (by have h := hB10.out; rw [List.append_assoc] at h; exact h) (by omega) hBx10.out.size hbef.out hst.out)
          clear hpre htk hbox hB0 hrz hB10 hBx10 hBx9 hB9 hB8 hBx8
          refine wpAnyH_done (by kernel_rfl) ?_ _
          go_wp2
          go_roundw
          case rel => exact ⟨i + 1, _, _, by omega, by go_num, hNx⟩
          case measure => simp [intOf]; omega
      case neg =>
        have hkd : decide ((k : Int) < (L.length : Int)) = false := by simp; omega
        have hst := Lib.hid (show StopK ck L k from fun h => absurd h hka)
        have hrest := Lib.hid (rows_from hRq.out (k := k) (by rw [List.length_map]; exact hk))
        rw [← List.map_drop] at hrest
        replace hvc := Lib.hid hvc
        go_wp2_with fail
        go_quiet (fail)
        generalize hqw9 : World.drewN wr _ = w9
        have hbw9 : Below wr.heap.size wr w9 := by rw [← hqw9]; exact (Below.refl wr.heap.size wr).grown (grown_drewN wr _ none) (Nat.le_refl _) (fun k e => by cases e)
        clear hqw9
        go_wp2_with fail
        go_quiet (fail)
        generalize hqw10 : World.drewN w9 _ = w10
        have hbw10 : Below w9.heap.size w9 w10 := by rw [← hqw10]; exact (Below.refl w9.heap.size w9).grown (grown_drewN w9 _ none) (Nat.le_refl _) (fun k e => by cases e)
        clear hqw10
        go_upto_region 17 with fail
        clear hka
        obtain ⟨wz, hwz⟩ : ∃ z, z = w10 := ⟨_, rfl⟩
        rw [← hwz] at hbw10 ⊢
        clear hwz
        have hbz : Below wr.heap.size wr wz := hbw9.trans (hbw10.mono hbw9.size)
        have hKz := Lib.hid (hKq.out.call hbz)
        have hOz := hOq.out.below hbz ol
        have hRz := Lib.hid hKz.out.row.rows
        have hrz := Lib.hid (hrest.out.mono (sub_of_below hbz))
        have olz := hOz.lt
        clear hbw9 hbw10 hbz hrest hRq hKq hOq ol hb
        have hpre := rows_take hRz.out (k := k) (by rw [List.length_map]; exact hk)
        rw [← List.map_take] at hpre
        have htk : (L.take k).length = k := by rw [List.length_take]; omega
        have v0 := hOz.cell 0
        have v1 := hOz.cell 1
        have v2 := hOz.cell 2
        simp only [List.getElem?_toArray, List.getElem?_cons_zero, List.getElem?_cons_succ] at v0 v1 v2
        replace hpre := Lib.hid hpre
        replace htk := Lib.hid htk
        have hbox : Hid (∀ W : World, Below wz.heap.size wz W → KC cx ck W) := Lib.hid fun W hb => ⟨(hb.cell (by simpa using olz)).trans v0, (hb.cell (by simpa using olz)).trans v1, (hb.cell (by simpa using olz)).trans v2⟩
        have hB0 : Hid (∀ u : World, CS wz.heap.size (.slice none 0 0) [] u) := Lib.hid (fun u => cs_nil wz.heap.size u)
        have hlow := hKz.out.low
        have hle := hKz.out.le
        have hn20 : ∀ m : Nat, m ≤ 8 → k + 1 + m ≤ 1099511627776 := by intro m h; omega
        clear v0 v1 v2 o0
        obtain ⟨wd, hwd⟩ : ∃ wd, wz.drew = wd := ⟨_, rfl⟩
        have hbd : Below wz.heap.size wz wd := by rw [← hwd]; exact (Below.refl wz.heap.size wz).grown (grown_drew wz none) (Nat.le_refl _) (fun k e => by cases e)
        have hsd : wz.heap.size ≤ wd.heap.size := hbd.size
        have hpd := Lib.hid (hpre.out.mono (sub_of_below hbd))
        have hbx := hbox.out wd hbd
        replace hbd := Lib.hid hbd
        refine wp_region_held_drew (S := KC cx ck) (by kernel_rfl) (by rw [hwd]; exact hbx) (fun hHeld => ?_)
        rw [hwd]
        clear hwd
        refine wpAnyH_take (i := 0) (oi := ?oi10) (v := ?v10) ?ho10 (by kernel_rfl) (by kernel_rfl) (by kernel_rfl) ?hp10 (Or.inl ⟨?hw10, ?hy10⟩) (by assumption) ?rest10
        case ho10 => simp only [List.getElem?_toArray, List.getElem?_cons_zero]; rfl
        case hp10 => exact fun _ _ _ h => h
        case hw10 => rfl
        case hy10 =>
          intro W hSw
          go_simp
          try exact rfl
        simp only [Act.put, List.setIfInBounds_toArray, List.set_cons_zero, List.set_cons_succ]
        refine wpAnyH_take (i := 1) (oi := ?oi11) (v := ?v11) ?ho11 (by kernel_rfl) (by kernel_rfl) (by kernel_rfl) ?hp11 (Or.inl ⟨?hw11, ?hy11⟩) (by assumption) ?rest11
        case ho11 => simp only [List.getElem?_toArray, List.getElem?_cons_succ, List.getElem?_cons_zero]; rfl
        case hp11 => exact fun _ _ _ h => h
        case hw11 => rfl
        case hy11 =>
          intro W hSw
          go_simp
          try exact rfl
        simp only [Act.put, List.setIfInBounds_toArray, List.set_cons_zero, List.set_cons_succ]
        refine wpAnyH_take (i := 2) (oi := ?oi12) (v := ?v12) ?ho12 (by kernel_rfl) (by kernel_rfl) (by kernel_rfl) ?hp12 (Or.inl ⟨?hw12, ?hy12⟩) (by assumption) ?rest12
        case ho12 => simp only [List.getElem?_toArray, List.getElem?_cons_succ, List.getElem?_cons_zero]; rfl
        case hp12 => exact fun _ _ _ h => h
        case hw12 => rfl
        case hy12 =>
          intro W hSw
          go_simp
          try exact rfl
        simp only [Act.put, List.setIfInBounds_toArray, List.set_cons_zero, List.set_cons_succ]
        refine wpAnyH_take (i := 7) (oi := ?oi13) (v := ?v13) ?ho13 (by kernel_rfl) (by kernel_rfl) (by kernel_rfl) ?hp13 (Or.inl ⟨?hw13, ?hy13⟩) (by assumption) ?rest13
        case ho13 => simp only [List.getElem?_toArray, List.getElem?_cons_succ, List.getElem?_cons_zero]; rfl
        case hp13 => exact fun _ _ _ h => h
        case hw13 => rfl
        case hy13 =>
          intro W hSw
          go_simp
          try exact rfl
        simp only [Act.put, List.setIfInBounds_toArray, List.set_cons_zero, List.set_cons_succ]
        refine wpAnyH_take (i := 8) (oi := ?oi14) (v := ?v14) ?ho14 (by kernel_rfl) (by kernel_rfl) (by kernel_rfl) ?hp14 (Or.inl ⟨?hw14, ?hy14⟩) (by assumption) ?rest14
        case ho14 => simp only [List.getElem?_toArray, List.getElem?_cons_succ, List.getElem?_cons_zero]; rfl
        case hp14 => exact fun _ _ _ h => h
        case hw14 => rfl
        case hy14 =>
          intro W hSw
          go_simp
          try exact rfl
        simp only [Act.put, List.setIfInBounds_toArray, List.set_cons_zero, List.set_cons_succ]
        refine wpAnyH_take (i := 9) (oi := ?oi15) (v := ?v15) ?ho15 (by kernel_rfl) (by kernel_rfl) (by kernel_rfl) ?hp15 (Or.inl ⟨?hw15, ?hy15⟩) (by assumption) ?rest15
        case ho15 => simp only [List.getElem?_toArray, List.getElem?_cons_succ, List.getElem?_cons_zero]; rfl
        case hp15 => exact fun _ _ _ h => h
        case hw15 => rfl
        case hy15 =>
          intro W hSw
          go_simp
          try exact rfl
        simp only [Act.put, List.setIfInBounds_toArray, List.set_cons_zero, List.set_cons_succ]
        refine wpAnyH_take (i := 4) (oi := ?oi16) (v := ?v16) ?ho16 (by kernel_rfl) (by kernel_rfl) (by kernel_rfl) ?hp16 (Or.inl ⟨?hw16, ?hy16⟩) (by assumption) ?rest16
        case ho16 => simp only [List.getElem?_toArray, List.getElem?_cons_succ, List.getElem?_cons_zero]; rfl
        case hp16 => exact fun _ _ _ h => h
        case hw16 => rfl
        case hy16 =>
          intro W hSw
          obtain ⟨v0, v1, v2⟩ := hSw
          go_simp
          try exact rfl
        simp only [Act.put, List.setIfInBounds_toArray, List.set_cons_zero, List.set_cons_succ]
        refine wpAnyH_ready (rs := [3, 5]) (by kernel_rfl) (by simp) ?_
        refine AllReadyH.cons rfl (fun K hK => ?_) (AllReadyH.cons rfl (fun K hK => ?_) AllReadyH.nil)
        · refine step_append_cs (by rfl) _ _ (by rfl) wz.heap.size none 0 0 [] (by rfl) (hB0.out _) (by rfl) va k vc (L.take k) (by rfl) hpd.out (by omega) hsd ?_
          intro va3 vc3 w8 hB8 hn8 hb8 hg8
          rw [Nat.zero_add, List.nil_append] at hB8
          rw [Nat.zero_add]
          have hBx8 := Lib.hid (hbd.out.trans hb8)
          have hs8 := hBx8.out.size
          replace hB8 := Lib.hid hB8
          replace hg8 := Lib.hid hg8
          clear hn8 hb8
          refine hK.out _ _ (hbox.out _ hBx8.out) (fun hHeld => ?_)
          clear hK K
          try simp only [List.getElem_toArray, List.getElem_cons_succ, List.getElem_cons_zero, Act.put, List.setIfInBounds_toArray, List.set_cons_zero, List.set_cons_succ]
          refine wpAnyH_ready (rs := [5]) (by kernel_rfl) (by simp) ?_
          refine AllReadyH.cons rfl (fun K hK => ?_) AllReadyH.nil
          go_simp
          refine hK.out _ _ (hbox.out _ (hBx8.out.alloc hs8 _)) (fun hHeld => ?_)
          clear hK K
          try simp only [List.getElem_toArray, List.getElem_cons_succ, List.getElem_cons_zero, Act.put, List.setIfInBounds_toArray, List.set_cons_zero, List.set_cons_succ]
          refine wpAnyH_ready (rs := [6]) (by kernel_rfl) (by simp) ?_
          refine AllReadyH.cons rfl (fun K hK => ?_) AllReadyH.nil
          refine step_append_cs (by rfl) _ _ (by rfl) wz.heap.size va3 k vc3 (L.take k) (by rfl) (hB8.out.below ((Below.refl w8.heap.size w8).alloc (Nat.le_refl _) _)) htk.out.symm _ 1 1 [ck] (by rfl) (row_ctx (d := ck) (Own.new w8 _ _)) (by omega) (by simp; omega) ?_
          intro va4 vc4 w9 hB9 hn9 hb9 hg9
          have hBx9 := Lib.hid ((hBx8.out.alloc hs8 (.cells #[.string ck.kind, .string ck.key, .slice ck.ptr ck.len ck.cap] 41)).trans hb9)
          have hs9 := hBx9.out.size
          replace hB9 := Lib.hid hB9
          replace hn9 := Lib.hid hn9
          clear hb9 hg9
          refine hK.out _ _ (hbox.out _ hBx9.out) (fun hHeld => ?_)
          clear hK K
          try simp only [List.getElem_toArray, List.getElem_cons_succ, List.getElem_cons_zero, Act.put, List.setIfInBounds_toArray, List.set_cons_zero, List.set_cons_succ]
          refine wpAnyH_ready (rs := [10]) (by kernel_rfl) (by simp) ?_
          refine AllReadyH.cons rfl (fun K hK => ?_) AllReadyH.nil
          refine step_append_cs (by rfl) _ _ (by rfl) wz.heap.size va4 (k + 1) vc4 (L.take k ++ [ck]) (by rfl) hB9.out hn9.out _ _ _ (L.drop k) (by rfl) (hrz.out.mono (sub_of_below hBx9.out)) (hn20 _ (by omega)) hs9 ?_
          intro va5 vc5 w10 hB10 hn10 hb10 hg10
          have hBx10 := Lib.hid (hBx9.out.trans hb10)
          replace hB10 := Lib.hid hB10
          clear hn10 hb10 hg10
          refine hK.out _ _ (hbox.out _ hBx10.out) (fun hHeld => ?_)
          clear hK K
          try simp only [List.getElem_toArray, List.getElem_cons_succ, List.getElem_cons_zero, Act.put, List.setIfInBounds_toArray, List.set_cons_zero, List.set_cons_succ]
          refine wpAnyH_take (i := 11) (oi := ?oi17) (v := ?v17) ?ho17 (by kernel_rfl) (by kernel_rfl) (by kernel_rfl) ?hp17 (Or.inl ⟨?hw17, ?hy17⟩) (by assumption) ?rest17
          case ho17 => simp only [List.getElem?_toArray, List.getElem?_cons_succ, List.getElem?_cons_zero]; rfl
          case hp17 => exact fun _ _ _ h => h
          case hw17 => rfl
          case hy17 =>
            intro W hSw
            go_simp
            try exact rfl
          simp only [Act.put, List.setIfInBounds_toArray, List.set_cons_zero, List.set_cons_succ]
          have hNx := Lib.hid (hnext.out _ w10 hKz.out k wz.heap.size _ (hKz.out.x.call hBx10.out) (by have h := hB10.out; rw [List.append_assoc] at h; exact h) (by omega) hBx10.out.size hbef.out hst.out)
          clear hpre htk hbox hB0 hrz hB10 hBx10 hBx9 hB9 hB8 hBx8
          refine wpAnyH_done (by kernel_rfl) ?_ _
          go_wp2
          go_roundw
          case rel => exact ⟨i + 1, _, _, by omega, by go_num, hNx⟩
          case measure => simp [intOf]; omega
        · go_simp
          refine hK.out _ _ (hbox.out _ (hbd.out.alloc hsd _)) (fun hHeld => ?_)
          clear hK K
          try simp only [List.getElem_toArray, List.getElem_cons_succ, List.getElem_cons_zero, Act.put, List.setIfInBounds_toArray, List.set_cons_zero, List.set_cons_succ]
          refine wpAnyH_ready (rs := [3]) (by kernel_rfl) (by simp) ?_
          refine AllReadyH.cons rfl (fun K hK => ?_) AllReadyH.nil
          refine step_append_cs (by rfl) _ _ (by rfl) wz.heap.size none 0 0 [] (by rfl) (hB0.out _) (by rfl) va k vc (L.take k) (by rfl) (hpd.out.mono (sub_of_below ((Below.refl wd.heap.size wd).alloc (Nat.le_refl _) _))) (by omega) (by simp; omega) ?_
          intro va3 vc3 w8 hB8 hn8 hb8 hg8
          rw [Nat.zero_add, List.nil_append] at hB8
          rw [Nat.zero_add]
          have hBx8 := Lib.hid ((hbd.out.alloc hsd (.cells #[.string ck.kind, .string ck.key, .slice ck.ptr ck.len ck.cap] 41)).trans hb8)
          have hs8 := hBx8.out.size
          replace hB8 := Lib.hid hB8
          replace hg8 := Lib.hid hg8
          clear hn8 hb8
          refine hK.out _ _ (hbox.out _ hBx8.out) (fun hHeld => ?_)
          clear hK K
          try simp only [List.getElem_toArray, List.getElem_cons_succ, List.getElem_cons_zero, Act.put, List.setIfInBounds_toArray, List.set_cons_zero, List.set_cons_succ]
          refine wpAnyH_ready (rs := [6]) (by kernel_rfl) (by simp) ?_
          refine AllReadyH.cons rfl (fun K hK => ?_) AllReadyH.nil
          refine step_append_cs (by rfl) _ _ (by rfl) wz.heap.size va3 k vc3 (L.take k) (by rfl) hB8.out htk.out.symm _ 1 1 [ck] (by rfl) (row_ctx (d := ck) ((Own.new wd _ _).kept hg8.out (by simp [Value.ownBlock]))) (by omega) hs8 ?_
          intro va4 vc4 w9 hB9 hn9 hb9 hg9
          have hBx9 := Lib.hid (hBx8.out.trans hb9)
          have hs9 := hBx9.out.size
          replace hB9 := Lib.hid hB9
          replace hn9 := Lib.hid hn9
          clear hb9 hg9
          refine hK.out _ _ (hbox.out _ hBx9.out) (fun hHeld => ?_)
          clear hK K
          try simp only [List.getElem_toArray, List.getElem_cons_succ, List.getElem_cons_zero, Act.put, List.setIfInBounds_toArray, List.set_cons_zero, List.set_cons_succ]
          refine wpAnyH_ready (rs := [10]) (by kernel_rfl) (by simp) ?_
          refine AllReadyH.cons rfl (fun K hK => ?_) AllReadyH.nil
          refine step_append_cs (by rfl) _ _ (by rfl) wz.heap.size va4 (k + 1) vc4 (L.take k ++ [ck]) (by rfl) hB9.out hn9.out _ _ _ (L.drop k) (by rfl) (hrz.out.mono (sub_of_below hBx9.out)) (hn20 _ (by omega)) hs9 ?_
          intro va5 vc5 w10 hB10 hn10 hb10 hg10
          have hBx10 := Lib.hid (hBx9.out.trans hb10)
          replace hB10 := Lib.hid hB10
          clear hn10 hb10 hg10
          refine hK.out _ _ (hbox.out _ hBx10.out) (fun hHeld => ?_)
          clear hK K
          try simp only [List.getElem_toArray, List.getElem_cons_succ, List.getElem_cons_zero, Act.put, List.setIfInBounds_toArray, List.set_cons_zero, List.set_cons_succ]
          refine wpAnyH_take (i := 11) (oi := ?oi18) (v := ?v18) ?ho18 (by kernel_rfl) (by kernel_rfl) (by kernel_rfl) ?hp18 (Or.inl ⟨?hw18, ?hy18⟩) (by assumption) ?rest18
          case ho18 => simp only [List.getElem?_toArray, List.getElem?_cons_succ, List.getElem?_cons_zero]; rfl
          case hp18 => exact fun _ _ _ h => h
          case hw18 => rfl
          case hy18 =>
            intro W hSw
            go_simp
            try exact rfl
          simp only [Act.put, List.setIfInBounds_toArray, List.set_cons_zero, List.set_cons_succ]
          have hNx := Lib.hid (hnext.out _ w10 hKz.out k wz.heap.size _ (hKz.out.x.call hBx10.out) (by have h := hB10.out; rw [List.append_assoc] at h; exact h) (by omega) hBx10.out.size hbef.out hst.out)
          clear hpre htk hbox hB0 hrz hB10 hBx10 hBx9 hB9 hB8 hBx8
          refine wpAnyH_done (by kernel_rfl) ?_ _
          go_wp2
          go_roundw
          case rel => exact ⟨i + 1, _, _, by omega, by go_num, hNx⟩
          case measure => simp [intOf]; omega

end Go.Proofs.YtkglejfkfeahcaaGreatDoor.subj

