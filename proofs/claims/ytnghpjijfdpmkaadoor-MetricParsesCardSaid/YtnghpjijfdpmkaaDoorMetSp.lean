/- Bytes of the call's own: a part of them, one of them changed. -/
import Derived.Test.YtnghpjijfdpmkaaDoorMetTx
namespace Go.Proofs.YtnghpjijfdpmkaaDoor.metric
open Go.RowKit Go.Proofs.YtnghpjijfdpmkaaDoor Go.Proofs.YtnghpjijfdpmkaaDoor.text

theorem BS.take {B : Nat} {a : Option Addr} {n c k : Nat} {l : List UInt8} {w : World} (h : BS B (.slice a n c) l w) (hk : k ≤ l.length) : BS B (.slice a k c) (l.take k) w := by
  have ho := h.out
  refine ⟨by simp [Lib.byteCells], ?_⟩
  rcases ho.2 with ⟨h1, h2⟩ | ⟨g, cap, cur, h1, h2, h3, h4, h5, h6, h7⟩
  · injection h1 with e1 e2 e3
    subst e1; subst e2; subst e3
    exact Or.inl ⟨by rw [show k = 0 by omega], by rw [List.length_take]; omega⟩
  · injection h1 with e1 e2 e3
    subst e1; subst e3
    refine Or.inr ⟨g, c, cur, by rw [List.length_take, Nat.min_eq_left hk], h2, h3, by rw [List.length_take]; omega, h5, h6, ?_⟩
    rw [List.length_take, Nat.min_eq_left hk]
    have h8 := congrArg (List.take k) h7
    rw [List.take_take, Nat.min_eq_left (by omega)] at h8
    rw [Nat.mul_one, h8]
    simp [Lib.byteCells]

theorem BS.set {B g n c : Nat} {l : List UInt8} {w : World} (h : BS B (.slice (some ⟨g, 0, none⟩) n c) l w) (k : Nat) (u : UInt8) : BS B (.slice (some ⟨g, 0, none⟩) n c) (l.set k u) (w.setCell ⟨g, k, none⟩ (.int .u8 u.toNat)) := by
  have ho := h.out
  refine ⟨by simp [Lib.byteCells], ?_⟩
  rcases ho.2 with ⟨h1, h2⟩ | ⟨g2, cap, cur, h1, h2, h3, h4, h5, h6, h7⟩
  · cases h1
  · injection h1 with e1 e2 e3
    injection e1 with e1
    injection e1 with e1 e4 e5
    subst e1; subst e2; subst e3
    have hO : Own w g cur 5 := h3
    refine Or.inr ⟨g, c, cur.setIfInBounds k (.int .u8 u.toNat), by rw [List.length_set], h2, hO.set k _, by rw [List.length_set]; omega, h5, by rw [Array.size_setIfInBounds]; exact h6, ?_⟩
    rw [List.length_set, Array.toList_setIfInBounds, List.take_set, h7]
    simp [Lib.byteCells, List.map_set]
theorem cells_take {w : World} {ad : Addr} {l : List UInt8} (h : ∀ j u, (Lib.byteCells l)[j]? = some u → w.cell? (ad.add j) = some u) (k : Nat) : ∀ j u, (Lib.byteCells (l.take k))[j]? = some u → w.cell? (ad.add j) = some u := by
  intro j u hj
  refine h j u ?_
  unfold Lib.byteCells at hj ⊢
  rw [List.map_take, List.getElem?_take] at hj
  split at hj
  · exact hj
  · cases hj
theorem cells_drop {w : World} {blk off : Nat} {l : List UInt8} (h : ∀ j u, (Lib.byteCells l)[j]? = some u → w.cell? ((⟨blk, off, none⟩ : Addr).add j) = some u) (d : Nat) : ∀ j u, (Lib.byteCells (l.drop d))[j]? = some u → w.cell? ((⟨blk, off + d, none⟩ : Addr).add j) = some u := by
  intro j u hj
  unfold Lib.byteCells at hj
  rw [List.map_drop, List.getElem?_drop] at hj
  have h1 := h (d + j) u hj
  have e : (⟨blk, off, none⟩ : Addr).add (d + j) = (⟨blk, off + d, none⟩ : Addr).add j := by
    unfold Addr.add; split <;> split <;> simp_all <;> omega
  rw [← e]; exact h1
theorem own_some {w : World} {B n : Nat} {e : TypeId} {v : Value} {xs : List Value} (h : w.ownsRow B e 1 v n xs) (hn : v ≠ .slice none 0 0) : ∃ g cap, v = .slice (some ⟨g, 0, none⟩) n cap ∧ B ≤ g := by
  rcases h.2 with ⟨h1, -⟩ | ⟨g, cap, cur, h1, h2, -⟩
  · exact (hn h1).elim
  · exact ⟨g, cap, h1, h2⟩
theorem bs_joined {B g c n : Nat} {r : List UInt8} {xs : List Value} {w : World} (h : w.ownsRow B 5 1 (.slice (some ⟨g, 0, none⟩) n c) n xs) (hx : xs = Lib.byteCells r) (hn : r.length = n) : BS B (.slice (some ⟨g, 0, none⟩) n c) r w := by
  subst hx; subst hn; exact h
theorem news_one {w : World} {bn : Nat} {cc : Int} {u : UInt8} (h : Own w bn #[.int .u8 cc] 5) (hu : cc = (u.toNat : Int)) : ∀ j v, (Lib.byteCells [u])[j]? = some v → w.cell? ((⟨bn, 0, none⟩ : Addr).add j) = some v := by
  intro j v hv
  match j with
  | 0 => 
    subst hu
    show w.cell? ⟨bn, 0, none⟩ = _
    rw [h.cell 0, ← hv]; rfl
  | j + 1 => simp [Lib.byteCells] at hv
theorem own_lt {w : World} {B n g c : Nat} {e : TypeId} {xs : List Value} (h : w.ownsRow B e 1 (.slice (some ⟨g, 0, none⟩) c n) c xs) : g < w.heap.size := by
  rcases h.2 with ⟨h1, -⟩ | ⟨g2, cap, cur, h1, -, h3, -⟩
  · cases h1
  · injection h1 with e1 e2 e3
    injection e1 with e1
    injection e1 with e1 e4 e5
    subst e1
    exact Own.lt (A := cur) (t := e) h3
theorem own_alloc {w : World} {B n : Nat} {e : TypeId} {v : Value} {xs : List Value} (h : w.ownsRow B e 1 v n xs) (o : Obj) : (w.alloc o).ownsRow B e 1 v n xs := h.alloc o
theorem byte_one (l : List UInt8) : ∀ v ∈ Lib.byteCells l, v.oneCell' = true := by
  intro v hv; simp only [Lib.byteCells, List.mem_map] at hv; obtain ⟨x, -, rfl⟩ := hv; rfl
/-- What a spoilt text is: bytes of the call's own. -/
def Spoilt (w : World) (n : Nat) (e : Ending) (w' : World) : Prop := (∃ v l', e = .returned v ∧ BS w.heap.size v l' w' ∧ l'.length ≤ n + 1) ∧ Below w.heap.size w w'
theorem info_u8 : ∃ i : TypeInfo, Tryd.prog.info? 5 = some i ∧ i.zero = some (.int .u8 0) ∧ i.size = 1 ∧ i.bytes = 1 := info_parts infoByte

set_option maxRecDepth 100000 in
set_option maxHeartbeats 16000000 in
theorem spoil_any (blk off n c : Nat) (l : List UInt8) (at' how cc : Int) (w : World) (hl : l.length = n) (hn : n ≤ 1000) (hn0 : 0 < n) (hnc : n ≤ c) (hcells : ∀ j u, (Lib.byteCells l)[j]? = some u → w.cell? ((⟨blk, off, none⟩ : Addr).add j) = some u)
    (ha0 : 0 ≤ at') (ha1 : at' ≤ 65535) (hh0 : 0 ≤ how) (_hh1 : how ≤ 65535) (hc0 : 0 ≤ cc) (hc1 : cc ≤ 255) :
    Calls Tryd.prog 14 #[.slice (some ⟨blk, off, none⟩) n c, .int .u16 at', .int .u16 how, .int .u8 cc] w (Spoilt w n) := by
  obtain ⟨i0, hi, hz0, hz1, hz2⟩ := info_u8
  have hcells2 := Lib.hid (fun j v hv => Lib.cell?_alloc_some (.cells #[] 5) (hcells j v hv))
  have hbl := Lib.hid (show (Lib.byteCells l).length = n * 1 by simp [Lib.byteCells, hl])
  have hone := Lib.hid (show ∀ v ∈ Lib.byteCells l, v.oneCell' = true by intro v hv; simp only [Lib.byteCells, List.mem_map] at hv; obtain ⟨x, -, rfl⟩ := hv; rfl)
  have hown0 := Lib.hid (World.ownsRow_lit (base := w.heap.size) (e := 5) (size := 1) w #[] 0 (Nat.le_refl _) (by decide) rfl)
  replace hl := Lib.hid hl
  replace hcells := Lib.hid hcells
  go_enter Tryd.func14, Tryd.ntmps14
  go_wp2_with (at_builtin; refine wpList_append_own _ rfl _ _ 22 rfl w.heap.size 5 i0 (.int .u8 0) 1 1 Tryd.underlying22 hi hz0 hz1 hz2 rfl ?g8 _ 0 [] rfl hown0.out ⟨blk, off, none⟩ n c (Lib.byteCells l) rfl hbl.out hcells2.out hone.out ?h63 ?hb ?hbase ?_)
  case h63 => unfold maxLen; omega
  case hb => omega
  intro v1 w2 hown hgrow hnil
  have hB := Lib.hid (((Below.refl w.heap.size w).alloc (Nat.le_refl _) (.cells #[] 5)).grown hgrow (by simp) (fun j hj => by cases hj; exact Nat.le_refl _))
  obtain ⟨g, cap, rfl⟩ : ∃ g cap, v1 = .slice (some ⟨g, 0, none⟩) n cap := by
    rcases hown.2 with ⟨h1, -⟩ | ⟨g, cap, cur, h1, -⟩
    · exact (hnil h1).elim
    · exact ⟨g, cap, h1⟩
  have hb := Lib.hid (show BS w.heap.size (.slice (some ⟨g, 0, none⟩) n cap) l w2 by unfold BS; rw [hl.out]; exact hown)
  have hcap : n ≤ cap := by
    rcases hown.2 with ⟨h1, -⟩ | ⟨g2, cap2, cur, h1, -, -, h4, -⟩
    · cases h1
    · injection h1 with e1 e2 e3; omega
  have hcells3 := Lib.hid (fun j v hv => sub_of_below hB.out _ _ (hcells.out j v hv))
  clear hgrow hnil hown hown0 hcells2
  obtain ⟨u, hu⟩ : ∃ u : UInt8, Hid (cc = (u.toNat : Int)) := ⟨UInt8.ofNat cc.toNat, Lib.hid (by rw [UInt8.toNat_ofNat']; omega)⟩
  obtain ⟨cur, hcur⟩ : ∃ cur, Hid (Own w2 g cur 5 ∧ cur.size = cap) := by
    rcases hb.out.out.2 with ⟨h1, -⟩ | ⟨g2, cap2, cur, h1, -, h3, h4, -, h6, -⟩
    · cases h1
    · injection h1 with e1 e2 e3
      injection e1 with e1
      injection e1 with e1 e4 e5
      subst e1; subst e3
      exact ⟨cur, Lib.hid ⟨h3, by omega⟩⟩
  have hgB : w.heap.size ≤ g := by
    rcases hb.out.out.2 with ⟨h1, -⟩ | ⟨g2, cap2, cur2, h1, h2, -⟩
    · cases h1
    · injection h1 with e1 e2 e3
      injection e1 with e1
      injection e1 with e1 e4 e5
      omega
  have hlen := Lib.hid (show l.length ≤ n + 1 by rw [hl.out]; omega)
  obtain ⟨r, hr, hr5⟩ : ∃ r : Nat, Hid ((r : Int) = how % 5) ∧ r < 5 := ⟨(how % 5).toNat, Lib.hid (by omega), by omega⟩
  have hr1 : how.tmod 5 = (r : Int) := by rw [Int.tmod_eq_emod_of_nonneg hh0]; exact hr.out.symm
  have hr2 : how % 5 = (r : Int) := hr.out.symm
  · have hnI : (0 : Int) < (n : Int) := by omega
    have hn1 : (n : Int) ≠ 0 := by omega
    obtain ⟨k, hk⟩ : ∃ k : Nat, Hid ((k : Int) = at' % (n : Int)) := ⟨(at' % (n : Int)).toNat, Lib.hid (by have := Int.emod_nonneg at' hn1; omega)⟩
    have hk1 : at'.tmod (n : Int) = (k : Int) := by rw [Int.tmod_eq_emod_of_nonneg ha0]; exact hk.out.symm
    have hk2 : at' % (n : Int) = (k : Int) := hk.out.symm
    have hk3 : (k : Int) < (n : Int) := by have := Int.emod_lt_of_pos at' hnI; omega
    have hk0 : (0 : Int) ≤ (k : Int) := Int.natCast_nonneg _
    have hkn : k < n := by omega
    rcases (show r = 0 ∨ r = 1 ∨ r = 2 ∨ r = 3 ∨ r = 4 by omega) with rfl | rfl | rfl | rfl | rfl
    · obtain ⟨cv, hcv⟩ : ∃ cv, w2.cell? ⟨g, k, none⟩ = some cv := ⟨cur[k]'(by have := hcur.out.2; omega), by rw [hcur.out.1.cell k]; exact Array.getElem?_eq_getElem _⟩
      have hfr := hcur.out.1.free k
      have hb2 := Lib.hid (BS.set hb.out k u)
      rw [← hu.out] at hb2
      go_wp2
      go_ret
      exact ⟨⟨_, _, rfl, hb2.out, by rw [List.length_set]; exact hlen.out⟩, hB.out.setCell hgB _⟩
    · have hkc : k ≤ c := by omega
      have hkn1 : k ≤ n := by omega
      have hkI : (k : Int) ≤ (n : Int) := by omega
      have hcne : ¬ c = k := by omega
      go_wp2_with fail
      refine wp_region_held_drew (S := fun W => Below w.heap.size w W) (by kernel_rfl) (blw_drewN hB.out 1) (fun hHeld => ?_)
      generalize w2.drew = wd at hHeld ⊢
      refine wpAnyH_take (i := 1) (oi := ?oi1) (v := ?v1) ?ho1 (by kernel_rfl) (by kernel_rfl) (by kernel_rfl) ?hp1 (Or.inl ⟨?hw1, ?hy1⟩) (by assumption) ?rest1
      case ho1 => simp only [List.getElem?_toArray, List.getElem?_cons_succ, List.getElem?_cons_zero]; rfl
      case hp1 => exact fun _ _ _ h => h
      case hw1 => rfl
      case hy1 =>
        intro W hSw
        go_simp
        try exact rfl
      simp only [Act.put]
      refine wpAnyH_take (i := 2) (oi := ?oi2) (v := ?v2) ?ho2 (by kernel_rfl) (by kernel_rfl) (by kernel_rfl) ?hp2 (Or.inl ⟨?hw2, ?hy2⟩) (by assumption) ?rest2
      case ho2 => simp only [List.getElem?_toArray, List.getElem?_cons_succ, List.getElem?_cons_zero]; rfl
      case hp2 => exact fun _ _ _ h => h
      case hw2 => rfl
      case hy2 =>
        intro W hSw
        go_simp
        try exact rfl
      simp only [Act.put]
      refine wpAnyH_take (i := 5) (oi := ?oi3) (v := ?v3) ?ho3 (by kernel_rfl) (by kernel_rfl) (by kernel_rfl) ?hp3 (Or.inl ⟨?hw3, ?hy3⟩) (by assumption) ?rest3
      case ho3 => simp only [List.getElem?_toArray, List.getElem?_cons_succ, List.getElem?_cons_zero]; rfl
      case hp3 => exact fun _ _ _ h => h
      case hw3 => rfl
      case hy3 =>
        intro W hSw
        go_simp
        try exact rfl
      simp only [Act.put]
      refine wpAnyH_take (i := 8) (oi := ?oi4) (v := ?v4) ?ho4 (by kernel_rfl) (by kernel_rfl) (by kernel_rfl) ?hp4 (Or.inl ⟨?hw4, ?hy4⟩) (by assumption) ?rest4
      case ho4 => simp only [List.getElem?_toArray, List.getElem?_cons_succ, List.getElem?_cons_zero]; rfl
      case hp4 => exact fun _ _ _ h => h
      case hw4 => rfl
      case hy4 =>
        intro W hSw
        go_simp
        try exact rfl
      simp only [Act.put]
      refine wpAnyH_take (i := 9) (oi := ?oi5) (v := ?v5) ?ho5 (by kernel_rfl) (by kernel_rfl) (by kernel_rfl) ?hp5 (Or.inl ⟨?hw5, ?hy5⟩) (by assumption) ?rest5
      case ho5 => simp only [List.getElem?_toArray, List.getElem?_cons_succ, List.getElem?_cons_zero]; rfl
      case hp5 => exact fun _ _ _ h => h
      case hw5 => rfl
      case hy5 =>
        intro W hSw
        go_simp
        try exact rfl
      simp only [Act.put]
      refine wpAnyH_take (i := 3) (oi := ?oi6) (v := ?v6) ?ho6 (by kernel_rfl) (by kernel_rfl) (by kernel_rfl) ?hp6 (Or.inl ⟨?hw6, ?hy6⟩) (by assumption) ?rest6
      case ho6 => simp only [List.getElem?_toArray, List.getElem?_cons_succ, List.getElem?_cons_zero]; rfl
      case hp6 => exact fun _ _ _ h => h
      case hw6 => rfl
      case hy6 =>
        intro W hSw
        go_simp
        try exact rfl
      simp only [Act.put]
      refine wpAnyH_take (i := 10) (oi := ?oi7) (v := ?v7) ?ho7 (by kernel_rfl) (by kernel_rfl) (by kernel_rfl) ?hp7 (Or.inl ⟨?hw7, ?hy7⟩) (by assumption) ?rest7
      case ho7 => simp only [List.getElem?_toArray, List.getElem?_cons_succ, List.getElem?_cons_zero]; rfl
      case hp7 => exact fun _ _ _ h => h
      case hw7 => rfl
      case hy7 =>
        intro W hSw
        go_simp
        try exact rfl
      simp only [Act.put]
      refine wpAnyH_ready (rs := [0, 6]) (by kernel_rfl) (by simp) ?_
      refine AllReadyH.cons rfl (fun K hK => ?_) (AllReadyH.cons rfl (fun K hK => ?_) (AllReadyH.nil))
      · go_simp
        have hO0 := World.ownsRow_lit (base := w.heap.size) (e := 5) (size := 1) wd #[] 0 hHeld.size (by decide) rfl
        have hb0 : w.heap.size ≤ wd.heap.size := hHeld.size
        refine hK.out _ _ (hHeld.alloc hHeld.size (.cells #[] 5)) (fun hHeld => ?_)
        clear hK K
        generalize wd.alloc (.cells #[] 5) = wx7 at hHeld hO0 ⊢
        generalize wd.heap.size = b0 at hO0 hb0 ⊢
        refine wpAnyH_ready (rs := [4, 6]) (by kernel_rfl) (by simp) ?_
        refine AllReadyH.cons rfl (fun K hK => ?_) (AllReadyH.cons rfl (fun K hK => ?_) (AllReadyH.nil))
        · rw [if_pos (by rfl)]
          refine wp_append_own wx7 _ _ 22 rfl w.heap.size 5 i0 (.int .u8 0) 1 1 Tryd.underlying22 hi hz0 hz1 hz2 rfl (by decide) _ 0 [] rfl hO0 ⟨blk, off, none⟩ k c (Lib.byteCells (l.take k)) rfl (by have := hl.out; simp [Lib.byteCells]; try omega) (cells_take (fun j v hv => sub_of_below hHeld _ _ (hcells.out j v hv)) k) (byte_one _) (by unfold maxLen; omega) (by omega) hHeld.size (fun v4 w4 ho hg hnil => ?_)
          obtain ⟨g4, cap4, rfl, hgb4⟩ := own_some ho (fun e => by have h0 := (hnil.1 e).1; cases h0)
          simp only [Nat.zero_add, List.nil_append] at ho ⊢
          have hH2 := hHeld.grown hg hHeld.size (fun j hj => by cases hj; assumption)
          refine hK.out _ _ hH2 (fun hHeld => ?_)
          clear hK K hg hnil hH2
          have hO4 := ho
          clear ho
          generalize w4 = wv4 at hHeld hO4 ⊢
          refine wpAnyH_ready (rs := [6]) (by kernel_rfl) (by simp) ?_
          refine AllReadyH.cons rfl (fun K hK => ?_) (AllReadyH.nil)
          · go_simp
            have hN := Own.new wv4 #[.int .u8 cc] 5
            replace hO4 := own_alloc hO4 (.cells #[.int .u8 cc] 5)
            refine hK.out _ _ (hHeld.alloc hHeld.size (.cells #[.int .u8 cc] 5)) (fun hHeld => ?_)
            clear hK K
            generalize wv4.alloc (.cells #[.int .u8 cc] 5) = wx9 at hHeld hN hO4 ⊢
            generalize wv4.heap.size = bn at hN ⊢
            refine wpAnyH_ready (rs := [7]) (by kernel_rfl) (by simp) ?_
            refine AllReadyH.cons rfl (fun K hK => ?_) (AllReadyH.nil)
            · rw [if_pos (by rfl)]
              refine wp_append_own wx9 _ _ 22 rfl w.heap.size 5 i0 (.int .u8 0) 1 1 Tryd.underlying22 hi hz0 hz1 hz2 rfl (by decide) _ k (Lib.byteCells (l.take k)) rfl hO4 ⟨bn, 0, none⟩ 1 1 (Lib.byteCells [u]) rfl (by have := hl.out; simp [Lib.byteCells]; try omega) (news_one hN hu.out) (byte_one _) (by unfold maxLen; omega) (by omega) hHeld.size (fun v7 w7 ho hg hnil => ?_)
              obtain ⟨g7, cap7, rfl, hgb7⟩ := own_some ho (fun e => by have h0 := (hnil.1 e).1; cases h0)
              have hH2 := hHeld.grown hg hHeld.size (fun j hj => by cases hj; assumption)
              refine hK.out _ _ hH2 (fun hHeld => ?_)
              clear hK K hg hnil hH2
              have hO7 := ho
              clear ho
              generalize w7 = wv7 at hHeld hO7 ⊢
              refine wpAnyH_ready (rs := [11]) (by kernel_rfl) (by simp) ?_
              refine AllReadyH.cons rfl (fun K hK => ?_) (AllReadyH.nil)
              · rw [if_pos (by rfl)]
                refine wp_append_own wv7 _ _ 22 rfl w.heap.size 5 i0 (.int .u8 0) 1 1 Tryd.underlying22 hi hz0 hz1 hz2 rfl (by decide) _ (k + 1) (Lib.byteCells (l.take k) ++ Lib.byteCells [u]) rfl hO7 ⟨blk, off + k, none⟩ (n - k) (c - k) (Lib.byteCells (l.drop k)) rfl (by have := hl.out; simp [Lib.byteCells]; try omega) (cells_drop (fun j v hv => sub_of_below hHeld _ _ (hcells.out j v hv)) k) (byte_one _) (by unfold maxLen; omega) (by omega) hHeld.size (fun v11 w11 ho hg hnil => ?_)
                obtain ⟨g11, cap11, rfl, hgb11⟩ := own_some ho (fun e => by have h0 := (hnil.1 e).1; cases h0)
                have hH2 := hHeld.grown hg hHeld.size (fun j hj => by cases hj; assumption)
                refine hK.out _ _ hH2 (fun hHeld => ?_)
                clear hK K hg hnil hH2
                have hO11 := ho
                clear ho
                generalize w11 = wv11 at hHeld hO11 ⊢
                refine wpAnyH_take (i := 12) (oi := ?oi13) (v := ?v13) ?ho13 (by kernel_rfl) (by kernel_rfl) (by kernel_rfl) ?hp13 (Or.inl ⟨?hw13, ?hy13⟩) (by assumption) ?rest13
                case ho13 => simp only [List.getElem?_toArray, List.getElem?_cons_succ, List.getElem?_cons_zero]; rfl
                case hp13 => exact fun _ _ _ h => h
                case hw13 => rfl
                case hy13 =>
                  intro W hSw
                  go_simp
                  try exact rfl
                simp only [Act.put]
                refine wpAnyH_done (by kernel_rfl) ?_ _
                go_wp2
                go_ret
                have hln := hl.out
                exact ⟨⟨_, l.take k ++ [u] ++ l.drop k, rfl, bs_joined hO11 (by simp [Lib.byteCells]) (by simp; omega), by simp; omega⟩, hHeld⟩
        · go_simp
          have hN := Own.new wx7 #[.int .u8 cc] 5
          have hne : b0 < wx7.heap.size := own_lt hO0
          replace hO0 := own_alloc hO0 (.cells #[.int .u8 cc] 5)
          refine hK.out _ _ (hHeld.alloc hHeld.size (.cells #[.int .u8 cc] 5)) (fun hHeld => ?_)
          clear hK K
          generalize wx7.alloc (.cells #[.int .u8 cc] 5) = wx13 at hHeld hN hO0 ⊢
          generalize wx7.heap.size = bn at hN hne ⊢
          refine wpAnyH_ready (rs := [4]) (by kernel_rfl) (by simp) ?_
          refine AllReadyH.cons rfl (fun K hK => ?_) (AllReadyH.nil)
          · rw [if_pos (by rfl)]
            refine wp_append_own wx13 _ _ 22 rfl w.heap.size 5 i0 (.int .u8 0) 1 1 Tryd.underlying22 hi hz0 hz1 hz2 rfl (by decide) _ 0 [] rfl hO0 ⟨blk, off, none⟩ k c (Lib.byteCells (l.take k)) rfl (by have := hl.out; simp [Lib.byteCells]; try omega) (cells_take (fun j v hv => sub_of_below hHeld _ _ (hcells.out j v hv)) k) (byte_one _) (by unfold maxLen; omega) (by omega) hHeld.size (fun v4 w4 ho hg hnil => ?_)
            obtain ⟨g4, cap4, rfl, hgb4⟩ := own_some ho (fun e => by have h0 := (hnil.1 e).1; cases h0)
            simp only [Nat.zero_add, List.nil_append] at ho ⊢
            have hH2 := hHeld.grown hg hHeld.size (fun j hj => by cases hj; assumption)
            replace hN := hN.kept hg (by intro e; have e2 : b0 = bn := Option.some.inj e; omega)
            refine hK.out _ _ hH2 (fun hHeld => ?_)
            clear hK K hg hnil hH2
            have hO4 := ho
            clear ho
            generalize w4 = wv4 at hHeld hO4 hN ⊢
            refine wpAnyH_ready (rs := [7]) (by kernel_rfl) (by simp) ?_
            refine AllReadyH.cons rfl (fun K hK => ?_) (AllReadyH.nil)
            · rw [if_pos (by rfl)]
              refine wp_append_own wv4 _ _ 22 rfl w.heap.size 5 i0 (.int .u8 0) 1 1 Tryd.underlying22 hi hz0 hz1 hz2 rfl (by decide) _ k (Lib.byteCells (l.take k)) rfl hO4 ⟨bn, 0, none⟩ 1 1 (Lib.byteCells [u]) rfl (by have := hl.out; simp [Lib.byteCells]; try omega) (news_one hN hu.out) (byte_one _) (by unfold maxLen; omega) (by omega) hHeld.size (fun v7 w7 ho hg hnil => ?_)
              obtain ⟨g7, cap7, rfl, hgb7⟩ := own_some ho (fun e => by have h0 := (hnil.1 e).1; cases h0)
              have hH2 := hHeld.grown hg hHeld.size (fun j hj => by cases hj; assumption)
              refine hK.out _ _ hH2 (fun hHeld => ?_)
              clear hK K hg hnil hH2
              have hO7 := ho
              clear ho
              generalize w7 = wv7 at hHeld hO7 ⊢
              refine wpAnyH_ready (rs := [11]) (by kernel_rfl) (by simp) ?_
              refine AllReadyH.cons rfl (fun K hK => ?_) (AllReadyH.nil)
              · rw [if_pos (by rfl)]
                refine wp_append_own wv7 _ _ 22 rfl w.heap.size 5 i0 (.int .u8 0) 1 1 Tryd.underlying22 hi hz0 hz1 hz2 rfl (by decide) _ (k + 1) (Lib.byteCells (l.take k) ++ Lib.byteCells [u]) rfl hO7 ⟨blk, off + k, none⟩ (n - k) (c - k) (Lib.byteCells (l.drop k)) rfl (by have := hl.out; simp [Lib.byteCells]; try omega) (cells_drop (fun j v hv => sub_of_below hHeld _ _ (hcells.out j v hv)) k) (byte_one _) (by unfold maxLen; omega) (by omega) hHeld.size (fun v11 w11 ho hg hnil => ?_)
                obtain ⟨g11, cap11, rfl, hgb11⟩ := own_some ho (fun e => by have h0 := (hnil.1 e).1; cases h0)
                have hH2 := hHeld.grown hg hHeld.size (fun j hj => by cases hj; assumption)
                refine hK.out _ _ hH2 (fun hHeld => ?_)
                clear hK K hg hnil hH2
                have hO11 := ho
                clear ho
                generalize w11 = wv11 at hHeld hO11 ⊢
                refine wpAnyH_take (i := 12) (oi := ?oi18) (v := ?v18) ?ho18 (by kernel_rfl) (by kernel_rfl) (by kernel_rfl) ?hp18 (Or.inl ⟨?hw18, ?hy18⟩) (by assumption) ?rest18
                case ho18 => simp only [List.getElem?_toArray, List.getElem?_cons_succ, List.getElem?_cons_zero]; rfl
                case hp18 => exact fun _ _ _ h => h
                case hw18 => rfl
                case hy18 =>
                  intro W hSw
                  go_simp
                  try exact rfl
                simp only [Act.put]
                refine wpAnyH_done (by kernel_rfl) ?_ _
                go_wp2
                go_ret
                have hln := hl.out
                exact ⟨⟨_, l.take k ++ [u] ++ l.drop k, rfl, bs_joined hO11 (by simp [Lib.byteCells]) (by simp; omega), by simp; omega⟩, hHeld⟩
      · go_simp
        have hN := Own.new wd #[.int .u8 cc] 5
        refine hK.out _ _ (hHeld.alloc hHeld.size (.cells #[.int .u8 cc] 5)) (fun hHeld => ?_)
        clear hK K
        generalize wd.alloc (.cells #[.int .u8 cc] 5) = wx18 at hHeld hN ⊢
        generalize wd.heap.size = bn at hN ⊢
        refine wpAnyH_ready (rs := [0]) (by kernel_rfl) (by simp) ?_
        refine AllReadyH.cons rfl (fun K hK => ?_) (AllReadyH.nil)
        · go_simp
          have hO0 := World.ownsRow_lit (base := w.heap.size) (e := 5) (size := 1) wx18 #[] 0 hHeld.size (by decide) rfl
          have hb0 : w.heap.size ≤ wx18.heap.size := hHeld.size
          have hne : bn < wx18.heap.size := hN.lt
          replace hN := hN.alloc (.cells #[] 5)
          refine hK.out _ _ (hHeld.alloc hHeld.size (.cells #[] 5)) (fun hHeld => ?_)
          clear hK K
          generalize wx18.alloc (.cells #[] 5) = wx19 at hHeld hO0 hN ⊢
          generalize wx18.heap.size = b0 at hO0 hb0 hne ⊢
          refine wpAnyH_ready (rs := [4]) (by kernel_rfl) (by simp) ?_
          refine AllReadyH.cons rfl (fun K hK => ?_) (AllReadyH.nil)
          · rw [if_pos (by rfl)]
            refine wp_append_own wx19 _ _ 22 rfl w.heap.size 5 i0 (.int .u8 0) 1 1 Tryd.underlying22 hi hz0 hz1 hz2 rfl (by decide) _ 0 [] rfl hO0 ⟨blk, off, none⟩ k c (Lib.byteCells (l.take k)) rfl (by have := hl.out; simp [Lib.byteCells]; try omega) (cells_take (fun j v hv => sub_of_below hHeld _ _ (hcells.out j v hv)) k) (byte_one _) (by unfold maxLen; omega) (by omega) hHeld.size (fun v4 w4 ho hg hnil => ?_)
            obtain ⟨g4, cap4, rfl, hgb4⟩ := own_some ho (fun e => by have h0 := (hnil.1 e).1; cases h0)
            simp only [Nat.zero_add, List.nil_append] at ho ⊢
            have hH2 := hHeld.grown hg hHeld.size (fun j hj => by cases hj; assumption)
            replace hN := hN.kept hg (by intro e; have e2 : b0 = bn := Option.some.inj e; omega)
            refine hK.out _ _ hH2 (fun hHeld => ?_)
            clear hK K hg hnil hH2
            have hO4 := ho
            clear ho
            generalize w4 = wv4 at hHeld hO4 hN ⊢
            refine wpAnyH_ready (rs := [7]) (by kernel_rfl) (by simp) ?_
            refine AllReadyH.cons rfl (fun K hK => ?_) (AllReadyH.nil)
            · rw [if_pos (by rfl)]
              refine wp_append_own wv4 _ _ 22 rfl w.heap.size 5 i0 (.int .u8 0) 1 1 Tryd.underlying22 hi hz0 hz1 hz2 rfl (by decide) _ k (Lib.byteCells (l.take k)) rfl hO4 ⟨bn, 0, none⟩ 1 1 (Lib.byteCells [u]) rfl (by have := hl.out; simp [Lib.byteCells]; try omega) (news_one hN hu.out) (byte_one _) (by unfold maxLen; omega) (by omega) hHeld.size (fun v7 w7 ho hg hnil => ?_)
              obtain ⟨g7, cap7, rfl, hgb7⟩ := own_some ho (fun e => by have h0 := (hnil.1 e).1; cases h0)
              have hH2 := hHeld.grown hg hHeld.size (fun j hj => by cases hj; assumption)
              refine hK.out _ _ hH2 (fun hHeld => ?_)
              clear hK K hg hnil hH2
              have hO7 := ho
              clear ho
              generalize w7 = wv7 at hHeld hO7 ⊢
              refine wpAnyH_ready (rs := [11]) (by kernel_rfl) (by simp) ?_
              refine AllReadyH.cons rfl (fun K hK => ?_) (AllReadyH.nil)
              · rw [if_pos (by rfl)]
                refine wp_append_own wv7 _ _ 22 rfl w.heap.size 5 i0 (.int .u8 0) 1 1 Tryd.underlying22 hi hz0 hz1 hz2 rfl (by decide) _ (k + 1) (Lib.byteCells (l.take k) ++ Lib.byteCells [u]) rfl hO7 ⟨blk, off + k, none⟩ (n - k) (c - k) (Lib.byteCells (l.drop k)) rfl (by have := hl.out; simp [Lib.byteCells]; try omega) (cells_drop (fun j v hv => sub_of_below hHeld _ _ (hcells.out j v hv)) k) (byte_one _) (by unfold maxLen; omega) (by omega) hHeld.size (fun v11 w11 ho hg hnil => ?_)
                obtain ⟨g11, cap11, rfl, hgb11⟩ := own_some ho (fun e => by have h0 := (hnil.1 e).1; cases h0)
                have hH2 := hHeld.grown hg hHeld.size (fun j hj => by cases hj; assumption)
                refine hK.out _ _ hH2 (fun hHeld => ?_)
                clear hK K hg hnil hH2
                have hO11 := ho
                clear ho
                generalize w11 = wv11 at hHeld hO11 ⊢
                refine wpAnyH_take (i := 12) (oi := ?oi24) (v := ?v24) ?ho24 (by kernel_rfl) (by kernel_rfl) (by kernel_rfl) ?hp24 (Or.inl ⟨?hw24, ?hy24⟩) (by assumption) ?rest24
                case ho24 => simp only [List.getElem?_toArray, List.getElem?_cons_succ, List.getElem?_cons_zero]; rfl
                case hp24 => exact fun _ _ _ h => h
                case hw24 => rfl
                case hy24 =>
                  intro W hSw
                  go_simp
                  try exact rfl
                simp only [Act.put]
                refine wpAnyH_done (by kernel_rfl) ?_ _
                go_wp2
                go_ret
                have hln := hl.out
                exact ⟨⟨_, l.take k ++ [u] ++ l.drop k, rfl, bs_joined hO11 (by simp [Lib.byteCells]) (by simp; omega), by simp; omega⟩, hHeld⟩
    · have hwk : IntKind.i64.wrap ((k : Int) + 1) = (k : Int) + 1 := IntWalk.i64_in _ (by omega)
      have hkc : k ≤ c := by omega
      have hkn1 : k + 1 ≤ n := by omega
      have hkI : (k : Int) + 1 ≤ (n : Int) := by omega
      have hkI0 : (0 : Int) ≤ (k : Int) + 1 := by omega
      by_cases hcne : c = k + 1
      · obtain rfl : c = n := by omega
        obtain rfl : c = k + 1 := hcne
        have hk2' : at' % ((k : Int) + 1) = (k : Int) := hk2
        have hk1' : at'.tmod ((k : Int) + 1) = (k : Int) := hk1
        have hk4 : (k : Int) ≤ (k : Int) + 1 := by omega
        go_wp2_with fail
        refine wp_region_held_drew (S := fun W => Below w.heap.size w W) (by kernel_rfl) (blw_drewN hB.out 1) (fun hHeld => ?_)
        have hw2 : w.heap.size ≤ w2.drew.heap.size := hHeld.size
        generalize w2.drew = wd at hHeld hw2 ⊢
        refine wpAnyH_take (i := 1) (oi := ?oi25) (v := ?v25) ?ho25 (by kernel_rfl) (by kernel_rfl) (by kernel_rfl) ?hp25 (Or.inl ⟨?hw25, ?hy25⟩) (by assumption) ?rest25
        case ho25 => simp only [List.getElem?_toArray, List.getElem?_cons_succ, List.getElem?_cons_zero]; rfl
        case hp25 => exact fun _ _ _ h => h
        case hw25 => rfl
        case hy25 =>
          intro W hSw
          go_simp
          try exact rfl
        simp only [Act.put]
        refine wpAnyH_take (i := 2) (oi := ?oi26) (v := ?v26) ?ho26 (by kernel_rfl) (by kernel_rfl) (by kernel_rfl) ?hp26 (Or.inl ⟨?hw26, ?hy26⟩) (by assumption) ?rest26
        case ho26 => simp only [List.getElem?_toArray, List.getElem?_cons_succ, List.getElem?_cons_zero]; rfl
        case hp26 => exact fun _ _ _ h => h
        case hw26 => rfl
        case hy26 =>
          intro W hSw
          go_simp
          try exact rfl
        simp only [Act.put]
        refine wpAnyH_take (i := 5) (oi := ?oi27) (v := ?v27) ?ho27 (by kernel_rfl) (by kernel_rfl) (by kernel_rfl) ?hp27 (Or.inl ⟨?hw27, ?hy27⟩) (by assumption) ?rest27
        case ho27 => simp only [List.getElem?_toArray, List.getElem?_cons_succ, List.getElem?_cons_zero]; rfl
        case hp27 => exact fun _ _ _ h => h
        case hw27 => rfl
        case hy27 =>
          intro W hSw
          go_simp
          try exact rfl
        simp only [Act.put]
        refine wpAnyH_take (i := 6) (oi := ?oi28) (v := ?v28) ?ho28 (by kernel_rfl) (by kernel_rfl) (by kernel_rfl) ?hp28 (Or.inl ⟨?hw28, ?hy28⟩) (by assumption) ?rest28
        case ho28 => simp only [List.getElem?_toArray, List.getElem?_cons_succ, List.getElem?_cons_zero]; rfl
        case hp28 => exact fun _ _ _ h => h
        case hw28 => rfl
        case hy28 =>
          intro W hSw
          go_simp
          try exact rfl
        simp only [Act.put]
        refine wpAnyH_take (i := 3) (oi := ?oi29) (v := ?v29) ?ho29 (by kernel_rfl) (by kernel_rfl) (by kernel_rfl) ?hp29 (Or.inl ⟨?hw29, ?hy29⟩) (by assumption) ?rest29
        case ho29 => simp only [List.getElem?_toArray, List.getElem?_cons_succ, List.getElem?_cons_zero]; rfl
        case hp29 => exact fun _ _ _ h => h
        case hw29 => rfl
        case hy29 =>
          intro W hSw
          go_simp
          try exact rfl
        simp only [Act.put]
        refine wpAnyH_take (i := 7) (oi := ?oi30) (v := ?v30) ?ho30 (by kernel_rfl) (by kernel_rfl) (by kernel_rfl) ?hp30 (Or.inl ⟨?hw30, ?hy30⟩) (by assumption) ?rest30
        case ho30 => simp only [List.getElem?_toArray, List.getElem?_cons_succ, List.getElem?_cons_zero]; rfl
        case hp30 => exact fun _ _ _ h => h
        case hw30 => rfl
        case hy30 =>
          intro W hSw
          go_simp
          try exact rfl
        simp only [Act.put]
        refine wpAnyH_take (i := 8) (oi := ?oi31) (v := ?v31) ?ho31 (by kernel_rfl) (by kernel_rfl) (by kernel_rfl) ?hp31 (Or.inl ⟨?hw31, ?hy31⟩) (by assumption) ?rest31
        case ho31 => simp only [List.getElem?_toArray, List.getElem?_cons_succ, List.getElem?_cons_zero]; rfl
        case hp31 => exact fun _ _ _ h => h
        case hw31 => rfl
        case hy31 =>
          intro W hSw
          go_simp
          try exact rfl
        simp only [Act.put]
        refine wpAnyH_ready (rs := [0]) (by kernel_rfl) (by simp) ?_
        refine AllReadyH.cons rfl (fun K hK => ?_) AllReadyH.nil
        go_simp
        have hO1 := World.ownsRow_lit (base := w.heap.size) (e := 5) (size := 1) wd #[] 0 hHeld.size (by decide) rfl
        refine hK.out _ _ (hHeld.alloc hHeld.size (.cells #[] 5)) (fun hHeld => ?_)
        clear hK K
        have hb0 : w.heap.size ≤ wd.heap.size := hw2
        clear hw2
        generalize wd.alloc (.cells #[] 5) = we at hHeld hO1 ⊢
        generalize wd.heap.size = b0 at hO1 hb0 ⊢
        refine wpAnyH_ready (rs := [4]) (by kernel_rfl) (by simp) ?_
        refine AllReadyH.cons rfl (fun K hK => ?_) AllReadyH.nil
        rw [if_pos (by rfl)]
        refine wp_append_own we _ _ 22 rfl w.heap.size 5 i0 (.int .u8 0) 1 1 Tryd.underlying22 hi hz0 hz1 hz2 rfl (by decide) _ 0 [] rfl hO1 ⟨blk, off, none⟩ k (k + 1) (Lib.byteCells (l.take k)) rfl (by have := hl.out; simp [Lib.byteCells]; try omega) (cells_take (fun j v hv => sub_of_below hHeld _ _ (hcells.out j v hv)) k) (byte_one _) (by unfold maxLen; omega) (by omega) hHeld.size (fun v1 w1 ho hg hnil => ?_)
        obtain ⟨g1, cap1, rfl, hgb1⟩ := own_some ho (fun e => by have h0 := (hnil.1 e).1; cases h0)
        have hH2 := hHeld.grown hg hHeld.size (fun j hj => by cases hj; assumption)
        refine hK.out _ _ hH2 (fun hHeld => ?_)
        clear hK K hg hnil hH2
        have hO2 := ho
        clear ho
        try simp only [Act.put]
        generalize w1 = wv1 at hHeld hO2 ⊢
        refine wpAnyH_ready (rs := [9]) (by kernel_rfl) (by simp) ?_
        refine AllReadyH.cons rfl (fun K hK => ?_) AllReadyH.nil
        rw [if_pos (by rfl)]
        refine wp_append_own wv1 _ _ 22 rfl w.heap.size 5 i0 (.int .u8 0) 1 1 Tryd.underlying22 hi hz0 hz1 hz2 rfl (by decide) _ (0 + k) ([] ++ Lib.byteCells (l.take k)) rfl hO2 ⟨blk, off, none⟩ 0 0 (Lib.byteCells []) rfl (by have := hl.out; simp [Lib.byteCells]; try omega) (fun j u hj => by simp [Lib.byteCells] at hj) (byte_one _) (by unfold maxLen; omega) (by omega) hHeld.size (fun v2 w2 ho hg hnil => ?_)
        obtain ⟨g2, cap2, rfl, hgb2⟩ := own_some ho (fun e => by have h0 := (hnil.1 e).1; cases h0)
        have hH2 := hHeld.grown hg hHeld.size (fun j hj => by cases hj; assumption)
        refine hK.out _ _ hH2 (fun hHeld => ?_)
        clear hK K hg hnil hH2
        have hO3 := ho
        clear ho
        try simp only [Act.put]
        generalize w2 = wv2 at hHeld hO3 ⊢
        refine wpAnyH_take (i := 10) (oi := ?oi32) (v := ?v32) ?ho32 (by kernel_rfl) (by kernel_rfl) (by kernel_rfl) ?hp32 (Or.inl ⟨?hw32, ?hy32⟩) (by assumption) ?rest32
        case ho32 => simp only [List.getElem?_toArray, List.getElem?_cons_succ, List.getElem?_cons_zero]; rfl
        case hp32 => exact fun _ _ _ h => h
        case hw32 => rfl
        case hy32 =>
          intro W hSw
          go_simp
          try exact rfl
        simp only [Act.put]
        refine wpAnyH_done (by kernel_rfl) ?_ _
        go_wp2
        go_ret
        have hln := hl.out
        rw [Nat.zero_add] at hO3
        exact ⟨⟨_, l.take k, rfl, bs_joined hO3 (by simp [Lib.byteCells]) (by simp; omega), by simp; omega⟩, hHeld⟩
      go_wp2_with fail
      refine wp_region_held_drew (S := fun W => Below w.heap.size w W) (by kernel_rfl) (blw_drewN hB.out 1) (fun hHeld => ?_)
      have hw2 : w.heap.size ≤ w2.drew.heap.size := hHeld.size
      generalize w2.drew = wd at hHeld hw2 ⊢
      refine wpAnyH_take (i := 1) (oi := ?oi33) (v := ?v33) ?ho33 (by kernel_rfl) (by kernel_rfl) (by kernel_rfl) ?hp33 (Or.inl ⟨?hw33, ?hy33⟩) (by assumption) ?rest33
      case ho33 => simp only [List.getElem?_toArray, List.getElem?_cons_succ, List.getElem?_cons_zero]; rfl
      case hp33 => exact fun _ _ _ h => h
      case hw33 => rfl
      case hy33 =>
        intro W hSw
        go_simp
        try exact rfl
      simp only [Act.put]
      refine wpAnyH_take (i := 2) (oi := ?oi34) (v := ?v34) ?ho34 (by kernel_rfl) (by kernel_rfl) (by kernel_rfl) ?hp34 (Or.inl ⟨?hw34, ?hy34⟩) (by assumption) ?rest34
      case ho34 => simp only [List.getElem?_toArray, List.getElem?_cons_succ, List.getElem?_cons_zero]; rfl
      case hp34 => exact fun _ _ _ h => h
      case hw34 => rfl
      case hy34 =>
        intro W hSw
        go_simp
        try exact rfl
      simp only [Act.put]
      refine wpAnyH_take (i := 5) (oi := ?oi35) (v := ?v35) ?ho35 (by kernel_rfl) (by kernel_rfl) (by kernel_rfl) ?hp35 (Or.inl ⟨?hw35, ?hy35⟩) (by assumption) ?rest35
      case ho35 => simp only [List.getElem?_toArray, List.getElem?_cons_succ, List.getElem?_cons_zero]; rfl
      case hp35 => exact fun _ _ _ h => h
      case hw35 => rfl
      case hy35 =>
        intro W hSw
        go_simp
        try exact rfl
      simp only [Act.put]
      refine wpAnyH_take (i := 6) (oi := ?oi36) (v := ?v36) ?ho36 (by kernel_rfl) (by kernel_rfl) (by kernel_rfl) ?hp36 (Or.inl ⟨?hw36, ?hy36⟩) (by assumption) ?rest36
      case ho36 => simp only [List.getElem?_toArray, List.getElem?_cons_succ, List.getElem?_cons_zero]; rfl
      case hp36 => exact fun _ _ _ h => h
      case hw36 => rfl
      case hy36 =>
        intro W hSw
        go_simp
        try exact rfl
      simp only [Act.put]
      refine wpAnyH_take (i := 3) (oi := ?oi37) (v := ?v37) ?ho37 (by kernel_rfl) (by kernel_rfl) (by kernel_rfl) ?hp37 (Or.inl ⟨?hw37, ?hy37⟩) (by assumption) ?rest37
      case ho37 => simp only [List.getElem?_toArray, List.getElem?_cons_succ, List.getElem?_cons_zero]; rfl
      case hp37 => exact fun _ _ _ h => h
      case hw37 => rfl
      case hy37 =>
        intro W hSw
        go_simp
        try exact rfl
      simp only [Act.put]
      refine wpAnyH_take (i := 7) (oi := ?oi38) (v := ?v38) ?ho38 (by kernel_rfl) (by kernel_rfl) (by kernel_rfl) ?hp38 (Or.inl ⟨?hw38, ?hy38⟩) (by assumption) ?rest38
      case ho38 => simp only [List.getElem?_toArray, List.getElem?_cons_succ, List.getElem?_cons_zero]; rfl
      case hp38 => exact fun _ _ _ h => h
      case hw38 => rfl
      case hy38 =>
        intro W hSw
        go_simp
        try exact rfl
      simp only [Act.put]
      refine wpAnyH_take (i := 8) (oi := ?oi39) (v := ?v39) ?ho39 (by kernel_rfl) (by kernel_rfl) (by kernel_rfl) ?hp39 (Or.inl ⟨?hw39, ?hy39⟩) (by assumption) ?rest39
      case ho39 => simp only [List.getElem?_toArray, List.getElem?_cons_succ, List.getElem?_cons_zero]; rfl
      case hp39 => exact fun _ _ _ h => h
      case hw39 => rfl
      case hy39 =>
        intro W hSw
        go_simp
        try exact rfl
      simp only [Act.put]
      refine wpAnyH_ready (rs := [0]) (by kernel_rfl) (by simp) ?_
      refine AllReadyH.cons rfl (fun K hK => ?_) AllReadyH.nil
      go_simp
      have hO1 := World.ownsRow_lit (base := w.heap.size) (e := 5) (size := 1) wd #[] 0 hHeld.size (by decide) rfl
      refine hK.out _ _ (hHeld.alloc hHeld.size (.cells #[] 5)) (fun hHeld => ?_)
      clear hK K
      have hb0 : w.heap.size ≤ wd.heap.size := hw2
      clear hw2
      generalize wd.alloc (.cells #[] 5) = we at hHeld hO1 ⊢
      generalize wd.heap.size = b0 at hO1 hb0 ⊢
      refine wpAnyH_ready (rs := [4]) (by kernel_rfl) (by simp) ?_
      refine AllReadyH.cons rfl (fun K hK => ?_) AllReadyH.nil
      rw [if_pos (by rfl)]
      refine wp_append_own we _ _ 22 rfl w.heap.size 5 i0 (.int .u8 0) 1 1 Tryd.underlying22 hi hz0 hz1 hz2 rfl (by decide) _ 0 [] rfl hO1 ⟨blk, off, none⟩ k c (Lib.byteCells (l.take k)) rfl (by have := hl.out; simp [Lib.byteCells]; try omega) (cells_take (fun j v hv => sub_of_below hHeld _ _ (hcells.out j v hv)) k) (byte_one _) (by unfold maxLen; omega) (by omega) hHeld.size (fun v1 w1 ho hg hnil => ?_)
      obtain ⟨g1, cap1, rfl, hgb1⟩ := own_some ho (fun e => by have h0 := (hnil.1 e).1; cases h0)
      have hH2 := hHeld.grown hg hHeld.size (fun j hj => by cases hj; assumption)
      refine hK.out _ _ hH2 (fun hHeld => ?_)
      clear hK K hg hnil hH2
      have hO2 := ho
      clear ho
      try simp only [Act.put]
      generalize w1 = wv1 at hHeld hO2 ⊢
      refine wpAnyH_ready (rs := [9]) (by kernel_rfl) (by simp) ?_
      refine AllReadyH.cons rfl (fun K hK => ?_) AllReadyH.nil
      rw [if_pos (by rfl)]
      refine wp_append_own wv1 _ _ 22 rfl w.heap.size 5 i0 (.int .u8 0) 1 1 Tryd.underlying22 hi hz0 hz1 hz2 rfl (by decide) _ (0 + k) ([] ++ Lib.byteCells (l.take k)) rfl hO2 ⟨blk, off + (k + 1), none⟩ (n - (k + 1)) (c - (k + 1)) (Lib.byteCells (l.drop (k + 1))) rfl (by have := hl.out; simp [Lib.byteCells]; try omega) (cells_drop (fun j v hv => sub_of_below hHeld _ _ (hcells.out j v hv)) (k + 1)) (byte_one _) (by unfold maxLen; omega) (by omega) hHeld.size (fun v2 w2 ho hg hnil => ?_)
      obtain ⟨g2, cap2, rfl, hgb2⟩ := own_some ho (fun e => by have h0 := (hnil.1 e).1; cases h0)
      have hH2 := hHeld.grown hg hHeld.size (fun j hj => by cases hj; assumption)
      refine hK.out _ _ hH2 (fun hHeld => ?_)
      clear hK K hg hnil hH2
      have hO3 := ho
      clear ho
      try simp only [Act.put]
      generalize w2 = wv2 at hHeld hO3 ⊢
      refine wpAnyH_take (i := 10) (oi := ?oi40) (v := ?v40) ?ho40 (by kernel_rfl) (by kernel_rfl) (by kernel_rfl) ?hp40 (Or.inl ⟨?hw40, ?hy40⟩) (by assumption) ?rest40
      case ho40 => simp only [List.getElem?_toArray, List.getElem?_cons_succ, List.getElem?_cons_zero]; rfl
      case hp40 => exact fun _ _ _ h => h
      case hw40 => rfl
      case hy40 =>
        intro W hSw
        go_simp
        try exact rfl
      simp only [Act.put]
      refine wpAnyH_done (by kernel_rfl) ?_ _
      go_wp2
      go_ret
      have hln := hl.out
      rw [Nat.zero_add] at hO3
      exact ⟨⟨_, l.take k ++ l.drop (k + 1), rfl, bs_joined hO3 (by simp [Lib.byteCells]) (by simp; omega), by simp; omega⟩, hHeld⟩
    · have hb2 := Lib.hid (BS.take (k := k) hb.out (by rw [hl.out]; omega))
      go_wp2
      go_ret
      exact ⟨⟨_, _, rfl, hb2.out, by rw [List.length_take]; omega⟩, hB.out⟩
    · go_wp2
      go_ret
      exact ⟨⟨_, l, rfl, hb.out, hlen.out⟩, hB.out⟩

end Go.Proofs.YtnghpjijfdpmkaaDoor.metric

