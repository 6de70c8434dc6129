/- SubjectCanonical: the walk. -/
import Derived.Test.YtamkmdlfhlbbeaaGreatDoorKSuR
import Derived.Test.YtamkmdlfhlbbeaaGreatDoorKSuQ
import Derived.Test.YtamkmdlfhlbbeaaGreatDoorKSuA
import Derived.Test.YtamkmdlfhlbbeaaGreatDoorKSuV
import Derived.Lib.QuietBelow
import Derived.Deep.RegionHeld3
namespace Go.Proofs.YtamkmdlfhlbbeaaGreatDoor.subj
open Go.RowKit Go.Sort Go.Proofs.YtamkmdlfhlbbeaaGreatDoor Go.Proofs.YtamkmdlfhlbbeaaGreatDoor.schema Go.Proofs.YtamkmdlfhlbbeaaGreatDoor.value Go.Proofs.YtamkmdlfhlbbeaaGreatDoor.text Go.Proofs.YtamkmdlfhlbbeaaGreatDoor.clause Go.Proofs.YtamkmdlfhlbbeaaGreatDoor.draw

attribute [local go_sem ↓] Go.wp_at_zero Go.wp_at_succ

/-- Both lists of names. -/
def NamesR (w : World) (l l' : List CT) (p q : Value) (u : World) : Prop := ∃ pa pc qa qc, p = .slice pa l.length pc ∧ q = .slice qa l'.length qc ∧ RowsAt u.cell? 2 (.slice pa l.length pc) (l.map nmRow) ∧ RowsAt u.cell? 2 (.slice qa l'.length qc) (l'.map nmRow) ∧ Below w.heap.size w u
theorem can_two (l : List CT) : ∃ P E, canV l = .tuple #[.string P, .int .i64 E] ∧ (E = 0 → subS l = 0 ∧ P = ⟨(canL l).toArray⟩) := by
  by_cases h : subS l = 0
  · exact ⟨⟨(canL l).toArray⟩, 0, by unfold canV canS; rw [if_pos h], fun _ => ⟨h, rfl⟩⟩
  · exact ⟨⟨#[]⟩, subS l, by unfold canV canS; rw [if_neg h], fun h' => absurd h' h⟩

set_option maxRecDepth 100000 in
set_option maxHeartbeats 16000000 in
theorem canon_walk (sa : Option Addr) (sn sc : Nat) (ls : List CT) (a : Option Addr) (n c : Nat) (a' : Option Addr) (n' c' : Nat) (key : ByteArray) (w : World) (h : BytesAt w.cell? a n c) (h' : BytesAt w.cell? a' n' c') (hSs : SAt w.cell? (.slice sa sn sc) ls) (hNs : Nm ls) (hg : ∀ b, w.heap.size ≤ b → Glob (but b w)) (hT : STabs w) :
    Calls Tryz.prog 4 #[.agg #[.slice sa sn sc], .slice a n c, .slice a' n' c', .string key] w fun e w' => e = .returned (.bool true) ∧ Below w.heap.size w w' := by
  have hB0 : Below w.heap.size w (w.alloc (.cells #[.slice sa sn sc] 24)) := (Below.refl _ _).alloc (Nat.le_refl _) _
  have hOs := Lib.hid (Own.new w #[.slice sa sn sc] 24)
  have hA := Lib.hid h
  have hA' := Lib.hid h'
  have hg0 := Lib.hid hg
  have hT0 := Lib.hid hT
  replace hSs := Lib.hid hSs
  replace hNs := Lib.hid hNs
  replace hB0 := Lib.hid hB0
  clear h h' hg hT
  go_enter Tryz.func4, Tryz.ntmps4
  go_wp2_with fail
  generalize w.alloc (.cells #[.slice sa sn sc] 24) = w0 at hB0 hOs ⊢
  obtain ⟨gs, hgs⟩ : ∃ g : Nat, Hid (g = w.heap.size) := ⟨_, Lib.hid rfl⟩
  rw [← hgs.out] at hOs ⊢
  refine (sawake_any _ (hT0.out.below hB0.out)).mono ?_
  rintro e w1 ⟨rfl, hb1⟩
  have hB1 := Lib.hid (hB0.out.trans (hb1.mono hB0.out.size))
  have hOs1 := hOs.out.below hb1 hOs.out.lt
  have s0 := hOs1.cell 0
  simp only [List.getElem?_toArray, List.getElem?_cons_zero] at s0
  have hsl := hOs1.lt
  replace hOs1 := Lib.hid hOs1
  clear hb1 hB0 hOs
  go_wp2_with fail
  refine (small_any ls sa sn sc _ (hSs.out.mono (sub_of_below hB1.out))).mono ?_
  rintro e w2 ⟨rfl, hb2⟩
  have hB2 := Lib.hid (hB1.out.trans (hb2.mono hB1.out.size))
  have hOs2 := Lib.hid (hOs1.out.below hb2 hsl)
  clear hb2 hB1 hOs1 s0 hsl
  cases hsm : smallB ls
  case false =>
    clear hsm
    go_wp2
    go_ret
    exact ⟨rfl, hB2.out⟩
  clear hsm
  by_cases h300 : 300 < key.size
  · have hkI : (300 : Int) < (key.size : Int) := by omega
    go_wp2
    go_ret
    exact ⟨rfl, hB2.out⟩
  have hkI : ¬ (300 : Int) < (key.size : Int) := by omega
  go_wp2_with fail
  refine (new_any a n c 60 _ (by omega) (by omega) (hA.out.mono (sub_of_below hB2.out))).mono ?_
  rintro e w3 ⟨rfl, ⟨a3, n3, c3, hC⟩, hb3⟩
  have hsz : w.heap.size ≤ w2.heap.size := hB2.out.size
  have hge : gs < w2.heap.size := hOs2.out.lt
  have hB3 := Lib.hid (hB2.out.trans (hb3.mono hsz))
  have hOs3 := Lib.hid (hOs2.out.below hb3 hOs2.out.lt)
  have hC3 := Lib.hid hC
  have hlt3 := hC.lt
  have hg3 := Lib.hid ((hg0.out w2.heap.size hsz).mono (sub_of_grown (grown_of_below ((hB2.out.trans (hb3.mono hsz)).mono (Nat.le_refl _)) _)))
  clear hC hb3 hB2 hOs2
  go_wp2_with fail
  refine (subject_any w2.heap.size a3 n3 c3 _ hC3.out hg3.out).mono ?_
  rintro e w4 ⟨⟨va, vn, vc, lx, rfl, hok, hS4⟩, hH4, hG4⟩
  have hB4 := Lib.hid (hB3.out.trans (below_of_grown hG4 hB3.out.size hsz))
  have hOs4 := Lib.hid (hOs3.out.kept hG4 (by simp; omega))
  have hS4' := Lib.hid (hS4.mono (newM_in _ _ _))
  have hvl : lx.length = vn := by have := (len_of hS4.rows).1; simpa using this.symm
  have hvm := (len_of hS4.rows).2
  have hok4 := Lib.hid hok
  have hge4 : gs < w4.heap.size := hOs4.out.lt
  have hsz4 : w.heap.size ≤ w4.heap.size := hB4.out.size
  clear hC3 hg3 hB3 hOs3 hH4 hG4 hS4 hok
  go_wp2_with fail
  refine (new_any a' n' c' 60 _ (by omega) (by omega) (hA'.out.mono (sub_of_below hB4.out))).mono ?_
  rintro e w5 ⟨rfl, ⟨a5, n5, c5, hC⟩, hb5⟩
  have hC5 := Lib.hid hC
  have hB5 := Lib.hid (hB4.out.trans (hb5.mono hsz4))
  have hg5 := Lib.hid ((hg0.out w4.heap.size hsz4).mono (sub_of_grown (grown_of_below ((hB4.out.trans (hb5.mono hsz4)).mono (Nat.le_refl _)) _)))
  have hsz5 := hb5.size
  replace hb5 := Lib.hid hb5
  clear hC
  go_wp2_with fail
  refine (subject_any w4.heap.size a5 n5 c5 _ hC5.out hg5.out).mono ?_
  rintro e w6 ⟨⟨ua, un, uc, ly, rfl, hoky, hS6⟩, hH6, hG6⟩
  have hb6 := hb5.out.trans (below_of_grown hG6 hb5.out.size (Nat.le_refl _))
  have hbZ : Below w6.heap.size w6 ((w6.alloc (.cells #[.slice va vn vc] 24)).alloc (.cells #[.slice ua un uc] 24)) := ((Below.refl _ _).alloc (Nat.le_refl _) _).alloc (by simp) _
  have hb8 := Lib.hid (hb6.trans (hbZ.mono hb6.size))
  have hOx8 := Lib.hid ((Own.new w6 #[.slice va vn vc] 24).alloc (.cells #[.slice ua un uc] 24))
  have hOy8 := Lib.hid (Own.new' (w := w6.alloc (.cells #[.slice va vn vc] 24)) (n := w6.heap.size + 1) (A := #[.slice ua un uc]) (t := 24) (by simp))
  have hSy8 := Lib.hid (hS6.mono (newM_grown (grown_of_below hbZ (some w4.heap.size))))
  have hsz6 : w4.heap.size ≤ w6.heap.size := hb6.size
  have hNy := Lib.hid (okSub_nmR hoky.1)
  have hly := hoky.1.len
  clear hC5 hB5 hg5 hb5 hH6 hG6 hS6 hoky hb6 hbZ
  go_upto_region 6 with fail
  generalize (w6.alloc (.cells #[.slice va vn vc] 24)).alloc (.cells #[.slice ua un uc] 24) = w8 at hb8 hOx8 hOy8 hSy8 ⊢
  obtain ⟨gx, hgx⟩ : ∃ g : Nat, g = w6.heap.size := ⟨_, rfl⟩
  rw [← hgx] at hOx8 hOy8 hsz6 ⊢
  clear hgx
  have x0 := hOx8.out.cell 0
  simp only [List.getElem?_toArray, List.getElem?_cons_zero] at x0
  have hxl := hOx8.out.lt
  have hNx := Lib.hid (okSub_nmR hok4.out.1)
  have hlx := hok4.out.1.len
  have hcs : vn = 0 ∨ (0 < vn ∧ ¬ key.size % 2 = 0) ∨ (0 < vn ∧ key.size % 2 = 0) := by omega
  have hB8 := Lib.hid (hB4.out.trans (hb8.out.mono hsz4))
  have hOs8 := Lib.hid (hOs4.out.below hb8.out hge4)
  have hsw := hb8.out.size
  clear hg0 hA hA' hOs4 hB4
  rcases hcs with hv0 | ⟨hv0, hk2⟩ | ⟨hv0, hk2⟩
  case' inl =>
    have e0 : ¬ (0 : Int) < (vn : Int) := by omega
    have hSx := Lib.hid (hS4'.out.mono (sub_of_below hb8.out))
    have hSy := Lib.hid (hSy8.out.mono (newM_in _ _ _))
    go_upto_region 8 with fail
    clear e0 x0 hxl hv0 hok4 hS4' hSy8 hb8 hsw hvl
    generalize w8 = w9 at hB8 hOs8 hOx8 hOy8 hSx hSy ⊢
    generalize lx = L at hSx hNx hlx ⊢
  case' inr.inl =>
    have e0 : (0 : Int) < (vn : Int) := by omega
    have e1 : ¬ (key.size : Int) % 2 = 0 := by omega
    have hSx := Lib.hid (hS4'.out.mono (sub_of_below hb8.out))
    have hSy := Lib.hid (hSy8.out.mono (newM_in _ _ _))
    go_upto_region 8 with fail
    rw [show ((key.size : Int) % 2 == 0) = false from by simp; omega]
    clear e0 e1 x0 hxl hv0 hk2 hok4 hS4' hSy8 hb8 hsw hvl
    generalize w8 = w9 at hB8 hOs8 hOx8 hOy8 hSx hSy ⊢
    generalize lx = L at hSx hNx hlx ⊢
  case' inr.inr =>
    have e0 : (0 : Int) < (vn : Int) := by omega
    have e1 : (key.size : Int) % 2 = 0 := by omega
    obtain ⟨g, ct, rs, hva, hg1, hg2, hlr, k0, f0, hSk⟩ := key_set hok4.out.2 hvl hb8.out hv0 key (by omega)
    have hgl : g < w8.heap.size := by omega
    have hB9 := Lib.hid (hB8.out.setCell (show w.heap.size ≤ (⟨g, 1, none⟩ : Addr).block by show w.heap.size ≤ g; omega) (.string key))
    have hOs9 := Lib.hid (hOs8.out.setOther (p := ⟨g, 1, none⟩) (by simp; omega) (.string key))
    have hOx9 := Lib.hid (hOx8.out.setOther (p := ⟨g, 1, none⟩) (by simp; omega) (.string key))
    have hOy9 := Lib.hid (hOy8.out.setOther (p := ⟨g, 1, none⟩) (by simp; omega) (.string key))
    have hSy := Lib.hid ((hSy8.out.mono (newM_set (q := ⟨g, 1, none⟩) (by show g < w5.heap.size; omega) (.string key))).mono (newM_in _ _ _))
    have hNx' := Lib.hid (show Nm (⟨ct.kind, key, ct.ptr, ct.len, ct.cap, ct.attrs⟩ :: rs) from fun y hy => by
      rcases List.mem_cons.1 hy with rfl | hy
      · exact hNx.out ct (by rw [hlr]; simp)
      · exact hNx.out y (by rw [hlr]; simp [hy]))
    have hlx' : (⟨ct.kind, key, ct.ptr, ct.len, ct.cap, ct.attrs⟩ :: rs : List CT).length ≤ 2 := by rw [hlr] at hlx; simpa using hlx
    replace hlr := Lib.hid hlr
    have hSx := Lib.hid hSk
    clear hok4 hS4' hSy8 hb8 hsw hvl hB8 hOs8 hSk hNx hlx hlr
    subst hva
    go_upto_region 8 with fail
    clear e0 e1 x0 hxl hv0 hk2 k0 f0 hg1 hg2 hgl hOx8 hOy8
    generalize w8.setCell ⟨g, 1, none⟩ (.string key) = w9 at hB9 hOs9 hOx9 hOy9 hSx hSy ⊢
    generalize (⟨ct.kind, key, ct.ptr, ct.len, ct.cap, ct.attrs⟩ :: rs : List CT) = L at hSx hNx' hlx' ⊢
    generalize (some ⟨g, 0, none⟩ : Option Addr) = va at hOx9 hSx ⊢
    have hB8 := hB9
    have hOs8 := hOs9
    have hOx8 := hOx9
    have hOy8 := hOy9
    have hNx := hNx'
    have hlx := hlx'
    clear hB9 hOs9 hOx9 hOy9 hNx' hlx'
  all_goals
    clear hsz hge hlt3 hvm hge4 hsz4 hsz5 hsz6
    have hSr := Lib.hid (hSs.out.mono (sub_of_below hB8.out))
    have hT9 := Lib.hid (hT0.out.below hB8.out)
    have x0 := hOx8.out.cell 0
    have y0 := hOy8.out.cell 0
    have z0 := hOs8.out.cell 0
    simp only [List.getElem?_toArray, List.getElem?_cons_zero] at x0 y0 z0
    have hxl := hOx8.out.lt
    have hyl := hOy8.out.lt
    have hzl := hOs8.out.lt
    have hba : Below w9.heap.size w9 (w9.alloc (.cells #[.slice sa sn sc, .slice va vn vc, .slice ua un uc] 24)) := (Below.refl _ _).alloc (Nat.le_refl _) _
    have hFb := Lib.hid (Own.new w9 #[.slice sa sn sc, .slice va vn vc, .slice ua un uc] 24)
    have hBa := Lib.hid (hB8.out.trans (hba.mono hB8.out.size))
    have hOxa := Lib.hid (hOx8.out.below hba hOx8.out.lt)
    have hOya := Lib.hid (hOy8.out.below hba hOy8.out.lt)
    have hSxa := Lib.hid (hSx.out.mono (sub_of_below hba))
    have hSya := Lib.hid (hSy.out.mono (sub_of_below hba))
    have hTa := Lib.hid (hT9.out.below hba)
    have hF : Hid (∀ j, j < 3 → ∃ (za : Option Addr) (zn zc : Nat) (lz : List CT), (#[.slice sa sn sc, .slice va vn vc, .slice ua un uc] : Array Value)[j]? = some (.slice za zn zc) ∧ SAt (w9.alloc (.cells #[.slice sa sn sc, .slice va vn vc, .slice ua un uc] 24)).cell? (.slice za zn zc) lz ∧ Nm lz) := Lib.hid (by
      intro j hj
      rcases (show j = 0 ∨ j = 1 ∨ j = 2 by omega) with rfl | rfl | rfl
      · exact ⟨_, _, _, ls, rfl, hSr.out.mono (sub_of_below hba), hNs.out⟩
      · exact ⟨_, _, _, L, rfl, hSxa.out, hNx.out⟩
      · exact ⟨_, _, _, ly, rfl, hSya.out, hNy.out⟩)
    clear hba hB8 hOx8 hOy8 hOs8 hSx hSy hSr hT9
    go_wp2_with fail
    generalize w9.alloc (.cells #[.slice sa sn sc, .slice va vn vc, .slice ua un uc] 24) = wa at hFb hBa hOxa hOya hSxa hSya hTa hF ⊢
    obtain ⟨F, hFe⟩ : ∃ g : Nat, g = w9.heap.size := ⟨_, rfl⟩
    rw [← hFe] at hFb ⊢
    clear hFe x0 y0 z0 hxl hyl hzl
    go_loopw [61] (fun s61 wr => ∃ j : Nat, j ≤ 3 ∧ s61 = .int .i64 j ∧ Hid (Below wa.heap.size wa wr)) (fun s61 _ => 3 - (intOf s61).toNat)
    case atStart => exact ⟨0, by omega, rfl, Lib.hid (Below.refl _ _)⟩
    case round =>
      obtain ⟨j, hj, rfl, hy⟩ := hrel
      have hBr := Lib.hid (hBa.out.trans (hy.out.mono hBa.out.size))
      by_cases hlt3 : j < 3
      case pos =>
        obtain ⟨za, zn, zc, lz, hce, hSz, hNz⟩ := hF.out j hlt3
        have hFr := hFb.out.below hy.out hFb.out.lt
        have c0 := (hFr.cell j).trans hce
        have hfl := hFr.lt
        have n0 : (0 : Int) ≤ (j : Int) := by omega
        have n1 : (j : Int) < 3 := by omega
        have hbi : Below wr.heap.size wr (wr.alloc (.cells #[.slice za zn zc] 24)) := (Below.refl _ _).alloc (Nat.le_refl _) _
        have hyi := Lib.hid (hy.out.trans (hbi.mono hy.out.size))
        have hOi := Own.new wr #[.slice za zn zc] 24
        have b0 := hOi.cell 0
        simp only [List.getElem?_toArray, List.getElem?_cons_zero] at b0
        have hil := hOi.lt
        have hSzi := Lib.hid (hSz.mono (sub_of_below hyi.out))
        have hTi := Lib.hid (hTa.out.below hyi.out)
        obtain ⟨P, E, hcv, -⟩ := can_two lz
        have cP := can_any lz za zn zc _ hSzi.out hTi.out
        rw [hcv] at cP
        replace hcv := Lib.hid hcv
        replace hOi := Lib.hid hOi
        clear hbi hFr hce hSz hy
        go_wp2_with fail
        generalize wr.alloc (.cells #[.slice za zn zc] 24) = wi at hyi hOi hSzi hTi b0 hil cP ⊢
        obtain ⟨gt, hgt⟩ : ∃ g : Nat, g = wr.heap.size := ⟨_, rfl⟩
        rw [← hgt] at hOi b0 hil ⊢
        clear hgt c0 hfl
        refine cP.mono ?_
        rintro e w1' ⟨rfl, hb1⟩
        have cR := can_ref lz za zn zc _ (hSzi.out.mono (sub_of_below hb1)) hNz (hTi.out.below hb1)
        rw [hcv.out] at cR
        have hO1 := hOi.out.below hb1 hil
        have hy1 := Lib.hid (hyi.out.trans (hb1.mono hyi.out.size))
        have b1 := hO1.cell 0
        simp only [List.getElem?_toArray, List.getElem?_cons_zero] at b1
        have hil1 := hO1.lt
        clear hb1 hSzi hTi hOi b0 hil hyi cP hO1
        go_wp2_with fail
        refine cR.mono ?_
        rintro e w2' ⟨rfl, hb2⟩
        have hy2 := Lib.hid (hy1.out.trans (hb2.mono hy1.out.size))
        clear hb2 b1 hil1 hy1 cR
        go_wp2
        go_roundw
        case rel => exact ⟨j + 1, by omega, by go_num, hy2⟩
        case measure => simp [intOf]; omega
      case neg =>
        have hOxr := hOxa.out.below hy.out hOxa.out.lt
        have hOyr := hOya.out.below hy.out hOya.out.lt
        have x0 := hOxr.cell 0
        have y0 := hOyr.cell 0
        simp only [List.getElem?_toArray, List.getElem?_cons_zero] at x0 y0
        have hxl := hOxr.lt
        have hyl := hOyr.lt
        have hSxr := Lib.hid (hSxa.out.mono (sub_of_below hy.out))
        have hSyr := Lib.hid (hSya.out.mono (sub_of_below hy.out))
        have hTr := Lib.hid (hTa.out.below hy.out)
        obtain ⟨P, E, hcv, hPE⟩ := can_two L
        obtain ⟨P', E', hcv', hPE'⟩ := can_two ly
        have cX := can_any L va vn vc _ hSxr.out hTr.out
        rw [hcv] at cX
        replace hcv := Lib.hid hcv
        replace hPE := Lib.hid hPE
        replace hPE' := Lib.hid hPE'
        replace hOxr := Lib.hid hOxr
        replace hOyr := Lib.hid hOyr
        clear hF hFb hSxa hSya hTa hOxa hOya hBa
        go_wp2_with fail
        refine cX.mono ?_
        rintro e w1' ⟨rfl, hb1⟩
        have cY := can_any ly ua un uc _ (hSyr.out.mono (sub_of_below hb1)) (hTr.out.below hb1)
        rw [hcv'] at cY
        have hOx1 := Lib.hid (hOxr.out.below hb1 hxl)
        have hOy1 := Lib.hid (hOyr.out.below hb1 hyl)
        have hSx1 := Lib.hid (hSxr.out.mono (sub_of_below hb1))
        have hSy1 := Lib.hid (hSyr.out.mono (sub_of_below hb1))
        have hB1 := Lib.hid (hBr.out.trans (hb1.mono hBr.out.size))
        have y1 := hOy1.out.cell 0
        simp only [List.getElem?_toArray, List.getElem?_cons_zero] at y1
        have hyl1 := hOy1.out.lt
        replace hcv' := Lib.hid hcv'
        clear hb1 x0 y0 hxl hyl hOxr hOyr hSxr hSyr hTr hBr cX hy
        go_wp2_with fail
        refine cY.mono ?_
        rintro e w2' ⟨rfl, hb2⟩
        have hB2 := Lib.hid (hB1.out.trans (hb2.mono hB1.out.size))
        have hOx2 := hOx1.out.below hb2 hOx1.out.lt
        have hOy2 := hOy1.out.below hb2 hOy1.out.lt
        have hSx2 := Lib.hid (hSx1.out.mono (sub_of_below hb2))
        have hSy2 := Lib.hid (hSy1.out.mono (sub_of_below hb2))
        have x2 := hOx2.cell 0
        have y2 := hOy2.cell 0
        simp only [List.getElem?_toArray, List.getElem?_cons_zero] at x2 y2
        clear hb2 y1 hyl1 hOx1 hOy1 hSx1 hSy1 hB1 cY hOx2 hOy2
        by_cases hE0 : E = 0
        case neg =>
          go_wp2
          go_ret
          exact ⟨rfl, hB2.out⟩
        subst hE0
        by_cases hE1 : E' = 0
        case neg =>
          go_wp2
          go_ret
          exact ⟨rfl, hB2.out⟩
        subst hE1
        obtain ⟨hsx, hP⟩ := hPE.out rfl
        obtain ⟨hsy, hP'⟩ := hPE'.out rfl
        replace hP := Lib.hid hP
        replace hP' := Lib.hid hP'
        replace hsx := Lib.hid hsx
        replace hsy := Lib.hid hsy
        clear hPE hPE' hcv hcv'
        go_upto_region 20 with fail
        go_cut [21, 22] (fun s21 s22 wy => Hid (NamesR w2' L ly s21 s22 wy))
        case first =>
          have hKp : Hid (∀ u, Aft w2' u → u.cell? ⟨gx, 0, none⟩ = some (.slice va vn vc) ∧ u.cell? ⟨gx + 1, 0, none⟩ = some (.slice ua un uc)) :=
            Lib.hid fun u hb => ⟨sub_of_below hb _ _ x2, sub_of_below hb _ _ y2⟩
          have cA := Lib.hid (fun (u : World) (hb : Aft w2' u) => names_any L va vn vc u (hSx2.out.mono (sub_of_below hb)) (by omega))
          have cB := Lib.hid (fun (u : World) (hb : Aft w2' u) => names_any ly ua un uc u (hSy2.out.mono (sub_of_below hb)) (by omega))
          have hy0 := Aft.drew w2'
          go_region_held3 (fun u => u.cell? ⟨gx, 0, none⟩ = some (.slice va vn vc) ∧ u.cell? ⟨gx + 1, 0, none⟩ = some (.slice ua un uc))
            (exact hKp.out _ (by assumption))
            ((first
              | (go_at_call 19; (with_reducible refine (cA.out _ (by assumption)).mono ?_); rintro e u1 ⟨⟨pa, pc, rfl, q1⟩, hy1⟩; have hz1 := Aft.next hy1 (by assumption); replace q1 := Lib.hid (rows_of_owns q1 (L.map nmRow) (by simp) (rows2n L) rfl))
              | (go_at_call 19; (with_reducible refine (cB.out _ (by assumption)).mono ?_); rintro e u2 ⟨⟨qa, qc, rfl, q2⟩, hy2⟩; have hz2 := Aft.next hy2 (by assumption); replace q2 := Lib.hid (rows_of_owns q2 (ly.map nmRow) (by simp) (rows2n ly) rfl))))
          all_goals
            go_wp2
            go_meet
            first
              | exact Lib.hid ⟨_, _, _, _, rfl, rfl, q1.out.mono (sub_of_below hy2), q2.out, hz2⟩
              | exact Lib.hid ⟨_, _, _, _, rfl, rfl, q1.out, q2.out.mono (sub_of_below hy1), hz1⟩
        case rest =>
          obtain ⟨pa, pc, qa, qc, rfl, rfl, hR1, hR2, hyc⟩ := hcut.out
          clear hcut x2 y2 hSx2 hSy2
          have hBc := Lib.hid (hB2.out.trans (hyc.mono hB2.out.size))
          replace hR1 := Lib.hid hR1
          replace hR2 := Lib.hid hR2
          clear hyc hB2
          go_wp2_with fail
          go_loopw [23, 24] (fun s23 s24 wr => ∃ (k : Nat) (b : Bool), k ≤ L.length ∧ s24 = .int .i64 k ∧ s23 = .bool b ∧ Hid (SameR L ly k b) ∧ Hid (Below wc.heap.size wc wr)) (fun _ s24 _ => L.length - (intOf s24).toNat)
          case atStart => exact ⟨0, decide (L.length = ly.length), by omega, rfl, by simp [Bool.beq_eq_decide_eq]; omega, Lib.hid (SameR.start L ly), Lib.hid (Below.refl _ _)⟩
          case round =>
            obtain ⟨k, b, hk, rfl, rfl, hSR, hyk⟩ := hrel
            have hBk := Lib.hid (hBc.out.trans (hyk.out.mono hBc.out.size))
            by_cases hmore : b = true ∧ k < L.length
            case neg =>
              have hdone := SameR.done hSR.out (fun hb => by
                have : ¬ k < L.length := fun h => hmore ⟨hb, h⟩
                omega)
              have hfin := same_fin hsx.out hsy.out hdone
              rw [← hP.out, ← hP'.out] at hfin
              replace hdone := Lib.hid hdone
              have hq : (P.toList == P'.toList) = b := by simpa using hfin
              replace hfin := Lib.hid hfin
              cases b
              case false =>
                go_wp2
                go_ret
                exact ⟨by simp, hBk.out⟩
              case true =>
                obtain rfl : k = L.length := by
                  have : ¬ k < L.length := fun h => hmore ⟨rfl, h⟩
                  omega
                go_wp2
                go_ret
                exact ⟨by simp, hBk.out⟩
            obtain ⟨rfl, hlt⟩ := hmore
            have hlt2 : k < ly.length := by have := (hSR.out.1 rfl).1; omega
            have hnext := Lib.hid (hSR.out.next hlt hlt2)
            obtain ⟨b1, o1, rfl, p0, p1⟩ := nm_at (hR1.out.mono (sub_of_below hyk.out)) hlt
            obtain ⟨b2, o2, rfl, q0, q1⟩ := nm_at (hR2.out.mono (sub_of_below hyk.out)) hlt2
            have heq := eql_pair L[k].kind L[k].key ly[k].kind ly[k].key
            have n0 : (0 : Int) ≤ (k : Int) := by omega
            have n1 : (k : Int) < (L.length : Int) := by omega
            have n2 : (k : Int) < (ly.length : Int) := by omega
            generalize L[k].kind = x1 at p0 heq hnext
            generalize L[k].key = x2 at p1 heq hnext
            generalize ly[k].kind = y1 at q0 heq hnext
            generalize ly[k].key = y2 at q1 heq hnext
            have hgd : Tryz.prog.eqGuardType Tryz.prog.depth 43 = false := by kernel_rfl
            go_wp2_with fail
            have k0 := cell_regrown p0
            have k1 := cell_regrown p1
            have k2 := cell_regrown q0
            have k3 := cell_regrown q1
            clear p0 p1 q0 q1
            refine wp_region_quiet_below (by kernel_rfl) (by kernel_rfl) ?_
            repeat (go_big_quiet_step (fail))
            refine wpQuiet_nil ?_
            intro _ hw'
            obtain ⟨⟨dq, osq⟩, hw''⟩ := hw'
            subst hw''
            have hyz := Lib.hid (hyk.out.trans ((below_regrown wr dq osq).mono hyk.out.size))
            clear k0 k1 k2 k3
            go_wp2
            go_roundw
            case rel => exact ⟨k + 1, _, by omega, by go_num, rfl, hnext, hyz⟩
            case measure => simp [intOf]; omega

end Go.Proofs.YtamkmdlfhlbbeaaGreatDoor.subj

