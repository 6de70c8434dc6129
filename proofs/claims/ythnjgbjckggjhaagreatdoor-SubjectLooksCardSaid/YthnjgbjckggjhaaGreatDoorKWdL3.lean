/- SubjectLooks: the walk. -/
import Derived.Test.YthnjgbjckggjhaaGreatDoorKJ31
import Derived.Test.YthnjgbjckggjhaaGreatDoorKSuP
import Derived.Test.YthnjgbjckggjhaaGreatDoorKSuA
import Derived.Test.YthnjgbjckggjhaaGreatDoorKWdV
import Derived.Lib.QuietBelow
import Derived.Deep.RegionHeld3
import Derived.Test.YthnjgbjckggjhaaGreatDoorKWd
namespace Go.Proofs.YthnjgbjckggjhaaGreatDoor.subj.wide
open Go.RowKit Go.Sort Go.Proofs.YthnjgbjckggjhaaGreatDoor Go.Proofs.YthnjgbjckggjhaaGreatDoor.schema Go.Proofs.YthnjgbjckggjhaaGreatDoor.value Go.Proofs.YthnjgbjckggjhaaGreatDoor.text Go.Proofs.YthnjgbjckggjhaaGreatDoor.clause Go.Proofs.YthnjgbjckggjhaaGreatDoor.draw

attribute [local go_sem ↓] Go.wp_at_zero Go.wp_at_succ

/-- A context found lies in a block of its own. -/
def OutC (w : World) (o : Option CT) (p q : Value) (u : World) : Prop :=
  ∃ (g : Nat) (d : CT), p = .pointer (some ⟨g, 0, none⟩) ∧ q = .bool o.isSome ∧ Own u g #[.string d.kind, .string d.key, .slice d.ptr d.len d.cap] 37 ∧ SameC d (o.getD zeroC) ∧ CAt u.cell? d ∧ Aft w u
theorem outC_new {w u : World} {o : Option CT} {d : CT} {lo hi : Nat} (h1 : SameC d (o.getD zeroC)) (h2 : CAt (mOut lo hi u) d) (hb : Aft w u) :
    OutC w o (.pointer (some ⟨u.heap.size, 0, none⟩)) (.bool o.isSome) (u.alloc (.cells #[.string d.kind, .string d.key, .slice d.ptr d.len d.cap] 37)) :=
  ⟨_, d, rfl, rfl, Own.new u _ _, h1, (h2.mono (mOut_in _ _ _)).mono (sub_of_below ((Below.refl u.heap.size u).alloc (Nat.le_refl _) _)), hb.alloc _⟩
theorem outC_old {w u : World} {o : Option CT} {d : CT} {hi g : Nat} (h1 : SameC d (o.getD zeroC)) (h2 : CAt (mOut w.heap.size hi u) d) (hb : Aft w u) (hO : Own u g #[.string ⟨#[]⟩, .string ⟨#[]⟩, .slice none 0 0] 37) (hg1 : w.heap.size ≤ g) (hg2 : g < hi) :
    OutC w o (.pointer (some ⟨g, 0, none⟩)) (.bool o.isSome) (((u.setCell ⟨g, 0, none⟩ (.string d.kind)).setCell ⟨g, 1, none⟩ (.string d.key)).setCell ⟨g, 2, none⟩ (.slice d.ptr d.len d.cap)) :=
  ⟨g, d, rfl, rfl, ((hO.set 0 _).set 1 _).set 2 _, h1, (h2.mono (((mOut_set (q := ⟨g, 0, none⟩) hg1 hg2 _).trans (mOut_set (q := ⟨g, 1, none⟩) hg1 hg2 _)).trans ((mOut_set (q := ⟨g, 2, none⟩) hg1 hg2 _).trans (mOut_in _ _ _)))), Below.setCell (Below.setCell (Below.setCell hb (p := ⟨g, 0, none⟩) hg1 _) (p := ⟨g, 1, none⟩) hg1 _) (p := ⟨g, 2, none⟩) hg1 _⟩

/-- A value looked up lies in a block of its own. -/
def OutV (w : World) (o : Option VD) (p q : Value) (u : World) : Prop :=
  ∃ (g : Nat) (d : VD), p = .pointer (some ⟨g, 0, none⟩) ∧ q = .bool o.isSome ∧ Own u g #[.int .i64 d.kind, .int .i64 d.num, .string d.text, .slice d.ptr d.len d.cap] 42 ∧ SameV d (o.getD zeroV) ∧ LAt u.cell? d ∧ Aft w u
theorem outV_new {w u : World} {o : Option VD} {d : VD} {lo hi : Nat} (h1 : SameV d (o.getD zeroV)) (h2 : LAt (mOut lo hi u) d) (hb : Aft w u) :
    OutV w o (.pointer (some ⟨u.heap.size, 0, none⟩)) (.bool o.isSome) (u.alloc (.cells #[.int .i64 d.kind, .int .i64 d.num, .string d.text, .slice d.ptr d.len d.cap] 42)) :=
  ⟨_, d, rfl, rfl, Own.new u _ _, h1, (h2.mono (mOut_in _ _ _)).mono (sub_of_below ((Below.refl u.heap.size u).alloc (Nat.le_refl _) _)), hb.alloc _⟩
theorem outV_old {w u : World} {o : Option VD} {d : VD} {hi g : Nat} (h1 : SameV d (o.getD zeroV)) (h2 : LAt (mOut w.heap.size hi u) d) (hb : Aft w u) (hO : Own u g #[.int .i64 0, .int .i64 0, .string ⟨#[]⟩, .slice none 0 0] 42) (hg1 : w.heap.size ≤ g) (hg2 : g < hi) :
    OutV w o (.pointer (some ⟨g, 0, none⟩)) (.bool o.isSome) ((((u.setCell ⟨g, 0, none⟩ (.int .i64 d.kind)).setCell ⟨g, 1, none⟩ (.int .i64 d.num)).setCell ⟨g, 2, none⟩ (.string d.text)).setCell ⟨g, 3, none⟩ (.slice d.ptr d.len d.cap)) :=
  ⟨g, d, rfl, rfl, (((hO.set 0 _).set 1 _).set 2 _).set 3 _, h1, (h2.mono (((mOut_set (q := ⟨g, 0, none⟩) hg1 hg2 _).trans (mOut_set (q := ⟨g, 1, none⟩) hg1 hg2 _)).trans (((mOut_set (q := ⟨g, 2, none⟩) hg1 hg2 _).trans (mOut_set (q := ⟨g, 3, none⟩) hg1 hg2 _)).trans (mOut_in _ _ _)))), Below.setCell (Below.setCell (Below.setCell (Below.setCell hb (p := ⟨g, 0, none⟩) hg1 _) (p := ⟨g, 1, none⟩) hg1 _) (p := ⟨g, 2, none⟩) hg1 _) (p := ⟨g, 3, none⟩) hg1 _⟩

set_option maxRecDepth 100000 in
set_option maxHeartbeats 16000000 in
theorem looks_walk (sa : Option Addr) (sn sc : Nat) (ls : List CT) (a : Option Addr) (n c : Nat) (kind name : ByteArray) (w : World) (h : BytesAt w.cell? a n c) (hSs : SAt w.cell? (.slice sa sn sc) ls) (hg : ∀ b, w.heap.size ≤ b → Glob (but b w)) (hT : STabs w) :
    Calls Tryz.prog 3 #[.agg #[.slice sa sn sc], .slice a n c, .string kind, .string name] w fun e w' => e = .returned (.bool true) ∧ Below w.heap.size w w' := by
  have hB0 : Below w.heap.size w (w.alloc (.cells #[.slice sa sn sc] 24)) := (Below.refl _ _).alloc (Nat.le_refl _) _
  have hOs := Lib.hid (Own.new w #[.slice sa sn sc] 24)
  have hA := Lib.hid h
  have hg0 := Lib.hid hg
  have hT0 := Lib.hid hT
  replace hSs := Lib.hid hSs
  replace hB0 := Lib.hid hB0
  clear h hg hT
  go_enter Tryz.func3, Tryz.ntmps3
  go_wp2_with fail
  generalize w.alloc (.cells #[.slice sa sn sc] 24) = w0 at hB0 hOs ⊢
  obtain ⟨gs, hgs⟩ : ∃ g : Nat, Hid (g = w.heap.size) := ⟨_, Lib.hid rfl⟩
  rw [← hgs.out] at hOs ⊢
  refine (sawake_any _ (hT0.out.below hB0.out)).mono ?_
  rintro e w1 ⟨rfl, hb1⟩
  have hB1 := Lib.hid (hB0.out.trans (hb1.mono hB0.out.size))
  have hOs1 := hOs.out.below hb1 hOs.out.lt
  have s0 := hOs1.cell 0
  simp only [List.getElem?_toArray, List.getElem?_cons_zero] at s0
  have hsl := hOs1.lt
  replace hOs1 := Lib.hid hOs1
  clear hb1 hB0 hOs
  go_wp2_with fail
  refine (small_any ls sa sn sc _ (hSs.out.mono (sub_of_below hB1.out))).mono ?_
  rintro e w2 ⟨rfl, hb2⟩
  have hB2 := Lib.hid (hB1.out.trans (hb2.mono hB1.out.size))
  have hOs2 := Lib.hid (hOs1.out.below hb2 hsl)
  clear hb2 hB1 hOs1 s0 hsl
  cases hsm : smallB ls
  case false =>
    clear hsm
    go_wp2
    go_ret
    exact ⟨rfl, hB2.out⟩
  have hfs := Lib.hid (fun x hx => Nat.le_trans (small_few hsm x hx).1 (show 30 ≤ 1099511627776 by omega))
  clear hsm
  go_wp2_with fail
  refine (new_any a n c 80 _ (by omega) (by omega) (hA.out.mono (sub_of_below hB2.out))).mono ?_
  rintro e w3 ⟨rfl, ⟨a', n', c', hC⟩, hb3⟩
  have hsz : w.heap.size ≤ w2.heap.size := hB2.out.size
  have hge : gs < w2.heap.size := hOs2.out.lt
  have hB3 := Lib.hid (hB2.out.trans (hb3.mono hsz))
  have hOs3 := Lib.hid (hOs2.out.below hb3 hOs2.out.lt)
  have hC3 := Lib.hid hC
  have hg3 := Lib.hid ((hg0.out w2.heap.size hsz).mono (sub_of_grown (grown_of_below ((hB2.out.trans (hb3.mono hsz)).mono (Nat.le_refl _)) _)))
  clear hC hb3 hB2 hOs2
  go_wp2_with fail
  refine (subject_any w2.heap.size a' n' c' _ hC3.out hg3.out).mono ?_
  rintro e w4 ⟨⟨va, vn, vc, l, rfl, hok, hS4⟩, hH4, hG4⟩
  have hC4 := Lib.hid (hC3.out.still hG4 hH4)
  have hg4 := Lib.hid (hg3.out.mono (sub_of_grown hG4))
  have hB4 := Lib.hid (hB3.out.trans (below_of_grown hG4 hB3.out.size hsz))
  have hOs4 := Lib.hid (hOs3.out.kept hG4 (by simp; omega))
  have hS4' := Lib.hid (hS4.mono (newM_but _ _ _))
  replace hok := Lib.hid hok
  clear hG4 hH4 hS4 hC3 hg3 hB3 hOs3
  go_wp2_with fail
  refine (spoil_any w2.heap.size a' n' c' va vn vc l _ hC4.out hg4.out hS4'.out hok.out.1.len (okSub_nmR hok.out.1) (okSub_fewR hok.out.1)).mono ?_
  rintro e w6 ⟨⟨ua, un, uc, lu, rfl, ⟨-, -, hfu⟩, hS6⟩, hH6, hG6⟩
  have hG7 : w4.grownBy (w6.alloc (.cells #[.slice ua un uc] 24)) (some w2.heap.size) := g_alloc hG6 _
  have hC7 := Lib.hid (hC4.out.still hG7 (hH6.alloc _))
  have hB7 := Lib.hid (hB4.out.trans (below_of_grown hG7 hB4.out.size hsz))
  have hOs7 := Lib.hid (hOs4.out.kept hG7 (by simp; omega))
  have hOu7 := Lib.hid (Own.new w6 #[.slice ua un uc] 24)
  have hSu7 := Lib.hid (hS6.mono (sub_of_grown (g_alloc (grown_refl w6 (some w2.heap.size)) (.cells #[.slice ua un uc] 24))))
  have hbu : w2.heap.size < w6.heap.size := hH6.lt
  have hfu' := Lib.hid (fun x hx => Nat.le_trans (hfu x hx) (show 30 ≤ 1099511627776 by omega))
  clear hG7 hG6 hH6 hS6 hC4 hg4 hB4 hOs4 hS4' hok hfu
  go_wp2_with fail
  generalize w6.alloc (.cells #[.slice ua un uc] 24) = w7 at hC7 hB7 hOs7 hOu7 hSu7 ⊢
  obtain ⟨gu, hgu⟩ : ∃ g : Nat, g = w6.heap.size := ⟨_, rfl⟩
  rw [← hgu] at hOu7 hbu ⊢
  clear hgu
  refine (name_any w2.heap.size a' n' c' _ hC7.out).mono ?_
  rintro e w8 ⟨hStr, hH8, hG8⟩
  obtain ⟨nm, rfl, -⟩ := hStr
  have hGK : w7.grownBy (w8.alloc (.cells #[.string kind, .string ⟨#[117, 115, 101, 114]⟩, .string ⟨#[100, 101, 118, 105, 99, 101]⟩, .string nm] 9)) (some w2.heap.size) := g_alloc hG8 _
  have hC8 := Lib.hid (hC7.out.still hGK (hH8.alloc _))
  have hB8 := Lib.hid (hB7.out.trans (below_of_grown hGK hB7.out.size hsz))
  have hOs8 := Lib.hid (hOs7.out.kept hGK (by simp; omega))
  have hOu8 := Lib.hid (hOu7.out.kept hGK (by simp; omega))
  have hSu8 := Lib.hid (hSu7.out.mono (sub_of_grown hGK))
  have hK8 := Lib.hid (Own.new w8 #[.string kind, .string ⟨#[117, 115, 101, 114]⟩, .string ⟨#[100, 101, 118, 105, 99, 101]⟩, .string nm] 9)
  have hbk : w2.heap.size < w8.heap.size := hH8.lt
  clear hGK hG8 hH8 hC7 hB7 hOs7 hOu7 hSu7
  go_wp2_with fail
  generalize w8.alloc (.cells #[.string kind, .string ⟨#[117, 115, 101, 114]⟩, .string ⟨#[100, 101, 118, 105, 99, 101]⟩, .string nm] 9) = wk at hC8 hB8 hOs8 hOu8 hSu8 hK8 ⊢
  obtain ⟨gk, hgk⟩ : ∃ g : Nat, g = w8.heap.size := ⟨_, rfl⟩
  rw [← hgk] at hK8 hbk ⊢
  clear hgk
  refine (name_any w2.heap.size a' n' c' _ hC8.out).mono ?_
  rintro e w9 ⟨hStr, hH9, hG9⟩
  obtain ⟨nm2, rfl, -⟩ := hStr
  have hGN : wk.grownBy (w9.alloc (.cells #[.string name, .string ⟨#[107, 101, 121]⟩, .string ⟨#[112, 108, 97, 110]⟩, .string ⟨#[99, 111, 114, 101, 115]⟩, .string ⟨#[116, 97, 103, 115]⟩, .string nm2] 9)) (some w2.heap.size) := g_alloc hG9 _
  have hB9 := Lib.hid (hB8.out.trans (below_of_grown hGN hB8.out.size hsz))
  have hOs9 := Lib.hid (hOs8.out.kept hGN (by simp; omega))
  have hOu9 := Lib.hid (hOu8.out.kept hGN (by simp; omega))
  have hK9 := Lib.hid (hK8.out.kept hGN (by simp; omega))
  have hSu9 := Lib.hid (sat_wide ((hSu8.out.mono (sub_of_grown hGN)).mono (but_sub _ _)))
  have hSr9 := Lib.hid (hSs.out.mono (sub_of_below hB9.out))
  have hN9 := Lib.hid (Own.new w9 #[.string name, .string ⟨#[107, 101, 121]⟩, .string ⟨#[112, 108, 97, 110]⟩, .string ⟨#[99, 111, 114, 101, 115]⟩, .string ⟨#[116, 97, 103, 115]⟩, .string nm2] 9)
  clear hGN hG9 hH9 hC8 hB8 hOs8 hOu8 hSu8 hK8 hbk hbu hge hsz hSs hg0 hA
  go_wp2_with fail
  generalize w9.alloc (.cells #[.string name, .string ⟨#[107, 101, 121]⟩, .string ⟨#[112, 108, 97, 110]⟩, .string ⟨#[99, 111, 114, 101, 115]⟩, .string ⟨#[116, 97, 103, 115]⟩, .string nm2] 9) = wn at hB9 hOs9 hOu9 hK9 hSu9 hSr9 hN9 ⊢
  obtain ⟨gn, hgn⟩ : ∃ g : Nat, g = w9.heap.size := ⟨_, rfl⟩
  rw [← hgn] at hN9 ⊢
  clear hgn
  have hkd : Hid (∀ i, i < 4 → ∃ kd : ByteArray, (#[.string kind, .string ⟨#[117, 115, 101, 114]⟩, .string ⟨#[100, 101, 118, 105, 99, 101]⟩, .string nm] : Array Value)[i]? = some (.string kd)) := Lib.hid (by
    intro i hi
    rcases (show i = 0 ∨ i = 1 ∨ i = 2 ∨ i = 3 by omega) with rfl | rfl | rfl | rfl <;> exact ⟨_, rfl⟩)
  have hnd : Hid (∀ i, i < 6 → ∃ nd : ByteArray, (#[.string name, .string ⟨#[107, 101, 121]⟩, .string ⟨#[112, 108, 97, 110]⟩, .string ⟨#[99, 111, 114, 101, 115]⟩, .string ⟨#[116, 97, 103, 115]⟩, .string nm2] : Array Value)[i]? = some (.string nd)) := Lib.hid (by
    intro i hi
    rcases (show i = 0 ∨ i = 1 ∨ i = 2 ∨ i = 3 ∨ i = 4 ∨ i = 5 by omega) with rfl | rfl | rfl | rfl | rfl | rfl <;> exact ⟨_, rfl⟩)
  go_loopw [13] (fun s13 wr => ∃ i : Nat, i ≤ 4 ∧ s13 = .int .i64 i ∧ Hid (Below wn.heap.size wn wr)) (fun s13 _ => 4 - (intOf s13).toNat)
  case atStart => exact ⟨0, by omega, rfl, Lib.hid (Below.refl _ _)⟩
  case round =>
    obtain ⟨i, hi, rfl, hy⟩ := hrel
    have hBr := Lib.hid (hB9.out.trans (hy.out.mono hB9.out.size))
    by_cases hlt4 : i < 4
    case neg =>
      go_wp2
      go_ret
      exact ⟨rfl, hBr.out⟩
    obtain ⟨kd, hkd1⟩ := hkd.out i hlt4
    have hOsr := hOs9.out.below hy.out hOs9.out.lt
    have hOur := hOu9.out.below hy.out hOu9.out.lt
    have x0 := hOsr.cell 0
    have y0 := hOur.cell 0
    simp only [List.getElem?_toArray, List.getElem?_cons_zero] at x0 y0
    have hxl := hOsr.lt
    have hyl := hOur.lt
    have n0 : (0 : Int) ≤ (i : Int) := by omega
    have n1 : (i : Int) < 4 := by omega
    have hbi : Below wr.heap.size wr (wr.alloc (.cells #[.slice sa sn sc, .slice ua un uc] 24)) := (Below.refl _ _).alloc (Nat.le_refl _) _
    have hyi := Lib.hid (hy.out.trans (hbi.mono hy.out.size))
    have hFi := Lib.hid (Own.new wr #[.slice sa sn sc, .slice ua un uc] 24)
    have hF : Hid (∀ j, j < 2 → ∃ (za : Option Addr) (zn zc : Nat) (lz : List CT), (#[.slice sa sn sc, .slice ua un uc] : Array Value)[j]? = some (.slice za zn zc) ∧ SAt wn.cell? (.slice za zn zc) lz ∧ ∀ x ∈ lz, x.attrs.length ≤ 1099511627776) := Lib.hid (by
      intro j hj
      rcases (show j = 0 ∨ j = 1 by omega) with rfl | rfl
      · exact ⟨_, _, _, ls, rfl, hSr9.out, hfs.out⟩
      · exact ⟨_, _, _, lu, rfl, hSu9.out, hfu'.out⟩)
    clear hOsr hOur hbi
    go_wp2_with fail
    generalize wr.alloc (.cells #[.slice sa sn sc, .slice ua un uc] 24) = wi at hyi hFi ⊢
    obtain ⟨gf, hgf⟩ : ∃ g : Nat, g = wr.heap.size := ⟨_, rfl⟩
    rw [← hgf] at hFi ⊢
    clear hgf x0 y0 hxl hyl hy hBr
    go_loopw [54] (fun s54 wq => ∃ j : Nat, j ≤ 2 ∧ s54 = .int .i64 j ∧ Hid (Below wi.heap.size wi wq)) (fun s54 _ => 2 - (intOf s54).toNat)
    case atStart => exact ⟨0, by omega, rfl, Lib.hid (Below.refl _ _)⟩
    case round =>
      obtain ⟨j, hj, rfl, hyq⟩ := hrel
      have hyb := Lib.hid (hyi.out.trans (hyq.out.mono hyi.out.size))
      by_cases hlt2 : j < 2
      case neg =>
        go_wp2
        go_roundw
        case rel => exact ⟨i + 1, by omega, by go_num, hyb⟩
        case measure => simp [intOf]; omega
      obtain ⟨za, zn, zc, lz, hce, hSz, hfz⟩ := hF.out j hlt2
      have hFr := hFi.out.below hyq.out hFi.out.lt
      have c0 := (hFr.cell j).trans hce
      have hfl := hFr.lt
      have m0 : (0 : Int) ≤ (j : Int) := by omega
      have m1 : (j : Int) < 2 := by omega
      have hbx : Below wr.heap.size wr (wr.alloc (.cells #[.slice za zn zc] 24)) := (Below.refl _ _).alloc (Nat.le_refl _) _
      have hyx := Lib.hid (hyb.out.trans (hbx.mono hyb.out.size))
      have hyxi := Lib.hid (hyq.out.trans (hbx.mono hyq.out.size))
      have hOt := Lib.hid (Own.new wr #[.slice za zn zc] 24)
      have hKr := Lib.hid (hK9.out.below hyx.out hK9.out.lt)
      have hNr := Lib.hid (hN9.out.below hyx.out hN9.out.lt)
      have hSx := Lib.hid (hSz.mono (sub_of_below hyx.out))
      replace hfz := Lib.hid hfz
      replace hkd1 := Lib.hid hkd1
      clear hbx hFr hce hSz hyq hyb
      go_upto_region 15 with fail
      generalize wr.alloc (.cells #[.slice za zn zc] 24) = wx at hyx hyxi hOt hKr hNr hSx ⊢
      obtain ⟨gt, hgt⟩ : ∃ g : Nat, g = wr.heap.size := ⟨_, rfl⟩
      rw [← hgt] at hOt ⊢
      clear hgt c0 hfl
      have t0 := hOt.out.cell 0
      simp only [List.getElem?_toArray, List.getElem?_cons_zero] at t0
      have k0 := (hKr.out.cell i).trans hkd1.out
      obtain ⟨fo, hfo⟩ : ∃ o, findS kd.toList lz = o := ⟨_, rfl⟩
      go_cut [16, 17] (fun t16 t17 wy => Hid (OutC wx fo t16 t17 wy))
      case first =>
        have hKp : Hid (∀ u, Aft wx u → u.cell? ⟨gt, 0, none⟩ = some (.slice za zn zc) ∧ u.cell? ⟨gk, i, none⟩ = some (.string kd)) :=
          Lib.hid fun u hb => ⟨cell_later hb t0, cell_later hb k0⟩
        have cA : Hid (∀ (u : World) (hb : Aft wx u), Calls Tryz.prog 10 #[.agg #[.slice za zn zc], .string kd] u fun e u' => FndR fo wx.heap.size u.heap.size e u' ∧ Aft u u') :=
          Lib.hid (fun u hb => by rw [← hfo]; exact fndP lz za zn zc kd wx u hb hSx.out hfz.out)
        clear t0 k0
        go_region_held3 (fun u => u.cell? ⟨gt, 0, none⟩ = some (.slice za zn zc) ∧ u.cell? ⟨gk, i, none⟩ = some (.string kd))
          (exact hKp.out _ (by repeat (first | assumption | exact Aft.refl _ | apply Aft.dr | apply Aft.alloc | (refine Aft.set ?_ (by simp) _))))
          ((go_at_call 10; (with_reducible refine (cA.out _ (by repeat (first | assumption | exact Aft.refl _ | apply Aft.dr | apply Aft.alloc))).mono ?_); rintro e u1 ⟨⟨d, rfl, q1, q2⟩, hy1⟩; replace q1 := Lib.hid q1; replace q2 := Lib.hid q2; have hz1 : Aft wx u1 := Aft.next hy1 (by repeat (first | assumption | exact Aft.refl _ | apply Aft.dr | apply Aft.alloc)); (try (have hzo : Own u1 wx.heap.size #[.string ⟨#[]⟩, .string ⟨#[]⟩, .slice none 0 0] 37 := Own.below (w := (wx.alloc (.cells #[.string ⟨#[]⟩, .string ⟨#[]⟩, .slice none 0 0] 37)).drew) (show Own (wx.alloc (.cells #[.string ⟨#[]⟩, .string ⟨#[]⟩, .slice none 0 0] 37)) wx.heap.size _ _ from Own.new wx _ _) hy1 (show wx.heap.size < (wx.alloc (.cells #[.string ⟨#[]⟩, .string ⟨#[]⟩, .slice none 0 0] 37)).heap.size by simp); obtain ⟨z0, z1, z2⟩ := own3c hzo; have f0 := hzo.free 0; have f1 := hzo.free 1; have f2 := hzo.free 2; have hzl := hzo.lt; replace hzo := Lib.hid hzo))))
        all_goals
          go_wp2
          go_meet
          first
            | exact Lib.hid (outC_new q1.out q2.out hz1)
            | exact Lib.hid (outC_old q1.out q2.out hz1 hzo.out (Nat.le_refl _) (show wx.heap.size < (wx.alloc _).heap.size by simp))
      case rest =>
        obtain ⟨gp, d1, rfl, rfl, hO1, hs1, hc1, hx1⟩ := hcut.out
        clear hcut
        have hy1 := Lib.hid (hyx.out.trans (Below.mono hx1 hyx.out.size))
        have hyi1 := Lib.hid (hyxi.out.trans (Below.mono hx1 hyxi.out.size))
        have hOt1 := Lib.hid (hOt.out.below hx1 hOt.out.lt)
        have hKr1 := Lib.hid (hKr.out.below hx1 hKr.out.lt)
        have hNr1 := Lib.hid (hNr.out.below hx1 hNr.out.lt)
        have hSx1 := Lib.hid (hSx.out.mono (sub_of_below hx1))
        replace hO1 := Lib.hid hO1
        replace hs1 := Lib.hid hs1
        replace hc1 := Lib.hid hc1
        clear hx1 hyx hyxi hOt hKr hNr hSx t0 k0
        go_upto_region 16 with fail
        have t0 := hOt1.out.cell 0
        simp only [List.getElem?_toArray, List.getElem?_cons_zero] at t0
        have k0 := (hKr1.out.cell i).trans hkd1.out
        generalize wc = wx at hy1 hyi1 hOt1 hKr1 hNr1 hSx1 hO1 hc1 t0 k0 ⊢
        go_cut [18, 19] (fun t18 t19 wy => Hid (OutC wx fo t18 t19 wy))
        case first =>
          have hKp : Hid (∀ u, Aft wx u → u.cell? ⟨gt, 0, none⟩ = some (.slice za zn zc) ∧ u.cell? ⟨gk, i, none⟩ = some (.string kd)) :=
            Lib.hid fun u hb => ⟨cell_later hb t0, cell_later hb k0⟩
          have cA : Hid (∀ (u : World) (hb : Aft wx u), Calls Tryz.prog 11 #[.agg #[.slice za zn zc], .string kd] u fun e u' => FndR fo wx.heap.size u.heap.size e u' ∧ Aft u u') :=
            Lib.hid (fun u hb => by rw [← hfo]; exact fndF lz za zn zc kd wx u hb hSx1.out)
          clear t0 k0
          go_region_held3 (fun u => u.cell? ⟨gt, 0, none⟩ = some (.slice za zn zc) ∧ u.cell? ⟨gk, i, none⟩ = some (.string kd))
            (exact hKp.out _ (by repeat (first | assumption | exact Aft.refl _ | apply Aft.dr | apply Aft.alloc | (refine Aft.set ?_ (by simp) _))))
            ((go_at_call 11; (with_reducible refine (cA.out _ (by repeat (first | assumption | exact Aft.refl _ | apply Aft.dr | apply Aft.alloc))).mono ?_); rintro e u1 ⟨⟨d, rfl, q1, q2⟩, hz0⟩; replace q1 := Lib.hid q1; replace q2 := Lib.hid q2; have hz1 : Aft wx u1 := Aft.next hz0 (by repeat (first | assumption | exact Aft.refl _ | apply Aft.dr | apply Aft.alloc)); (try (have hzo : Own u1 wx.heap.size #[.string ⟨#[]⟩, .string ⟨#[]⟩, .slice none 0 0] 37 := Own.below (w := (wx.alloc (.cells #[.string ⟨#[]⟩, .string ⟨#[]⟩, .slice none 0 0] 37)).drew) (show Own (wx.alloc (.cells #[.string ⟨#[]⟩, .string ⟨#[]⟩, .slice none 0 0] 37)) wx.heap.size _ _ from Own.new wx _ _) hz0 (show wx.heap.size < (wx.alloc (.cells #[.string ⟨#[]⟩, .string ⟨#[]⟩, .slice none 0 0] 37)).heap.size by simp); obtain ⟨z0, z1, z2⟩ := own3c hzo; have f0 := hzo.free 0; have f1 := hzo.free 1; have f2 := hzo.free 2; have hzl := hzo.lt; replace hzo := Lib.hid hzo))))
          all_goals
            go_wp2
            go_meet
            first
              | exact Lib.hid (outC_new q1.out q2.out hz1)
              | exact Lib.hid (outC_old q1.out q2.out hz1 hzo.out (Nat.le_refl _) (show wx.heap.size < (wx.alloc _).heap.size by simp))
        case rest =>
          obtain ⟨gq, d2, rfl, rfl, hO2, hs2, hc2, hx2⟩ := hcut.out
          clear hcut
          have hO1' := Lib.hid (hO1.out.below hx2 hO1.out.lt)
          have hc1' := hc1.out.mono (sub_of_below hx2)
          have hbP : Below wc.heap.size wc ((wc.alloc (.cells #[.string d1.kind, .string d1.key, .slice d1.ptr d1.len d1.cap] 37)).alloc (.cells #[.string d2.kind, .string d2.key, .slice d2.ptr d2.len d2.cap] 37)) := ((Below.refl _ _).alloc (Nat.le_refl _) _).alloc (by simp) _
          have hx3 := hx2.trans (hbP.mono hx2.size)
          have oA : Own ((wc.alloc (.cells #[.string d1.kind, .string d1.key, .slice d1.ptr d1.len d1.cap] 37)).alloc (.cells #[.string d2.kind, .string d2.key, .slice d2.ptr d2.len d2.cap] 37)) wc.heap.size #[.string d1.kind, .string d1.key, .slice d1.ptr d1.len d1.cap] 37 := (Own.new wc _ _).alloc _
          have oB : Own ((wc.alloc (.cells #[.string d1.kind, .string d1.key, .slice d1.ptr d1.len d1.cap] 37)).alloc (.cells #[.string d2.kind, .string d2.key, .slice d2.ptr d2.len d2.cap] 37)) (wc.heap.size + 1) #[.string d2.kind, .string d2.key, .slice d2.ptr d2.len d2.cap] 37 := Own.new' (by simp)
          have cS := Lib.hid (same_ref [d1] [d2] _ _ 1 1 1 1 _ (one_at oA (hc1'.mono (sub_of_below hbP))) (one_at oB (hc2.mono (sub_of_below hbP))))
          have hy3 := Lib.hid (hy1.out.trans (Below.mono hx3 hy1.out.size))
          have hyi3 := Lib.hid (hyi1.out.trans (Below.mono hx3 hyi1.out.size))
          have hOt3 := Lib.hid (hOt1.out.below hx3 hOt1.out.lt)
          have hKr3 := Lib.hid (hKr1.out.below hx3 hKr1.out.lt)
          have hNr3 := Lib.hid (hNr1.out.below hx3 hNr1.out.lt)
          have hSx3 := Lib.hid (hSx1.out.mono (sub_of_below hx3))
          have hpr := Lib.hid (pairs_one (ceq_two hs1.out hs2))
          obtain ⟨p0, p1, p2⟩ := own3c hO1'.out
          obtain ⟨q0, q1, q2⟩ := own3c hO2
          have hpl := hO1'.out.lt
          have hql := hO2.lt
          clear hx2 hx3 hc1' hc2 hbP oA oB hy1 hyi1 hOt1 hKr1 hNr1 hSx1 hO1 hc1 hs1 hs2 t0 k0
          replace hO2 := Lib.hid hO2
          go_wp2_with fail
          refine cS.out.mono ?_
          rintro e w5' ⟨⟨b, rfl, hb⟩, hb5⟩
          obtain rfl : b = true := hb.2 hpr.out
          have hyi5 := Lib.hid (hyi3.out.trans (hb5.mono hyi3.out.size))
          have hOt5 := Lib.hid (hOt3.out.below hb5 hOt3.out.lt)
          have hKr5 := Lib.hid (hKr3.out.below hb5 hKr3.out.lt)
          have hNr5 := Lib.hid (hNr3.out.below hb5 hNr3.out.lt)
          have hSx5 := Lib.hid (hSx3.out.mono (sub_of_below hb5))
          clear hb hb5 hpr cS hy3 hyi3 hOt3 hKr3 hNr3 hSx3 p0 p1 p2 q0 q1 q2 hpl hql hO1' hO2
          go_wp2_with fail
          go_loopw [20] (fun s20 wq => ∃ m : Nat, m ≤ 6 ∧ s20 = .int .i64 m ∧ Hid (Below w5'.heap.size w5' wq)) (fun s20 _ => 6 - (intOf s20).toNat)
          case atStart => exact ⟨0, by omega, rfl, Lib.hid (Below.refl _ _)⟩
          case round =>
            obtain ⟨m, hm, rfl, hz⟩ := hrel
            have hyz := Lib.hid (hyi5.out.trans (hz.out.mono hyi5.out.size))
            by_cases hlt6 : m < 6
            case neg =>
              go_wp2
              go_roundw
              case rel => exact ⟨j + 1, by omega, by go_num, hyz⟩
              case measure => simp [intOf]; omega
            obtain ⟨nd, hnd1⟩ := hnd.out m hlt6
            have hOtz := hOt5.out.below hz.out hOt5.out.lt
            have hKz := hKr5.out.below hz.out hKr5.out.lt
            have hNz := hNr5.out.below hz.out hNr5.out.lt
            have hSz := Lib.hid (hSx5.out.mono (sub_of_below hz.out))
            have t0 := hOtz.cell 0
            simp only [List.getElem?_toArray, List.getElem?_cons_zero] at t0
            have k0 := (hKz.cell i).trans hkd1.out
            have v0 := (hNz.cell m).trans hnd1
            have l0 : (0 : Int) ≤ (m : Int) := by omega
            have l1 : (m : Int) < 6 := by omega
            replace hOtz := Lib.hid hOtz
            replace hKz := Lib.hid hKz
            replace hNz := Lib.hid hNz
            replace hnd1 := Lib.hid hnd1
            obtain ⟨vo, hvo⟩ : ∃ o, lookS lz kd.toList nd.toList = o := ⟨_, rfl⟩
            go_upto_region 22 with fail
            go_cut [21, 22] (fun ta tb wy => Hid (OutV wr vo ta tb wy))
            case first =>
              have hKp : Hid (∀ u, Aft wr u → u.cell? ⟨gt, 0, none⟩ = some (.slice za zn zc) ∧ u.cell? ⟨gk, i, none⟩ = some (.string kd) ∧ u.cell? ⟨gn, m, none⟩ = some (.string nd)) :=
                Lib.hid fun u hb => ⟨cell_later hb t0, cell_later hb k0, cell_later hb v0⟩
              have cA : Hid (∀ (u : World) (hb : Aft wr u), Calls Tryz.prog 13 #[.agg #[.slice za zn zc], .string kd, .string nd] u fun e u' => LkR vo wr.heap.size u.heap.size e u' ∧ Aft u u') :=
                Lib.hid (fun u hb => by rw [← hvo]; exact lkP lz za zn zc kd nd wr u hb hSz.out)
              clear t0 k0 v0
              go_region_held3 (fun u => u.cell? ⟨gt, 0, none⟩ = some (.slice za zn zc) ∧ u.cell? ⟨gk, i, none⟩ = some (.string kd) ∧ u.cell? ⟨gn, m, none⟩ = some (.string nd))
                (exact hKp.out _ (by repeat (first | assumption | exact Aft.refl _ | apply Aft.dr | apply Aft.alloc | (refine Aft.set ?_ (by simp) _))))
                ((go_at_call 13; (with_reducible refine (cA.out _ (by repeat (first | assumption | exact Aft.refl _ | apply Aft.dr | apply Aft.alloc))).mono ?_); rintro e u1 ⟨⟨d, rfl, q1, q2⟩, hz0⟩; replace q1 := Lib.hid q1; replace q2 := Lib.hid q2; have hz1 : Aft wr u1 := Aft.next hz0 (by repeat (first | assumption | exact Aft.refl _ | apply Aft.dr | apply Aft.alloc)); (try (have hzo : Own u1 wr.heap.size #[.int .i64 0, .int .i64 0, .string ⟨#[]⟩, .slice none 0 0] 42 := Own.below (w := (wr.alloc (.cells #[.int .i64 0, .int .i64 0, .string ⟨#[]⟩, .slice none 0 0] 42)).drew) (show Own (wr.alloc (.cells #[.int .i64 0, .int .i64 0, .string ⟨#[]⟩, .slice none 0 0] 42)) wr.heap.size _ _ from Own.new wr _ _) hz0 (show wr.heap.size < (wr.alloc (.cells #[.int .i64 0, .int .i64 0, .string ⟨#[]⟩, .slice none 0 0] 42)).heap.size by simp); obtain ⟨z0, z1, z2, z3, f0, f1, f2, f3⟩ := own4z hzo; have hzl := hzo.lt; replace hzo := Lib.hid hzo))))
              all_goals
                go_wp2
                go_meet
                first
                  | exact Lib.hid (outV_new q1.out q2.out hz1)
                  | exact Lib.hid (outV_old q1.out q2.out hz1 hzo.out (Nat.le_refl _) (show wr.heap.size < (wr.alloc _).heap.size by simp))
            case rest =>
              obtain ⟨ga, d3, rfl, rfl, hO3, hs3, hc3, hx4⟩ := hcut.out
              clear hcut
              have hz4 := Lib.hid (hz.out.trans (Below.mono hx4 hz.out.size))
              have hOt4 := Lib.hid (hOtz.out.below hx4 hOtz.out.lt)
              have hKr4 := Lib.hid (hKz.out.below hx4 hKz.out.lt)
              have hNr4 := Lib.hid (hNz.out.below hx4 hNz.out.lt)
              have hSz4 := Lib.hid (hSz.out.mono (sub_of_below hx4))
              replace hO3 := Lib.hid hO3
              replace hs3 := Lib.hid hs3
              replace hc3 := Lib.hid hc3
              clear hx4 hz hyz hOtz hKz hNz hSz t0 k0 v0
              go_upto_region 23 with fail
              have t0 := hOt4.out.cell 0
              simp only [List.getElem?_toArray, List.getElem?_cons_zero] at t0
              have k0 := (hKr4.out.cell i).trans hkd1.out
              have v0 := (hNr4.out.cell m).trans hnd1.out
              generalize wc = wv at hz4 hOt4 hKr4 hNr4 hSz4 hO3 hc3 t0 k0 v0 ⊢
              go_cut [23, 24] (fun ta tb wy => Hid (OutV wv vo ta tb wy))
              case first =>
                have hKp : Hid (∀ u, Aft wv u → u.cell? ⟨gt, 0, none⟩ = some (.slice za zn zc) ∧ u.cell? ⟨gk, i, none⟩ = some (.string kd) ∧ u.cell? ⟨gn, m, none⟩ = some (.string nd)) :=
                  Lib.hid fun u hb => ⟨cell_later hb t0, cell_later hb k0, cell_later hb v0⟩
                have cA : Hid (∀ (u : World) (hb : Aft wv u), Calls Tryz.prog 14 #[.agg #[.slice za zn zc], .string kd, .string nd] u fun e u' => LkR vo wv.heap.size u.heap.size e u' ∧ Aft u u') :=
                  Lib.hid (fun u hb => by rw [← hvo]; exact lkF lz za zn zc kd nd wv u hb hSz4.out)
                clear t0 k0 v0
                go_region_held3 (fun u => u.cell? ⟨gt, 0, none⟩ = some (.slice za zn zc) ∧ u.cell? ⟨gk, i, none⟩ = some (.string kd) ∧ u.cell? ⟨gn, m, none⟩ = some (.string nd))
                  (exact hKp.out _ (by repeat (first | assumption | exact Aft.refl _ | apply Aft.dr | apply Aft.alloc | (refine Aft.set ?_ (by simp) _))))
                  ((go_at_call 14; (with_reducible refine (cA.out _ (by repeat (first | assumption | exact Aft.refl _ | apply Aft.dr | apply Aft.alloc))).mono ?_); rintro e u1 ⟨⟨d, rfl, q1, q2⟩, hz0⟩; replace q1 := Lib.hid q1; replace q2 := Lib.hid q2; have hz1 : Aft wv u1 := Aft.next hz0 (by repeat (first | assumption | exact Aft.refl _ | apply Aft.dr | apply Aft.alloc)); (try (have hzo : Own u1 wv.heap.size #[.int .i64 0, .int .i64 0, .string ⟨#[]⟩, .slice none 0 0] 42 := Own.below (w := (wv.alloc (.cells #[.int .i64 0, .int .i64 0, .string ⟨#[]⟩, .slice none 0 0] 42)).drew) (show Own (wv.alloc (.cells #[.int .i64 0, .int .i64 0, .string ⟨#[]⟩, .slice none 0 0] 42)) wv.heap.size _ _ from Own.new wv _ _) hz0 (show wv.heap.size < (wv.alloc (.cells #[.int .i64 0, .int .i64 0, .string ⟨#[]⟩, .slice none 0 0] 42)).heap.size by simp); obtain ⟨z0, z1, z2, z3, f0, f1, f2, f3⟩ := own4z hzo; have hzl := hzo.lt; replace hzo := Lib.hid hzo))))
                all_goals
                  go_wp2
                  go_meet
                  first
                    | exact Lib.hid (outV_new q1.out q2.out hz1)
                    | exact Lib.hid (outV_old q1.out q2.out hz1 hzo.out (Nat.le_refl _) (show wv.heap.size < (wv.alloc _).heap.size by simp))
              case rest =>
                obtain ⟨gb, d4, rfl, rfl, hO4, hs4, hc4, hx5⟩ := hcut.out
                clear hcut
                have hO3' := Lib.hid (hO3.out.below hx5 hO3.out.lt)
                have hc3' := hc3.out.mono (sub_of_below hx5)
                have cE := eqs_ref d3 d4 wc hc3' hc4
                rw [eqV_two hs3.out hs4] at cE
                replace cE := Lib.hid cE
                have hz5 := Lib.hid (hz4.out.trans (Below.mono hx5 hz4.out.size))
                obtain ⟨p0, p1, p2, p3, -⟩ := own4z hO3'.out
                obtain ⟨q0, q1, q2, q3, -⟩ := own4z hO4
                have hpl := hO3'.out.lt
                have hql := hO4.lt
                clear hx5 hc3' hc4 hs3 hs4 hc3 hO3 hz4 hOt4 hKr4 hNr4 hSz4 t0 k0 v0
                replace hO4 := Lib.hid hO4
                go_wp2_with fail
                refine cE.out.mono ?_
                rintro e w6' ⟨rfl, hb6⟩
                have hz6 := Lib.hid (hz5.out.trans (hb6.mono hz5.out.size))
                clear hb6 hz5 cE p0 p1 p2 p3 q0 q1 q2 q3 hpl hql hO3' hO4
                go_wp2
                go_roundw
                case rel => exact ⟨m + 1, by omega, by go_num, hz6⟩
                case measure => simp [intOf]; omega

end Go.Proofs.YthnjgbjckggjhaaGreatDoor.subj.wide

