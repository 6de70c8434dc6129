/- SubjectJoins: the walk. SubjectJoins: the walk, with what the row gives it. -/
import Derived.Test.YtkglejfkfeahcaaGreatDoorKSuJw
import Derived.Test.YtkglejfkfeahcaaGreatDoorKSuJr
import Derived.Test.YtkglejfkfeahcaaGreatDoorKJ22
import Derived.Test.YtkglejfkfeahcaaGreatDoorKSuP
import Derived.Test.YtkglejfkfeahcaaGreatDoorKSuA
import Derived.Test.YtkglejfkfeahcaaGreatDoorKSuV
import Derived.Test.YtkglejfkfeahcaaGreatDoorKClB
import Derived.Test.YtkglejfkfeahcaaGreatDoorKRowSJ
import Derived.Test.YtkglejfkfeahcaaGreatDoorKJ9
namespace Go.Proofs.YtkglejfkfeahcaaGreatDoor.subj
open Go.RowKit Go.Sort Go.Proofs.YtkglejfkfeahcaaGreatDoor Go.Proofs.YtkglejfkfeahcaaGreatDoor.schema Go.Proofs.YtkglejfkfeahcaaGreatDoor.value Go.Proofs.YtkglejfkfeahcaaGreatDoor.text Go.Proofs.YtkglejfkfeahcaaGreatDoor.clause Go.Proofs.YtkglejfkfeahcaaGreatDoor.draw

theorem codes_other {b b1 : Nat} {a a1 : Option Addr} {n c n1 c1 : Nat} {w u : World} (h : Codes b a n c w) (g : w.grownBy u (some b1)) (hne : b1 ≠ b) (hO : Head b1 a1 n1 c1 w) : Codes b a n c u := by
  refine ⟨h.1.kept g (fun e => hne (Option.some.inj e)), h.2.1, ?_⟩
  rcases h.2.2 with h4 | ⟨blk, off, ha, h4⟩
  · exact Or.inl h4
  · refine Or.inr ⟨blk, off, ha, fun i hi => ?_⟩
    obtain ⟨v, h0, h1, h2⟩ := h4 i hi
    refine ⟨v, h0, h1, ?_⟩
    have h3 := but_sub _ _ _ _ h2
    have hb : blk ≠ b := by intro e; unfold but at h2; rw [if_pos e] at h2; cases h2
    have hb1 : blk ≠ b1 := by
      rintro rfl
      obtain ⟨k, hk⟩ := hO
      have h5 := hk.own.cell (off + i)
      rw [h3] at h5
      rcases Nat.lt_or_ge (off + i) 2 with h6 | h6
      · have h7 : off + i = 0 ∨ off + i = 1 := by omega
        rcases h7 with e | e <;> rw [e] at h5 <;> simp at h5
      · rw [Array.getElem?_eq_none (by simpa using h6)] at h5
        cases h5
    unfold but
    rw [if_neg hb]
    exact g.cell h3 (fun e => hb1 (Option.some.inj e))

/-- A pair of subjects. -/
structure PR (w : World) (v0 v1 : Value) (p0 p1 : Option Addr) (n0 c0 n1 c1 : Nat) (l0 l1 : List CT) : Prop where
  e0 : v0 = .slice p0 n0 c0
  e1 : v1 = .slice p1 n1 c1
  s0 : SAt w.cell? (.slice p0 n0 c0) l0
  s1 : SAt w.cell? (.slice p1 n1 c1) l1
  m0 : Nm l0
  m1 : Nm l1
theorem alike_self (l : List CT) : Alike SameC l l := Alike.refl' (fun _ => ⟨rfl, rfl, Alike.refl' (fun _ => ⟨rfl, rfl, rfl, rfl, rfl⟩) _⟩) l
theorem sat_move {B b1 b2 : Nat} {w u : World} {v : Value} {l : List CT} (h : SAt (newM B b1 w) v l) (g : w.grownBy u (some b2)) (hb : b2 < B) : SAt u.cell? v l := h.mono fun p x hp => by
  have h1 := newM_in _ _ _ _ _ hp
  have h2 : ¬ p.block < B := by
    intro e
    unfold newM at hp
    rw [if_pos (Or.inl e)] at hp
    cases hp
  exact g.cell h1 (fun e => by have := Option.some.inj e; omega)

set_option maxRecDepth 100000 in
set_option maxHeartbeats 16000000 in
theorem joins_walk (a1 a2 va : Option Addr) (n1 c1 n2 c2 vn vc : Nat) (l : List CT) (w : World) (h1 : BytesAt w.cell? a1 n1 c1) (h2 : BytesAt w.cell? a2 n2 c2) (hS : SAt w.cell? (.slice va vn vc) l) (hN : Nm l) (hg : ∀ b, w.heap.size ≤ b → Glob (but b w)) (hT : STabs w) :
    Calls Tryz.prog 3 #[.slice a1 n1 c1, .slice a2 n2 c2, .agg #[.slice va vn vc]] w fun e w' => e = .returned (.bool true) ∧ Below w.heap.size w w' := by
  have hB0 : Below w.heap.size w (w.alloc (.cells #[.slice va vn vc] 25)) := (Below.refl _ _).alloc (Nat.le_refl _) _
  have hOs := Lib.hid (Own.new w #[.slice va vn vc] 25)
  replace h1 := Lib.hid h1
  replace h2 := Lib.hid h2
  replace hS := Lib.hid hS
  replace hN := Lib.hid hN
  replace hg := Lib.hid hg
  replace hT := Lib.hid hT
  replace hB0 := Lib.hid hB0
  go_enter Tryz.func3, Tryz.ntmps3
  go_wp2_with fail
  generalize w.alloc (.cells #[.slice va vn vc] 25) = w0 at hB0 hOs ⊢
  obtain ⟨gs, hgs⟩ : ∃ g : Nat, Hid (g = w.heap.size) := ⟨_, Lib.hid rfl⟩
  rw [← hgs.out] at hOs ⊢
  refine (sawake_any _ (hT.out.below hB0.out)).mono ?_
  rintro e w1 ⟨rfl, hb⟩
  have hB1 := Lib.hid (hB0.out.trans (hb.mono hB0.out.size))
  have hO1 := Lib.hid (hOs.out.below hb hOs.out.lt)
  clear hb hB0 hOs
  have s0 := hO1.out.cell 0
  have sl := hO1.out.lt
  simp only [List.getElem?_toArray, List.getElem?_cons_zero] at s0
  go_wp2_with fail
  refine (small_any l va vn vc _ (hS.out.mono (sub_of_below hB1.out))).mono ?_
  rintro e w2 ⟨rfl, hb⟩
  have hB2 := Lib.hid (hB1.out.trans (hb.mono hB1.out.size))
  have hO2 := Lib.hid (hO1.out.below hb hO1.out.lt)
  clear hb hB1 hO1 s0 sl
  generalize smallB l = sm
  cases sm
  case false =>
    go_wp2
    go_ret
    exact ⟨rfl, hB2.out⟩
  have hz2 : w.heap.size ≤ w2.heap.size := hB2.out.size
  have hg2 : gs < w2.heap.size := hO2.out.lt
  go_wp2_with fail
  refine (new_any a1 n1 c1 80 _ (by omega) (by omega) (h1.out.mono (sub_of_below hB2.out))).mono ?_
  rintro e w3 ⟨rfl, ⟨a1', n1', c1', hC⟩, hb⟩
  have hB3 := Lib.hid (hB2.out.trans (hb.mono hz2))
  have hO3 := Lib.hid (hO2.out.below hb hg2)
  have hz3 : w.heap.size ≤ w3.heap.size := hB3.out.size
  have hbl1 : w2.heap.size < w3.heap.size := hC.lt
  replace hC := Lib.hid hC
  clear hb hB2 hO2
  generalize w2.heap.size = b1 at hC hz2 hg2 hbl1 ⊢
  go_wp2_with fail
  refine (new_any a2 n2 c2 80 _ (by omega) (by omega) (h2.out.mono (sub_of_below hB3.out))).mono ?_
  rintro e w4 ⟨rfl, ⟨a2', n2', c2', hD⟩, hb⟩
  have hB4 := Lib.hid (hB3.out.trans (hb.mono hz3))
  have hO4 := Lib.hid (hO3.out.below hb hO3.out.lt)
  have hC4 := Lib.hid (hC.out.below hb)
  have hz4 : w.heap.size ≤ w4.heap.size := hB4.out.size
  have hbl2 : w3.heap.size < w4.heap.size := hD.lt
  replace hD := Lib.hid hD
  clear hb hB3 hO3 hC
  generalize w3.heap.size = b2 at hD hz3 hbl1 hbl2 ⊢
  go_wp2_with fail
  refine (subject_any b1 a1' n1' c1' _ hC4.out ((hg.out b1 hz2).mono (sub_of_grown (grown_of_below hB4.out _)))).mono ?_
  rintro e w5 ⟨⟨xa, xn, xc, lx, rfl, hokx, hX⟩, -, hG⟩
  have hB5 := Lib.hid (hB4.out.grown hG hz4 (fun k e => by cases e; omega))
  have hO5 := Lib.hid (hO4.out.kept hG (by simp; omega))
  have hD5 := Lib.hid (codes_other hD.out hG (by omega) hC4.out.1)
  have hX5 := Lib.hid hX
  have hNx := Lib.hid (okSub_nmR hokx.1)
  have hz5 : w4.heap.size ≤ w5.heap.size := hG.size
  clear hG hB4 hO4 hD hC4 hX hokx
  go_wp2_with fail
  refine (subject_any b2 a2' n2' c2' _ hD5.out ((hg.out b2 hz3).mono (sub_of_grown (grown_of_below hB5.out _)))).mono ?_
  rintro e w6 ⟨⟨ya, yn, yc, ly, rfl, hoky, hY⟩, hH, hG⟩
  have hB6 := Lib.hid (hB5.out.grown hG (by omega) (fun k e => by cases e; omega))
  have hO6 := Lib.hid (hO5.out.kept hG (by simp; omega))
  have hD6 := Lib.hid (hD5.out.still hG hH)
  have hG6 := Lib.hid hG
  have hY6 := Lib.hid (hY.mono (newM_but _ _ _))
  have hNy := Lib.hid (okSub_nmR hoky.1)
  have hfy := Lib.hid (okSub_fewR hoky.1)
  have hly := hoky.1.len
  have hz6 : w5.heap.size ≤ w6.heap.size := hG.size
  clear hG hH hY hoky hB5 hO5 hD5
  go_wp2_with fail
  refine (spoil_any b2 a2' n2' c2' ya yn yc ly _ hD6.out ((hg.out b2 hz3).mono (sub_of_grown (grown_of_below hB6.out _))) hY6.out hly hNy.out hfy.out).mono ?_
  rintro e w7 ⟨⟨za, zn, zc, lz, rfl, ⟨-, hNz, -⟩, hZ⟩, -, hG⟩
  have hB7 := Lib.hid (hB6.out.grown hG (by omega) (fun k e => by cases e; omega))
  have hO7 := Lib.hid (hO6.out.kept hG (by simp; omega))
  have hX7 := Lib.hid (sat_move hX5.out (g_call hG6.out hG) hbl2)
  have hZ7 := Lib.hid (hZ.mono (but_sub _ _))
  have hNz7 := Lib.hid hNz
  have hz7 : w6.heap.size ≤ w7.heap.size := hG.size
  have hS7 := Lib.hid (hS.out.mono (sub_of_below hB7.out))
  have hT7 := Lib.hid (hT.out.below hB7.out)
  clear hG hZ hNz hB6 hO6 hD6 hG6 hY6 hNy hfy hX5 hly
  have s0 := hO7.out.cell 0
  have sl := hO7.out.lt
  simp only [List.getElem?_toArray, List.getElem?_cons_zero] at s0
  go_wp2_with fail
  have hBp : Below w7.heap.size w7 (((w7.alloc (.cells #[.slice xa xn xc] 25)).alloc (.cells #[.slice za zn zc] 25)).alloc (.cells #[.slice xa xn xc, .slice za zn zc, .slice za zn zc, .slice xa xn xc, .slice xa xn xc, .slice va vn vc, .slice va vn vc, .slice za zn zc] 32)) := (((Below.refl _ _).alloc (Nat.le_refl _) _).alloc (by simp) _).alloc (by simp; omega) _
  have hOp := Lib.hid (show Own (((w7.alloc (.cells #[.slice xa xn xc] 25)).alloc (.cells #[.slice za zn zc] 25)).alloc (.cells #[.slice xa xn xc, .slice za zn zc, .slice za zn zc, .slice xa xn xc, .slice xa xn xc, .slice va vn vc, .slice va vn vc, .slice za zn zc] 32)) (w7.heap.size + 1 + 1) #[.slice xa xn xc, .slice za zn zc, .slice za zn zc, .slice xa xn xc, .slice xa xn xc, .slice va vn vc, .slice va vn vc, .slice za zn zc] 32 from Own.new' (by simp))
  have hpairs : Hid (∀ (k : Nat), k < 4 → ∃ (v0 v1 : Value) (p0 p1 : Option Addr) (m0 d0 m1 d1 : Nat) (l0 l1 : List CT), (#[Value.slice xa xn xc, .slice za zn zc, .slice za zn zc, .slice xa xn xc, .slice xa xn xc, .slice va vn vc, .slice va vn vc, .slice za zn zc] : Array Value)[k * 2]? = some v0 ∧ (#[Value.slice xa xn xc, .slice za zn zc, .slice za zn zc, .slice xa xn xc, .slice xa xn xc, .slice va vn vc, .slice va vn vc, .slice za zn zc] : Array Value)[k * 2 + 1]? = some v1 ∧ PR w7 v0 v1 p0 p1 m0 d0 m1 d1 l0 l1) := by
    refine Lib.hid fun k hk => ?_
    have hk4 : k = 0 ∨ k = 1 ∨ k = 2 ∨ k = 3 := by omega
    rcases hk4 with rfl | rfl | rfl | rfl
    · exact ⟨_, _, _, _, _, _, _, _, _, _, rfl, rfl, rfl, rfl, hX7.out, hZ7.out, hNx.out, hNz7.out⟩
    · exact ⟨_, _, _, _, _, _, _, _, _, _, rfl, rfl, rfl, rfl, hZ7.out, hX7.out, hNz7.out, hNx.out⟩
    · exact ⟨_, _, _, _, _, _, _, _, _, _, rfl, rfl, rfl, rfl, hX7.out, hS7.out, hNx.out, hN.out⟩
    · exact ⟨_, _, _, _, _, _, _, _, _, _, rfl, rfl, rfl, rfl, hS7.out, hZ7.out, hN.out, hNz7.out⟩
  have hBw := Lib.hid (hB7.out.trans (hBp.mono hB7.out.size))
  replace hBp := Lib.hid hBp
  generalize (((w7.alloc (.cells #[.slice xa xn xc] 25)).alloc (.cells #[.slice za zn zc] 25)).alloc (.cells #[.slice xa xn xc, .slice za zn zc, .slice za zn zc, .slice xa xn xc, .slice xa xn xc, .slice va vn vc, .slice va vn vc, .slice za zn zc] 32)) = wp at hOp hBp hBw ⊢
  generalize w7.heap.size + 1 + 1 = gp at hOp ⊢
  generalize (#[.slice xa xn xc, .slice za zn zc, .slice za zn zc, .slice xa xn xc, .slice xa xn xc, .slice va vn vc, .slice va vn vc, .slice za zn zc] : Array Value) = PS at hOp hpairs
  clear hX7 hZ7 hS7 hNx hNz7 hO7 s0 sl hB7
  go_loopw [48] (fun s48 wr => ∃ k : Nat, k ≤ 4 ∧ s48 = .int .i64 k ∧ Hid (Below wp.heap.size wp wr)) (fun s48 _ => 4 - (intOf s48).toNat)
  case atStart => exact ⟨0, by omega, rfl, Lib.hid (Below.refl _ _)⟩
  case round =>
    obtain ⟨k, hk, rfl, hb⟩ := hrel
    by_cases hlt : k < 4
    case neg =>
      have hfin := Lib.hid (hBw.out.trans (hb.out.mono hBw.out.size))
      obtain rfl : k = 4 := by omega
      go_wp2
      go_ret
      exact ⟨rfl, hfin.out⟩
    have n0 : (0 : Int) ≤ (k : Int) := by omega
    have n1 : (k : Int) < 4 := by omega
    have hOr := hOp.out.below hb.out hOp.out.lt
    obtain ⟨v0, v1, p0, p1, m0, d0, m1, d1, l0, l1, e0, e1, hP⟩ := hpairs.out k hlt
    have c0 := (hOr.cell (k * 2)).trans e0
    have c1 := (hOr.cell (k * 2 + 1)).trans e1
    obtain ⟨rfl, rfl, hs0, hs1, hm0, hm1⟩ := hP
    have hb7 : Below w7.heap.size w7 wr := hBp.out.trans (hb.out.mono hBp.out.size)
    have hT8 := Lib.hid (hT7.out.below hb7)
    have hs0 := Lib.hid (hs0.mono (sub_of_below hb7))
    have hs1 := Lib.hid (hs1.mono (sub_of_below hb7))
    replace hm0 := Lib.hid hm0
    replace hm1 := Lib.hid hm1
    clear e0 e1 hOr hb7
    go_upto_region 10 with fail
    have hC0 := Lib.hid (show Below wr.heap.size wr (wr.alloc (.cells #[.slice p0 m0 d0, .slice p1 m1 d1] 32)) from (Below.refl _ _).alloc (Nat.le_refl _) _)
    have hQ0 := Lib.hid (Own.new wr #[.slice p0 m0 d0, .slice p1 m1 d1] 32)
    generalize wr.alloc (.cells #[.slice p0 m0 d0, .slice p1 m1 d1] 32) = q0 at hC0 hQ0 ⊢
    obtain ⟨gq, hgq⟩ : ∃ g : Nat, Hid (g = wr.heap.size) := ⟨_, Lib.hid rfl⟩
    rw [← hgq.out] at hQ0 ⊢
    clear c0 c1
    have y0 := hQ0.out.cell 0
    have y1 := hQ0.out.cell 1
    have yl := hQ0.out.lt
    simp only [List.getElem?_toArray, List.getElem?_cons_zero, List.getElem?_cons_succ] at y0 y1
    go_wp2_with fail
    refine (join_any l0 l1 p0 p1 m0 d0 m1 d1 _ (hs0.out.mono (sub_of_below hC0.out)) (hs1.out.mono (sub_of_below hC0.out)) (hT8.out.below hC0.out)).mono ?_
    rintro e e0 ⟨⟨ua, un, uc, lu, rfl, hJu, hS⟩, hb⟩
    have hba : Below e0.heap.size e0 (e0.alloc (.cells #[.slice ua un uc] 25)) := (Below.refl _ _).alloc (Nat.le_refl _) _
    have hbb : Below q0.heap.size q0 (e0.alloc (.cells #[.slice ua un uc] 25)) := hb.trans (hba.mono hb.size)
    have hC1 := Lib.hid (hC0.out.trans (hbb.mono hC0.out.size))
    have hQ1 := Lib.hid (hQ0.out.below hbb hQ0.out.lt)
    have hUu1 := Lib.hid (Own.new e0 #[.slice ua un uc] 25)
    have hVu1 := Lib.hid (hS.mono (sub_of_below hba))
    replace hJu := Lib.hid hJu
    clear hb hba hbb hS y0 y1 yl hC0 hQ0 
    go_upto_region 11 with fail
    generalize e0.alloc (.cells #[.slice ua un uc] 25) = q1 at hC1 hQ1 hUu1 hVu1 ⊢
    obtain ⟨gu, hgu⟩ : ∃ g : Nat, Hid (g = e0.heap.size) := ⟨_, Lib.hid rfl⟩
    rw [← hgu.out] at hUu1 ⊢
    have y0 := hQ1.out.cell 0
    have y1 := hQ1.out.cell 1
    have yl := hQ1.out.lt
    simp only [List.getElem?_toArray, List.getElem?_cons_zero, List.getElem?_cons_succ] at y0 y1
    go_wp2_with fail
    refine (join_ref l0 l1 p0 p1 m0 d0 m1 d1 _ (hs0.out.mono (sub_of_below hC1.out)) (hs1.out.mono (sub_of_below hC1.out)) hm0.out hm1.out (hT8.out.below hC1.out)).mono ?_
    rintro e e1 ⟨⟨va, vn, vc, lv, rfl, hJv, hS⟩, hb⟩
    have hba : Below e1.heap.size e1 (e1.alloc (.cells #[.slice va vn vc] 25)) := (Below.refl _ _).alloc (Nat.le_refl _) _
    have hbb : Below q1.heap.size q1 (e1.alloc (.cells #[.slice va vn vc] 25)) := hb.trans (hba.mono hb.size)
    have hC2 := Lib.hid (hC1.out.trans (hbb.mono hC1.out.size))
    have hQ2 := Lib.hid (hQ1.out.below hbb hQ1.out.lt)
    have hUv2 := Lib.hid (Own.new e1 #[.slice va vn vc] 25)
    have hVv2 := Lib.hid (hS.mono (sub_of_below hba))
    replace hJv := Lib.hid hJv
    have hUu2 := Lib.hid (hUu1.out.below hbb hUu1.out.lt)
    have hVu2 := Lib.hid (hVu1.out.mono (sub_of_below hbb))
    clear hb hba hbb hS y0 y1 yl hC1 hQ1 hUu1 hVu1
    go_upto_region 12 with fail
    generalize e1.alloc (.cells #[.slice va vn vc] 25) = q2 at hC2 hQ2 hUu2 hVu2 hUv2 hVv2 ⊢
    obtain ⟨gv, hgv⟩ : ∃ g : Nat, Hid (g = e1.heap.size) := ⟨_, Lib.hid rfl⟩
    rw [← hgv.out] at hUv2 ⊢
    have y0 := hQ2.out.cell 0
    have y1 := hQ2.out.cell 1
    have yl := hQ2.out.lt
    simp only [List.getElem?_toArray, List.getElem?_cons_zero, List.getElem?_cons_succ] at y0 y1
    go_wp2_with fail
    refine (join_any l1 l0 p1 p0 m1 d1 m0 d0 _ (hs1.out.mono (sub_of_below hC2.out)) (hs0.out.mono (sub_of_below hC2.out)) (hT8.out.below hC2.out)).mono ?_
    rintro e e2 ⟨⟨ta, tn, tc, lt, rfl, hJt, hS⟩, hb⟩
    have hba : Below e2.heap.size e2 (e2.alloc (.cells #[.slice ta tn tc] 25)) := (Below.refl _ _).alloc (Nat.le_refl _) _
    have hbb : Below q2.heap.size q2 (e2.alloc (.cells #[.slice ta tn tc] 25)) := hb.trans (hba.mono hb.size)
    have hC3 := Lib.hid (hC2.out.trans (hbb.mono hC2.out.size))
    have hQ3 := Lib.hid (hQ2.out.below hbb hQ2.out.lt)
    have hUt3 := Lib.hid (Own.new e2 #[.slice ta tn tc] 25)
    have hVt3 := Lib.hid (hS.mono (sub_of_below hba))
    replace hJt := Lib.hid hJt
    have hUu3 := Lib.hid (hUu2.out.below hbb hUu2.out.lt)
    have hVu3 := Lib.hid (hVu2.out.mono (sub_of_below hbb))
    have hUv3 := Lib.hid (hUv2.out.below hbb hUv2.out.lt)
    have hVv3 := Lib.hid (hVv2.out.mono (sub_of_below hbb))
    clear hb hba hbb hS y0 y1 yl hC2 hQ2 hUu2 hVu2 hUv2 hVv2
    go_upto_region 13 with fail
    generalize e2.alloc (.cells #[.slice ta tn tc] 25) = q3 at hC3 hQ3 hUu3 hVu3 hUv3 hVv3 hUt3 hVt3 ⊢
    obtain ⟨gt, hgt⟩ : ∃ g : Nat, Hid (g = e2.heap.size) := ⟨_, Lib.hid rfl⟩
    rw [← hgt.out] at hUt3 ⊢
    have u0 := hUu3.out.cell 0
    have v0 := hUv3.out.cell 0
    have t0 := hUt3.out.cell 0
    have ul := hUu3.out.lt
    have vl := hUv3.out.lt
    have tl := hUt3.out.lt
    simp only [List.getElem?_toArray, List.getElem?_cons_zero] at u0 v0 t0
    have hPuv := Lib.hid (pairs_alike (Joined.alike hJu.out hJv.out) (alike_self lv))
    have hPut := Lib.hid (fun h : joinE l0 l1 = 0 => pairs_alike (Joined.turned h hJu.out hJt.out) (alike_self lt))
    have hzz := joinE_comm l0 l1
    have hbend := Lib.hid (hb.out.trans (hC3.out.mono hb.out.size))
    generalize joinE l0 l1 = E0 at hPut hzz ⊢
    generalize joinE l1 l0 = E1 at hzz ⊢
    clear hJu hJv hJt hC3 hQ3 hUu3 hUv3 hUt3 hb
    by_cases hE : E0 = 0
    case pos =>
      obtain rfl := hzz.1 hE
      subst hE
      replace hPut := Lib.hid (hPut.out rfl)
      clear hzz
      go_wp2_with fail
      refine (same_ref lu lv ua va un vn uc vc _ hVu3.out hVv3.out).mono ?_
      rintro e e4 ⟨⟨b4, rfl, hb4⟩, hbl⟩
      obtain rfl := hb4.2 hPuv.out
      have u4 := hbl.cell (World.block_lt_of_cell? _ _ u0)
      have t4 := hbl.cell (World.block_lt_of_cell? _ _ t0)
      rw [u0] at u4
      rw [t0] at t4
      have hVu4 := Lib.hid (hVu3.out.mono (sub_of_below hbl))
      have hVt4 := Lib.hid (hVt3.out.mono (sub_of_below hbl))
      have hbn4 := Lib.hid (hbend.out.trans (hbl.mono hbend.out.size))
      have ul4 : gu < e4.heap.size := Nat.lt_of_lt_of_le ul hbl.size
      have tl4 : gt < e4.heap.size := Nat.lt_of_lt_of_le tl hbl.size
      clear hbl u0 v0 t0 ul vl tl hb4 hbend
      go_wp2_with fail
      refine (same_ref lu lt ua ta un tn uc tc _ hVu4.out hVt4.out).mono ?_
      rintro e e5 ⟨⟨b5, rfl, hb5⟩, hbl⟩
      obtain rfl := hb5.2 hPut.out
      have hbn5 := Lib.hid (hbn4.out.trans (hbl.mono hbn4.out.size))
      clear hbl u4 t4 hbn4 hb5
      go_wp2
      go_roundw
      case rel => exact ⟨k + 1, by omega, by go_num, hbn5⟩
      case measure => simp [intOf]; omega
    case neg =>
      have hE1 : ¬ E1 = 0 := fun h => hE (hzz.2 h)
      have z0 : (E0 == 0) = false := by simpa using hE
      have z1 : (E1 == 0) = false := by simpa using hE1
      replace hE := Lib.hid hE
      clear hzz hE1 hPut
      go_wp2_with fail
      refine (same_ref lu lv ua va un vn uc vc _ hVu3.out hVv3.out).mono ?_
      rintro e e4 ⟨⟨b4, rfl, hb4⟩, hbl⟩
      obtain rfl := hb4.2 hPuv.out
      have hbn4 := Lib.hid (hbend.out.trans (hbl.mono hbend.out.size))
      clear hbl u0 v0 t0 ul vl tl hb4 hbend
      go_wp2
      go_roundw
      case rel => exact ⟨k + 1, by omega, by go_num, hbn4⟩
      case measure => simp [intOf]; omega

end Go.Proofs.YtkglejfkfeahcaaGreatDoor.subj

namespace Go.Proofs.YtkglejfkfeahcaaGreatDoor.law
open Go.ChangeShapes Go.WideShapes Go.RowKit Go.Lib Go.Proofs.YtkglejfkfeahcaaGreatDoor Go.Proofs.YtkglejfkfeahcaaGreatDoor.schema Go.Proofs.YtkglejfkfeahcaaGreatDoor.text Go.Proofs.YtkglejfkfeahcaaGreatDoor.value Go.Proofs.YtkglejfkfeahcaaGreatDoor.draw Go.Proofs.YtkglejfkfeahcaaGreatDoor.clause Go.Proofs.YtkglejfkfeahcaaGreatDoor.subj

set_option maxRecDepth 100000 in
theorem subjectJoins_final (W : World) (hL : laidMetH Tryz.prog Rows.subjectJoinsUptoRow.laid W) (hsh : W.ShapedOpen Tryz.prog)
    {H : Type} {enc : TypeId × Value → H} {base b2 : Nat} {sp : Nat → Bool} {held : Bool} {d2 : DataW H} {p2 : List MemPlace}
    (a0 : Option Addr) (len0 cap0 : Nat) (z0 : List Int) (w0 : IsRow .u8 W a0 len0 cap0 z0)
    (a1 : Option Addr) (len1 cap1 : Nat) (z1 : List Int) (w1 : IsRow .u8 W a1 len1 cap1 z1)
    (v2 : Value) (o2 : Value.okWide Tryz.prog W .any b2 25 v2) (k2 : DataW.Trod enc Tryz.prog W base sp held 25 v2 d2 p2) (b2' : Rows.uptoBulk d2 ≤ 1048576) :
    Calls Tryz.prog 3 #[.slice a0 len0 cap0, .slice a1 len1 cap1, v2] W fun e W' => e = .returned (.bool true) ∧ Below W.heap.size W W' := by
  have hT := subjectJoinsUptoRow.stabs_of_laid hL hsh
  rw [MakeChecks.laidMetH_plain _ _ _ (by kernel_rfl)] at hL
  have hG := glob_of_reads (Lib.laidMet.reads hL (n := "flagstone/flagstonedraw.texts") (d := Rows.laid_flagstone_flagstonedraw_texts) (by simp [Rows.subjectJoinsUptoRow])) (Lib.laidMet.reads hL (n := "flagstone/flagstonedraw.versions") (d := Rows.laid_flagstone_flagstonedraw_versions) (by simp [Rows.subjectJoinsUptoRow])) (Lib.laidMet.reads hL (n := "flagstone/flagstonedraw.lists") (d := Rows.laid_flagstone_flagstonedraw_lists) (by simp [Rows.subjectJoinsUptoRow]))
  obtain ⟨sa, sn, sc, ls, rfl, hS, hN, -⟩ := open_subject o2 b2' k2
  exact joins_walk a0 a1 sa len0 cap0 len1 cap1 sn sc ls W (draw.bytes_of_row w0) (draw.bytes_of_row w1) hS hN (fun b hb => hG.mono (sub_but W b hb)) hT

end Go.Proofs.YtkglejfkfeahcaaGreatDoor.law
