/- ClauseAtoms: the walk. -/
import Derived.Test.YtlohdmghaeabjaaGreatDoorKClEx
import Derived.Test.YtlohdmghaeabjaaGreatDoorKClA
namespace Go.Proofs.YtlohdmghaeabjaaGreatDoor.clause
open Go.RowKit Go.Sort Go.Proofs.YtlohdmghaeabjaaGreatDoor Go.Proofs.YtlohdmghaeabjaaGreatDoor.schema Go.Proofs.YtlohdmghaeabjaaGreatDoor.value Go.Proofs.YtlohdmghaeabjaaGreatDoor.text Go.Proofs.YtlohdmghaeabjaaGreatDoor.draw

attribute [local go_sem ↓] Go.wp_at_zero Go.wp_at_succ

/-- The condition that is made of three, in its box. -/
def BothR (w : World) (b : Nat) (v : Value) (u : World) : Prop :=
  ∃ (gY ga : Nat) (d : ED), v = .pointer (some ⟨gY, 0, none⟩) ∧ Own u gY #[.int .i64 3, .string ⟨#[]⟩, .string ⟨#[]⟩, .slice none 0 0, .slice (some ⟨ga, 0, none⟩) 3 3] 29 ∧
    EAt u.cell? d [.int .i64 3, .string ⟨#[]⟩, .string ⟨#[]⟩, .slice none 0 0, .slice (some ⟨ga, 0, none⟩) 3 3] ∧ cntE d ≤ 10000000 ∧ fewE 1099511627776 d ∧ w.grownBy u (some b)
theorem both_done {w u : World} {b gY ga : Nat} {d dw : ED} {op wop : Int} {kd nm wkd wnm : ByteArray} {xa wva ka wka : Option Addr} {xn xc kn kc wvn wvc wkn wkc : Nat}
    (hG : w.grownBy u (some b)) (hY : Own u gY #[.int .i64 3, .string ⟨#[]⟩, .string ⟨#[]⟩, .slice none 0 0, .slice (some ⟨ga, 0, none⟩) 3 3] 29)
    (hA : Own u ga #[.int .i64 op, .string kd, .string nm, .slice xa xn xc, .slice ka kn kc, .int .i64 wop, .string wkd, .string wnm, .slice wva wvn wvc, .slice wka wkn wkc, .int .i64 op, .string kd, .string nm, .slice xa xn xc, .slice ka kn kc] 29)
    (hX : EAt u.cell? d [.int .i64 op, .string kd, .string nm, .slice xa xn xc, .slice ka kn kc]) (hW : EAt u.cell? dw [.int .i64 wop, .string wkd, .string wnm, .slice wva wvn wvc, .slice wka wkn wkc])
    (hc : cntE d ≤ 1000000) (hs : smallE 4 d) (hGr : Gr 4 (cntE d) 20 dw) : BothR w b (.pointer (some ⟨gY, 0, none⟩)) u := by
  have hX1 := hX
  have hR := rows_of_own hA 5 [[.int .i64 op, .string kd, .string nm, .slice xa xn xc, .slice ka kn kc], [.int .i64 wop, .string wkd, .string wnm, .slice wva wvn wvc, .slice wka wkn wkc], [.int .i64 op, .string kd, .string nm, .slice xa xn xc, .slice ka kn kc]] (by simp) rfl 3 (by simp) (by decide)
  have h1 := hGr.1
  have hf := fewE_of_small (show 4 ≤ 1099511627776 by omega) d hs
  refine ⟨gY, ga, .mk 3 ⟨#[]⟩ ⟨#[]⟩ [] [d, dw, d], rfl, hY, eat_list hR rfl (fun i r k hi hk => ?_), ?_, ⟨Nat.zero_le _, by show 3 ≤ 1099511627776; omega, hf, fewE_up (by omega) dw hGr.2, hf, trivial⟩, hG⟩
  · match i with
    | 0 => simp at hi hk; subst hi; subst hk; exact hX1
    | 1 => simp at hi hk; subst hi; subst hk; exact hW
    | 2 => simp at hi hk; subst hi; subst hk; exact hX1
    | i + 3 => simp at hi
  · rw [cntE, cntL, cntL, cntL, cntL]; omega

/-- The five cells are stored. -/
theorem both_store {w7 w8 u : World} {B b gt gY ga : Nat} {d dw : ED} {op wop : Int} {kd nm wkd wnm : ByteArray} {xa wva ka wka : Option Addr} {xn xc kn kc wvn wvc wkn wkc : Nat} {z0 z1 z2 z3 z4 : Value} {M2 : Mem}
    (hc : cntE d ≤ 1000000) (hs : smallE 4 d) (hG : w8.grownBy u (some b)) (hY : Own u gY #[z0, z1, z2, z3, z4] 29)
    (hA : Own u ga #[.int .i64 op, .string kd, .string nm, .slice xa xn xc, .slice ka kn kc, .int .i64 wop, .string wkd, .string wnm, .slice wva wvn wvc, .slice wka wkn wkc, .int .i64 op, .string kd, .string nm, .slice xa xn xc, .slice ka kn kc] 29)
    (hO : Own u gt #[.int .i64 op, .string kd, .string nm, .slice xa xn xc, .slice ka kn kc] 29) (hgy : w8.heap.size ≤ gY) (hya : ga ≠ gY) (hyt : gt < gY)
    (hX : Hid (w7.grownBy w8 (some b) ∧ EAt (newM B b w8) d [.int .i64 op, .string kd, .string nm, .slice xa xn xc, .slice ka kn kc])) (hsub : Sub M2 u.cell?) (hoff : Off gY M2) (hW : EAt M2 dw [.int .i64 wop, .string wkd, .string wnm, .slice wva wvn wvc, .slice wka wkn wkc]) (hGr : Gr 4 (cntE d) 20 dw) :
    BothR w7 b (.pointer (some ⟨gY, 0, none⟩)) (((((u.setCell ⟨gY, 0, none⟩ (.int .i64 3)).setCell ⟨gY, 1, none⟩ (.string ⟨#[]⟩)).setCell ⟨gY, 2, none⟩ (.string ⟨#[]⟩)).setCell ⟨gY, 3, none⟩ (.slice none 0 0)).setCell ⟨gY, 4, none⟩ (.slice (some ⟨ga, 0, none⟩) 3 3)) ∧
    ((((((u.setCell ⟨gY, 0, none⟩ (.int .i64 3)).setCell ⟨gY, 1, none⟩ (.string ⟨#[]⟩)).setCell ⟨gY, 2, none⟩ (.string ⟨#[]⟩)).setCell ⟨gY, 3, none⟩ (.slice none 0 0)).setCell ⟨gY, 4, none⟩ (.slice (some ⟨ga, 0, none⟩) 3 3)).cell? ⟨gt, 0, none⟩ = some (.int .i64 op) ∧
     (((((u.setCell ⟨gY, 0, none⟩ (.int .i64 3)).setCell ⟨gY, 1, none⟩ (.string ⟨#[]⟩)).setCell ⟨gY, 2, none⟩ (.string ⟨#[]⟩)).setCell ⟨gY, 3, none⟩ (.slice none 0 0)).setCell ⟨gY, 4, none⟩ (.slice (some ⟨ga, 0, none⟩) 3 3)).cell? ⟨gt, 1, none⟩ = some (.string kd) ∧
     (((((u.setCell ⟨gY, 0, none⟩ (.int .i64 3)).setCell ⟨gY, 1, none⟩ (.string ⟨#[]⟩)).setCell ⟨gY, 2, none⟩ (.string ⟨#[]⟩)).setCell ⟨gY, 3, none⟩ (.slice none 0 0)).setCell ⟨gY, 4, none⟩ (.slice (some ⟨ga, 0, none⟩) 3 3)).cell? ⟨gt, 2, none⟩ = some (.string nm) ∧
     (((((u.setCell ⟨gY, 0, none⟩ (.int .i64 3)).setCell ⟨gY, 1, none⟩ (.string ⟨#[]⟩)).setCell ⟨gY, 2, none⟩ (.string ⟨#[]⟩)).setCell ⟨gY, 3, none⟩ (.slice none 0 0)).setCell ⟨gY, 4, none⟩ (.slice (some ⟨ga, 0, none⟩) 3 3)).cell? ⟨gt, 3, none⟩ = some (.slice xa xn xc) ∧
     (((((u.setCell ⟨gY, 0, none⟩ (.int .i64 3)).setCell ⟨gY, 1, none⟩ (.string ⟨#[]⟩)).setCell ⟨gY, 2, none⟩ (.string ⟨#[]⟩)).setCell ⟨gY, 3, none⟩ (.slice none 0 0)).setCell ⟨gY, 4, none⟩ (.slice (some ⟨ga, 0, none⟩) 3 3)).cell? ⟨gt, 4, none⟩ = some (.slice ka kn kc)) := by
  have hne : gt ≠ gY := Nat.ne_of_lt hyt
  refine ⟨both_done (g_call hX.out.1 (g_setCell (g_setCell (g_setCell (g_setCell (g_setCell hG (by simpa using hgy) _) (by simpa using hgy) _) (by simpa using hgy) _) (by simpa using hgy) _) (by simpa using hgy) _)) ?_ (((((hA.setOther hya _).setOther hya _).setOther hya _).setOther hya _).setOther hya _) (hX.out.2.mono ((newM_grown (g_setCell (g_setCell (g_setCell (g_setCell (g_setCell hG (by simpa using hgy) _) (by simpa using hgy) _) (by simpa using hgy) _) (by simpa using hgy) _) (by simpa using hgy) _)).trans ((newM_but _ _ _).trans (but_sub _ _)))) (hW.mono (sub_setCell (sub_setCell (sub_setCell (sub_setCell (sub_setCell hsub hoff _) hoff _) hoff _) hoff _) hoff _)) hc hs hGr, own5z (((((hO.setOther hne _).setOther hne _).setOther hne _).setOther hne _).setOther hne _)⟩
  · have h1 := ((((hY.set 0 (.int .i64 3)).set 1 (.string ⟨#[]⟩)).set 2 (.string ⟨#[]⟩)).set 3 (.slice none 0 0)).set 4 (.slice (some ⟨ga, 0, none⟩) 3 3)
    simpa only [List.setIfInBounds_toArray, List.set_cons_zero, List.set_cons_succ] using h1

/-- A condition in a row of conditions, and how large it is. -/
def AtmAt (m : Mem) (A : Array Value) (j : Nat) : Prop := ∃ (d : ED) (op : Int) (kind name : ByteArray) (va : Option Addr) (vn vc : Nat) (ka : Option Addr) (kn kc : Nat),
  A[j * 5]? = some (.int .i64 op) ∧ A[j * 5 + 1]? = some (.string kind) ∧ A[j * 5 + 2]? = some (.string name) ∧ A[j * 5 + 3]? = some (.slice va vn vc) ∧ A[j * 5 + 4]? = some (.slice ka kn kc) ∧ EAt m d [.int .i64 op, .string kind, .string name, .slice va vn vc, .slice ka kn kc] ∧ cntE d ≤ 10000000 ∧ fewE 1099511627776 d
/-- The two lists of atoms. -/
def TwoR (w : World) (d : ED) (s t : Value) (u : World) : Prop :=
  ∃ (a a2 : Option Addr) (c c2 : Nat) (l' : List ED) (rs rs2 : List (List Value)), s = .slice a (addS [] d).length c ∧ t = .slice a2 (addS [] d).length c2 ∧ SameEL l' (addS [] d) ∧ rs.length = l'.length ∧ RowsAt u.cell? 5 (.slice a (addS [] d).length c) rs ∧
    (∀ (i : Nat) (r : List Value) (k : ED), rs[i]? = some r → l'[i]? = some k → EAt u.cell? k r) ∧ RowsAt u.cell? 5 (.slice a2 (addS [] d).length c2) rs2 ∧ rs2.length = (addS [] d).length ∧ (∀ (i : Nat) (r : List Value) (k : ED), rs2[i]? = some r → (addS [] d)[i]? = some k → EAt u.cell? k r) ∧ Beyond w u
theorem two_r {w u x : World} {d : ED} {a : Option Addr} {c : Nat} {l' : List ED} {rs : List (List Value)} {a2 : Option Addr} {n2 c2 : Nat} {M : Mem} (h1 : SameEL l' (addS [] d)) (h2 : rs.length = l'.length) (h3 : RowsAt u.cell? 5 (.slice a (addS [] d).length c) rs)
    (h4 : ∀ (i : Nat) (r : List Value) (k : ED), rs[i]? = some r → l'[i]? = some k → EAt u.cell? k r) (h5 : RA M x (.slice a2 n2 c2) (addS [] d)) (hM : Sub M u.cell?) (hux : Beyond u x) (hwx : Beyond w x) : n2 = (addS [] d).length ∧ TwoR w d (.slice a (addS [] d).length c) (.slice a2 (addS [] d).length c2) x := by
  obtain ⟨rs2, k1, k2, k3⟩ := h5
  have hn := (len_of k1).1
  rw [k2] at hn
  subst hn
  have hs := sub_of_below hux
  exact ⟨rfl, a, a2, c, c2, l', rs, rs2, rfl, rfl, h1, h2, h3.mono hs, fun i r k hi hk => (h4 i r k hi hk).mono hs, k1, k2, fun i r k hi hk => (k3 i r k hi hk).mono (hM.trans hs), hwx⟩
theorem sameEL_at : ∀ {l' l : List ED}, SameEL l' l → ∀ (i : Nat) (x y : ED), l'[i]? = some x → l[i]? = some y → SameE x y
  | [], _, _, _, _, _, h, _ => by simp at h
  | _ :: _, [], h, _, _, _, _, _ => by simp [SameEL] at h
  | x' :: r', y' :: r, h, 0, x, y, hx, hy => by simp at hx hy; subst hx; subst hy; exact h.1
  | x' :: r', y' :: r, h, i + 1, x, y, hx, hy => sameEL_at h.2 i x y (by simpa using hx) (by simpa using hy)

set_option maxRecDepth 100000 in
set_option maxHeartbeats 2000000 in
/-- The reference's Atoms. -/
theorem ratoms_any (d : ED) (r : List Value) (w : World) (h : EAt w.cell? d r) (hc : cntE d ≤ 1099511627776) :
    Calls Tryz.prog 26 #[.agg r.toArray] w (RAddIs w.cell? w (addS [] d)) := by
  obtain ⟨op, kind, name, va, vn, vc, ka, kn, kc, rfl⟩ := eat_five h
  have hgo := Lib.hid (fun (u : World) (hb : Beyond w u) => radd_any w.cell? d _ h u none 0 0 [] (sub_of_below hb) ⟨[], rows_nil _ _, rfl, fun i r k hi => by simp at hi⟩ (by simpa using hc))
  have hb0 := Beyond.refl w
  have hb1 := Lib.hid (Beyond.alloc hb0 (.cells #[.int .i64 op, .string kind, .string name, .slice va vn vc, .slice ka kn kc] 29))
  clear h
  go_enter Tryz.func26, Tryz.ntmps26
  go_wp2_with fail
  refine (hgo.out _ (by first | exact hb0 | exact hb1.out)).mono ?_
  rintro e w2 ⟨⟨a, n, c, rfl, hA⟩, hb⟩
  replace hA := Lib.hid hA
  have hB2 : Beyond w w2 := Beyond.next hb (by first | exact hb0 | exact hb1.out)
  replace hB2 := Lib.hid hB2
  clear hgo hb0 hb1 hb
  go_wp2
  go_ret
  exact ⟨⟨a, n, c, rfl, hA.out⟩, hB2.out⟩

set_option maxRecDepth 100000 in
set_option maxHeartbeats 16000000 in
theorem atoms_walk (a : Option Addr) (n c : Nat) (de : ED) (re : List Value) (w : World) (h : BytesAt w.cell? a n c) (hEe : EAt w.cell? de re) (hce : cntE de ≤ 1048576) (hfe : fewE 1048576 de)
    (hg : ∀ b, w.heap.size ≤ b → Glob (but b w)) (hT : Tabs w) :
    Calls Tryz.prog 6 #[.slice a n c, .agg re.toArray] w fun e w' => e = .returned (.bool true) ∧ Below w.heap.size w w' := by
  obtain ⟨eop, ekd, enm, eva, evn, evc, eka, ekn, ekc, rfl⟩ := eat_five hEe
  have hB0 : Below w.heap.size w (w.alloc (.cells #[.int .i64 eop, .string ekd, .string enm, .slice eva evn evc, .slice eka ekn ekc] 29)) := (Below.refl _ _).alloc (Nat.le_refl _) _
  have hOe := Lib.hid (Own.new w #[.int .i64 eop, .string ekd, .string enm, .slice eva evn evc, .slice eka ekn ekc] 29)
  have hA := Lib.hid h
  have hg0 := Lib.hid hg
  have hT0 := Lib.hid hT
  replace hEe := Lib.hid hEe
  replace hB0 := Lib.hid hB0
  replace hce := Lib.hid hce
  replace hfe := Lib.hid hfe
  clear h hg hT
  go_enter Tryz.func6, Tryz.ntmps6
  go_wp2_with fail
  generalize w.alloc (.cells #[.int .i64 eop, .string ekd, .string enm, .slice eva evn evc, .slice eka ekn ekc] 29) = w0 at hB0 hOe ⊢
  obtain ⟨ge, hge⟩ : ∃ g : Nat, Hid (g = w.heap.size) := ⟨_, Lib.hid rfl⟩
  rw [← hge.out] at hOe ⊢
  refine (awake_any _ (hT0.out.below hB0.out)).mono ?_
  rintro e w1 ⟨rfl, hb1⟩
  have hB1 := Lib.hid (hB0.out.trans (hb1.mono hB0.out.size))
  have hOe1 := hOe.out.below hb1 hOe.out.lt
  obtain ⟨x0, x1, x2, x3, x4⟩ := own5z hOe1
  have hel := hOe1.lt
  replace hOe1 := Lib.hid hOe1
  clear hb1 hB0 hOe
  have hbg := Lib.hid (big_any w1.cell? de _ (hEe.out.mono (sub_of_below hB1.out)) w1 (Sub.refl _))
  go_wp2_with fail
  refine hbg.out.mono ?_
  rintro e w2 ⟨⟨bb, rfl⟩, hb2⟩
  have hB2 := Lib.hid (hB1.out.trans (hb2.mono hB1.out.size))
  have hOe2 := Lib.hid (hOe1.out.below hb2 hel)
  clear hb2 hbg hB1 hOe1 x0 x1 x2 x3 x4 hel
  cases bb
  case true =>
    go_wp2
    go_ret
    exact ⟨rfl, hB2.out⟩
  go_wp2_with fail
  refine (new_any a n c 150 _ (by omega) (by omega) (hA.out.mono (sub_of_below hB2.out))).mono ?_
  rintro e w3 ⟨rfl, ⟨a', n', c', hC⟩, hb3⟩
  have hsz : w.heap.size ≤ w2.heap.size := hB2.out.size
  have hlt := hC.lt
  have hge1 : ge < w2.heap.size := hOe2.out.lt
  have hB3 := hB2.out.trans (hb3.mono hsz)
  have hOe3 := hOe2.out.below hb3 hOe2.out.lt
  have hg3 := (hg0.out w2.heap.size hsz).mono (sub_of_grown (grown_of_below ((hB2.out.trans (hb3.mono hsz)).mono (Nat.le_refl _)) _))
  have hG5 : w3.grownBy (w3.alloc (.cells #[.string ⟨#[97, 108, 112, 104, 97]⟩, .string ⟨#[98, 101, 116, 97]⟩] 9)) (some w2.heap.size) := g_alloc (grown_refl _ _) _
  have hC5 := Lib.hid (hC.still hG5 (hC.1.alloc _))
  have hg5 := Lib.hid (hg3.mono (sub_of_grown hG5))
  have hB5 := Lib.hid (hB3.trans (below_of_grown hG5 hB3.size hsz))
  have hOe5 := Lib.hid (hOe3.kept hG5 (by simp; omega))
  have hAB := Lib.hid (rows_of_own_but (b := w2.heap.size) (Own.new w3 #[.string ⟨#[97, 108, 112, 104, 97]⟩, .string ⟨#[98, 101, 116, 97]⟩] 9) (by omega) 1 (segsAB.map strRow) (by simp [strRow]) rfl 2 (by simp [segsAB]) (by decide))
  clear hG5 hC hb3 hB2 hOe2 hg3 hB3 hOe3
  go_wp2_with fail
  generalize w3.alloc (.cells #[.string ⟨#[97, 108, 112, 104, 97]⟩, .string ⟨#[98, 101, 116, 97]⟩] 9) = w5 at hC5 hg5 hB5 hOe5 hAB ⊢
  refine (dexpr_any w2.heap.size a' n' c' _ segsAB (by decide) 4 4 w5 (by omega) (by omega) (by omega) hC5.out hg5.out hAB.out).mono ?_
  rintro e w6 ⟨⟨d, op, kd, nm, xa, xn, xc, ka, kn, kc, rfl, hE6, hF6⟩, hH6, hG6⟩
  have hG7 : w5.grownBy (w6.alloc (.cells #[.int .i64 op, .string kd, .string nm, .slice xa xn xc, .slice ka kn kc] 29)) (some w2.heap.size) := g_alloc hG6 _
  have hC7 := Lib.hid (hC5.out.still hG7 (hH6.alloc _))
  have hg7 := Lib.hid (hg5.out.mono (sub_of_grown hG7))
  have hB7 := Lib.hid (hB5.out.trans (below_of_grown hG7 hB5.out.size hsz))
  have hOe7 := Lib.hid (hOe5.out.kept hG7 (by simp; omega))
  have hOt7 := Lib.hid (Own.new w6 #[.int .i64 op, .string kd, .string nm, .slice xa xn xc, .slice ka kn kc] 29)
  have hEt7 := Lib.hid (hE6.mono (newM_grown (g_alloc (grown_refl w6 (some w2.heap.size)) (.cells #[.int .i64 op, .string kd, .string nm, .slice xa xn xc, .slice ka kn kc] 29))))
  have hsm7 := Lib.hid hF6.2.1
  have hcn7 := Lib.hid (show cntE d ≤ 1000000 from Nat.le_trans (cnt_small d hF6.2.1) (Nat.le_trans (Nat.pow_le_pow_right (by omega) (show depE d ≤ 6 from hF6.2.2)) (by decide)))
  have hx6 : w2.heap.size < w6.heap.size := hH6.lt
  clear hG7 hG6 hH6 hE6 hF6 hC5 hg5 hB5 hOe5 hAB
  obtain ⟨t0, t1, t2, t3, t4⟩ := own5z hOt7.out
  have htl := hOt7.out.lt
  go_upto_region 7 with fail
  generalize w6.alloc (.cells #[.int .i64 op, .string kd, .string nm, .slice xa xn xc, .slice ka kn kc] 29) = w7 at hC7 hg7 hB7 hOe7 hOt7 hEt7 t0 t1 t2 t3 t4 htl ⊢
  obtain ⟨gt, hgt⟩ : ∃ g : Nat, g = w6.heap.size := ⟨_, rfl⟩
  rw [← hgt] at hOt7 hx6 t0 t1 t2 t3 t4 htl ⊢
  clear hgt
  go_cut [7] (fun s7 wy => Hid (BothR w7 w2.heap.size s7 wy))
  case first =>
    have hGd := grown_drew w7 (some w2.heap.size)
    have hH_w8 := hC7.out.1.drew
    have hO_w8 := hOt7.out.drew
    refine wp_region_held_drew (S := (fun W => W.cell? ⟨gt, 0, none⟩ = some (.int .i64 op) ∧ W.cell? ⟨gt, 1, none⟩ = some (.string kd) ∧ W.cell? ⟨gt, 2, none⟩ = some (.string nm) ∧ W.cell? ⟨gt, 3, none⟩ = some (.slice xa xn xc) ∧ W.cell? ⟨gt, 4, none⟩ = some (.slice ka kn kc))) (by kernel_rfl) ⟨t0, t1, t2, t3, t4⟩ (fun hHeld => ?_)
    clear t0 t1 t2 t3 t4 htl
    generalize w7.drew = w8 at hGd hH_w8 hO_w8 hHeld ⊢
    have hG_w8 := grown_refl w8 (some w2.heap.size)
    have hEt8 := Lib.hid (hEt7.out.mono (newM_grown hGd))
    have hGd8 := Lib.hid hGd
    have hcall := Lib.hid (fun (u : World) (hG : w8.grownBy u (some w2.heap.size)) (hH : Head w2.heap.size a' n' c' u) => cond_grow w2.heap.size a' n' c' 4 (by omega) (newM w5.heap.size w2.heap.size w8) (newM_off _ _ _) hEt8.out hsm7.out u (hC7.out.still (g_call hGd8.out hG) hH) (hg7.out.mono (sub_of_grown (g_call hGd8.out hG))) ((newM_grown hG).trans ((newM_but _ _ _).trans (but_sub _ _))))
    replace hEt8 := Lib.hid (And.intro hGd8.out hEt8.out)
    clear hGd
    refine wpAnyH_take (i := 0) (oi := ?oi1) (v := ?v1) ?ho1 (by kernel_rfl) (by kernel_rfl) (by kernel_rfl) ?hp1 (Or.inl ⟨?hw1, ?hy1⟩) (by assumption) ?rest1
    case ho1 => simp only [List.getElem?_toArray, List.getElem?_cons_zero]; rfl
    case hp1 => exact fun _ _ _ h => h
    case hw1 => rfl
    case hy1 =>
      intro W hSw
      obtain ⟨t0, t1, t2, t3, t4⟩ := hSw
      go_simp
      try exact rfl
    simp only [Act.put, List.setIfInBounds_toArray, List.set_cons_zero, List.set_cons_succ]
    refine wpAnyH_take (i := 1) (oi := ?oi2) (v := ?v2) ?ho2 (by kernel_rfl) (by kernel_rfl) (by kernel_rfl) ?hp2 (Or.inl ⟨?hw2, ?hy2⟩) (by assumption) ?rest2
    case ho2 => simp only [List.getElem?_toArray, List.getElem?_cons_succ, List.getElem?_cons_zero]; rfl
    case hp2 => exact fun _ _ _ h => h
    case hw2 => rfl
    case hy2 =>
      intro W hSw
      obtain ⟨t0, t1, t2, t3, t4⟩ := hSw
      go_simp
      try exact rfl
    simp only [Act.put, List.setIfInBounds_toArray, List.set_cons_zero, List.set_cons_succ]
    refine wpAnyH_take (i := 2) (oi := ?oi3) (v := ?v3) ?ho3 (by kernel_rfl) (by kernel_rfl) (by kernel_rfl) ?hp3 (Or.inl ⟨?hw3, ?hy3⟩) (by assumption) ?rest3
    case ho3 => simp only [List.getElem?_toArray, List.getElem?_cons_succ, List.getElem?_cons_zero]; rfl
    case hp3 => exact fun _ _ _ h => h
    case hw3 => rfl
    case hy3 =>
      intro W hSw
      obtain ⟨t0, t1, t2, t3, t4⟩ := hSw
      go_simp
      try exact rfl
    simp only [Act.put, List.setIfInBounds_toArray, List.set_cons_zero, List.set_cons_succ]
    refine wpAnyH_take (i := 4) (oi := ?oi4) (v := ?v4) ?ho4 (by kernel_rfl) (by kernel_rfl) (by kernel_rfl) ?hp4 (Or.inl ⟨?hw4, ?hy4⟩) (by assumption) ?rest4
    case ho4 => simp only [List.getElem?_toArray, List.getElem?_cons_succ, List.getElem?_cons_zero]; rfl
    case hp4 => exact fun _ _ _ h => h
    case hw4 => rfl
    case hy4 =>
      intro W hSw
      obtain ⟨t0, t1, t2, t3, t4⟩ := hSw
      go_simp
      try exact rfl
    simp only [Act.put, List.setIfInBounds_toArray, List.set_cons_zero, List.set_cons_succ]
    refine wpAnyH_ready (rs := [3, 7]) (by kernel_rfl) (by simp) ?_
    refine (AllReadyH.cons rfl (fun K hK => ?_) (AllReadyH.cons rfl (fun K hK => ?_) AllReadyH.nil))
    · skip
      go_simp
      refine (hcall.out w8 hG_w8 hH_w8).mono ?_
      rintro e uc ⟨⟨M2, dw, wop, wkd, wnm, wva, wvn, wvc, wka, wkn, wkc, rfl, hext, hsub_uc, -, hEw, hGr⟩, hH_uc, hGv⟩
      have hG_uc := g_call hG_w8 hGv
      have hO_uc := hO_w8.kept hGv (by simp; omega)
      refine hK.out _ _ (own5z hO_uc) (fun hHeld => ?_)
      clear hK K
      refine wpAnyH_ready (rs := [5, 7]) (by kernel_rfl) (by simp) ?_
      refine (AllReadyH.cons rfl (fun K hK => ?_) (AllReadyH.cons rfl (fun K hK => ?_) AllReadyH.nil))
      · skip
        go_simp
        have hA_ucb : Own (uc.alloc (.cells #[.int .i64 op, .string kd, .string nm, .slice xa xn xc, .slice ka kn kc, .int .i64 wop, .string wkd, .string wnm, .slice wva wvn wvc, .slice wka wkn wkc, .int .i64 op, .string kd, .string nm, .slice xa xn xc, .slice ka kn kc] 29)) uc.heap.size #[.int .i64 op, .string kd, .string nm, .slice xa xn xc, .slice ka kn kc, .int .i64 wop, .string wkd, .string wnm, .slice wva wvn wvc, .slice wka wkn wkc, .int .i64 op, .string kd, .string nm, .slice xa xn xc, .slice ka kn kc] 29 := Own.new _ _ _
        have hO_ucb := hO_uc.alloc (.cells #[.int .i64 op, .string kd, .string nm, .slice xa xn xc, .slice ka kn kc, .int .i64 wop, .string wkd, .string wnm, .slice wva wvn wvc, .slice wka wkn wkc, .int .i64 op, .string kd, .string nm, .slice xa xn xc, .slice ka kn kc] 29)
        have hG_ucb := g_alloc hG_uc (.cells #[.int .i64 op, .string kd, .string nm, .slice xa xn xc, .slice ka kn kc, .int .i64 wop, .string wkd, .string wnm, .slice wva wvn wvc, .slice wka wkn wkc, .int .i64 op, .string kd, .string nm, .slice xa xn xc, .slice ka kn kc] 29)
        have hH_ucb := hH_uc.alloc (.cells #[.int .i64 op, .string kd, .string nm, .slice xa xn xc, .slice ka kn kc, .int .i64 wop, .string wkd, .string wnm, .slice wva wvn wvc, .slice wka wkn wkc, .int .i64 op, .string kd, .string nm, .slice xa xn xc, .slice ka kn kc] 29)
        have hsub_ucb := sub_alloc hsub_uc (.cells #[.int .i64 op, .string kd, .string nm, .slice xa xn xc, .slice ka kn kc, .int .i64 wop, .string wkd, .string wnm, .slice wva wvn wvc, .slice wka wkn wkc, .int .i64 op, .string kd, .string nm, .slice xa xn xc, .slice ka kn kc] 29)
        refine hK.out _ _ (own5z hO_ucb) (fun hHeld => ?_)
        clear hK K
        generalize uc.alloc (.cells #[.int .i64 op, .string kd, .string nm, .slice xa xn xc, .slice ka kn kc, .int .i64 wop, .string wkd, .string wnm, .slice wva wvn wvc, .slice wka wkn wkc, .int .i64 op, .string kd, .string nm, .slice xa xn xc, .slice ka kn kc] 29) = ucb at hA_ucb hO_ucb hG_ucb hH_ucb hsub_ucb hHeld ⊢
        obtain ⟨ga, hga⟩ : ∃ g : Nat, g = uc.heap.size := ⟨_, rfl⟩
        rw [← hga] at hA_ucb ⊢
        clear hga
        refine wpAnyH_take (i := 6) (oi := ?oi5) (v := ?v5) ?ho5 (by kernel_rfl) (by kernel_rfl) (by kernel_rfl) ?hp5 (Or.inl ⟨?hw5, ?hy5⟩) (by assumption) ?rest5
        case ho5 => simp only [List.getElem?_toArray, List.getElem?_cons_succ, List.getElem?_cons_zero]; rfl
        case hp5 => exact fun _ _ _ h => h
        case hw5 => rfl
        case hy5 =>
          intro W hSw
          obtain ⟨t0, t1, t2, t3, t4⟩ := hSw
          go_simp
          try exact rfl
        simp only [Act.put, List.setIfInBounds_toArray, List.set_cons_zero, List.set_cons_succ]
        refine wpAnyH_ready (rs := [7]) (by kernel_rfl) (by simp) ?_
        refine (AllReadyH.cons rfl (fun K hK => ?_) AllReadyH.nil)
        · skip
          go_simp
          have hY_ucba : Own (ucb.alloc (.cells #[.int .i64 0, .string ⟨#[]⟩, .string ⟨#[]⟩, .slice none 0 0, .slice none 0 0] 29)) ucb.heap.size #[.int .i64 0, .string ⟨#[]⟩, .string ⟨#[]⟩, .slice none 0 0, .slice none 0 0] 29 := Own.new _ _ _
          have hO_ucba := hO_ucb.alloc (.cells #[.int .i64 0, .string ⟨#[]⟩, .string ⟨#[]⟩, .slice none 0 0, .slice none 0 0] 29)
          have hG_ucba := g_alloc hG_ucb (.cells #[.int .i64 0, .string ⟨#[]⟩, .string ⟨#[]⟩, .slice none 0 0, .slice none 0 0] 29)
          have hH_ucba := hH_ucb.alloc (.cells #[.int .i64 0, .string ⟨#[]⟩, .string ⟨#[]⟩, .slice none 0 0, .slice none 0 0] 29)
          have hgy : w8.heap.size ≤ ucb.heap.size := hG_ucb.size
          have hyt : gt < ucb.heap.size := hO_ucb.lt
          have hyb : w2.heap.size < ucb.heap.size := hH_ucb.lt
          have hoff_ucba : Off ucb.heap.size M2 := off_new hsub_ucb (Nat.le_refl _)
          have hsub_ucba := sub_alloc hsub_ucb (.cells #[.int .i64 0, .string ⟨#[]⟩, .string ⟨#[]⟩, .slice none 0 0, .slice none 0 0] 29)
          have hya : ga ≠ ucb.heap.size := Nat.ne_of_lt (show ga < ucb.heap.size from hA_ucb.lt)
          have hA_ucba := hA_ucb.alloc (.cells #[.int .i64 0, .string ⟨#[]⟩, .string ⟨#[]⟩, .slice none 0 0, .slice none 0 0] 29)
          refine hK.out _ _ (own5z hO_ucba) (fun hHeld => ?_)
          clear hK K
          generalize ucb.alloc (.cells #[.int .i64 0, .string ⟨#[]⟩, .string ⟨#[]⟩, .slice none 0 0, .slice none 0 0] 29) = ucba at hY_ucba hO_ucba hG_ucba hH_ucba hsub_ucba hA_ucba hHeld ⊢
          refine wpAnyH_ready (rs := [8]) (by kernel_rfl) (by simp) ?_
          refine AllReadyH.cons rfl (fun K hK => ?_) AllReadyH.nil
          obtain ⟨p0, p1, p2, p3, p4, f0, f1, f2, f3, f4⟩ := own5 hY_ucba
          go_simp
          have hfin := both_store hcn7.out hsm7.out hG_ucba hY_ucba hA_ucba hO_ucba hgy hya hyt hEt8 hsub_ucba hoff_ucba hEw hGr
          refine hK.out _ _ hfin.2 (fun hHeld => ?_)
          clear hK K p0 p1 p2 p3 p4 f0 f1 f2 f3 f4
          refine wpAnyH_done (by kernel_rfl) ?_ _
          go_wp2
          go_meet
          exact Lib.hid hfin.1
      · skip
        go_simp
        have hY_uca : Own (uc.alloc (.cells #[.int .i64 0, .string ⟨#[]⟩, .string ⟨#[]⟩, .slice none 0 0, .slice none 0 0] 29)) uc.heap.size #[.int .i64 0, .string ⟨#[]⟩, .string ⟨#[]⟩, .slice none 0 0, .slice none 0 0] 29 := Own.new _ _ _
        have hO_uca := hO_uc.alloc (.cells #[.int .i64 0, .string ⟨#[]⟩, .string ⟨#[]⟩, .slice none 0 0, .slice none 0 0] 29)
        have hG_uca := g_alloc hG_uc (.cells #[.int .i64 0, .string ⟨#[]⟩, .string ⟨#[]⟩, .slice none 0 0, .slice none 0 0] 29)
        have hH_uca := hH_uc.alloc (.cells #[.int .i64 0, .string ⟨#[]⟩, .string ⟨#[]⟩, .slice none 0 0, .slice none 0 0] 29)
        have hgy : w8.heap.size ≤ uc.heap.size := hG_uc.size
        have hyt : gt < uc.heap.size := hO_uc.lt
        have hyb : w2.heap.size < uc.heap.size := hH_uc.lt
        have hoff_uca : Off uc.heap.size M2 := off_new hsub_uc (Nat.le_refl _)
        have hsub_uca := sub_alloc hsub_uc (.cells #[.int .i64 0, .string ⟨#[]⟩, .string ⟨#[]⟩, .slice none 0 0, .slice none 0 0] 29)
        refine hK.out _ _ (own5z hO_uca) (fun hHeld => ?_)
        clear hK K
        generalize uc.alloc (.cells #[.int .i64 0, .string ⟨#[]⟩, .string ⟨#[]⟩, .slice none 0 0, .slice none 0 0] 29) = uca at hY_uca hO_uca hG_uca hH_uca hsub_uca hHeld ⊢
        refine wpAnyH_ready (rs := [5]) (by kernel_rfl) (by simp) ?_
        refine (AllReadyH.cons rfl (fun K hK => ?_) AllReadyH.nil)
        · skip
          go_simp
          have hA_ucab : Own (uca.alloc (.cells #[.int .i64 op, .string kd, .string nm, .slice xa xn xc, .slice ka kn kc, .int .i64 wop, .string wkd, .string wnm, .slice wva wvn wvc, .slice wka wkn wkc, .int .i64 op, .string kd, .string nm, .slice xa xn xc, .slice ka kn kc] 29)) uca.heap.size #[.int .i64 op, .string kd, .string nm, .slice xa xn xc, .slice ka kn kc, .int .i64 wop, .string wkd, .string wnm, .slice wva wvn wvc, .slice wka wkn wkc, .int .i64 op, .string kd, .string nm, .slice xa xn xc, .slice ka kn kc] 29 := Own.new _ _ _
          have hO_ucab := hO_uca.alloc (.cells #[.int .i64 op, .string kd, .string nm, .slice xa xn xc, .slice ka kn kc, .int .i64 wop, .string wkd, .string wnm, .slice wva wvn wvc, .slice wka wkn wkc, .int .i64 op, .string kd, .string nm, .slice xa xn xc, .slice ka kn kc] 29)
          have hG_ucab := g_alloc hG_uca (.cells #[.int .i64 op, .string kd, .string nm, .slice xa xn xc, .slice ka kn kc, .int .i64 wop, .string wkd, .string wnm, .slice wva wvn wvc, .slice wka wkn wkc, .int .i64 op, .string kd, .string nm, .slice xa xn xc, .slice ka kn kc] 29)
          have hH_ucab := hH_uca.alloc (.cells #[.int .i64 op, .string kd, .string nm, .slice xa xn xc, .slice ka kn kc, .int .i64 wop, .string wkd, .string wnm, .slice wva wvn wvc, .slice wka wkn wkc, .int .i64 op, .string kd, .string nm, .slice xa xn xc, .slice ka kn kc] 29)
          have hsub_ucab := sub_alloc hsub_uca (.cells #[.int .i64 op, .string kd, .string nm, .slice xa xn xc, .slice ka kn kc, .int .i64 wop, .string wkd, .string wnm, .slice wva wvn wvc, .slice wka wkn wkc, .int .i64 op, .string kd, .string nm, .slice xa xn xc, .slice ka kn kc] 29)
          have hY_ucab := hY_uca.alloc (.cells #[.int .i64 op, .string kd, .string nm, .slice xa xn xc, .slice ka kn kc, .int .i64 wop, .string wkd, .string wnm, .slice wva wvn wvc, .slice wka wkn wkc, .int .i64 op, .string kd, .string nm, .slice xa xn xc, .slice ka kn kc] 29)
          have hoff_ucab := hoff_uca
          have hya : uca.heap.size ≠ _ := (Nat.ne_of_lt hY_uca.lt).symm
          refine hK.out _ _ (own5z hO_ucab) (fun hHeld => ?_)
          clear hK K
          generalize uca.alloc (.cells #[.int .i64 op, .string kd, .string nm, .slice xa xn xc, .slice ka kn kc, .int .i64 wop, .string wkd, .string wnm, .slice wva wvn wvc, .slice wka wkn wkc, .int .i64 op, .string kd, .string nm, .slice xa xn xc, .slice ka kn kc] 29) = ucab at hA_ucab hO_ucab hG_ucab hH_ucab hsub_ucab hY_ucab hHeld ⊢
          obtain ⟨ga, hga⟩ : ∃ g : Nat, g = uca.heap.size := ⟨_, rfl⟩
          rw [← hga] at hA_ucab hya ⊢
          clear hga
          refine wpAnyH_take (i := 6) (oi := ?oi6) (v := ?v6) ?ho6 (by kernel_rfl) (by kernel_rfl) (by kernel_rfl) ?hp6 (Or.inl ⟨?hw6, ?hy6⟩) (by assumption) ?rest6
          case ho6 => simp only [List.getElem?_toArray, List.getElem?_cons_succ, List.getElem?_cons_zero]; rfl
          case hp6 => exact fun _ _ _ h => h
          case hw6 => rfl
          case hy6 =>
            intro W hSw
            obtain ⟨t0, t1, t2, t3, t4⟩ := hSw
            go_simp
            try exact rfl
          simp only [Act.put, List.setIfInBounds_toArray, List.set_cons_zero, List.set_cons_succ]
          refine wpAnyH_ready (rs := [8]) (by kernel_rfl) (by simp) ?_
          refine AllReadyH.cons rfl (fun K hK => ?_) AllReadyH.nil
          obtain ⟨p0, p1, p2, p3, p4, f0, f1, f2, f3, f4⟩ := own5 hY_ucab
          go_simp
          have hfin := both_store hcn7.out hsm7.out hG_ucab hY_ucab hA_ucab hO_ucab hgy hya hyt hEt8 hsub_ucab hoff_ucab hEw hGr
          refine hK.out _ _ hfin.2 (fun hHeld => ?_)
          clear hK K p0 p1 p2 p3 p4 f0 f1 f2 f3 f4
          refine wpAnyH_done (by kernel_rfl) ?_ _
          go_wp2
          go_meet
          exact Lib.hid hfin.1
    · skip
      go_simp
      have hY_w8a : Own (w8.alloc (.cells #[.int .i64 0, .string ⟨#[]⟩, .string ⟨#[]⟩, .slice none 0 0, .slice none 0 0] 29)) w8.heap.size #[.int .i64 0, .string ⟨#[]⟩, .string ⟨#[]⟩, .slice none 0 0, .slice none 0 0] 29 := Own.new _ _ _
      have hO_w8a := hO_w8.alloc (.cells #[.int .i64 0, .string ⟨#[]⟩, .string ⟨#[]⟩, .slice none 0 0, .slice none 0 0] 29)
      have hG_w8a := g_alloc hG_w8 (.cells #[.int .i64 0, .string ⟨#[]⟩, .string ⟨#[]⟩, .slice none 0 0, .slice none 0 0] 29)
      have hH_w8a := hH_w8.alloc (.cells #[.int .i64 0, .string ⟨#[]⟩, .string ⟨#[]⟩, .slice none 0 0, .slice none 0 0] 29)
      have hgy : w8.heap.size ≤ w8.heap.size := hG_w8.size
      have hyt : gt < w8.heap.size := hO_w8.lt
      have hyb : w2.heap.size < w8.heap.size := hH_w8.lt
      have hoff_w8a : Off w8.heap.size (newM w5.heap.size w2.heap.size w8) := off_new (u := w8) ((newM_grown hG_w8).trans ((newM_but _ _ _).trans (but_sub _ _))) (Nat.le_refl _)
      refine hK.out _ _ (own5z hO_w8a) (fun hHeld => ?_)
      clear hK K
      generalize w8.alloc (.cells #[.int .i64 0, .string ⟨#[]⟩, .string ⟨#[]⟩, .slice none 0 0, .slice none 0 0] 29) = w8a at hY_w8a hO_w8a hG_w8a hH_w8a hHeld ⊢
      refine wpAnyH_ready (rs := [3]) (by kernel_rfl) (by simp) ?_
      refine (AllReadyH.cons rfl (fun K hK => ?_) AllReadyH.nil)
      · skip
        go_simp
        refine (hcall.out w8a hG_w8a hH_w8a).mono ?_
        rintro e uac ⟨⟨M2, dw, wop, wkd, wnm, wva, wvn, wvc, wka, wkn, wkc, rfl, hext, hsub_uac, -, hEw, hGr⟩, hH_uac, hGv⟩
        have hG_uac := g_call hG_w8a hGv
        have hO_uac := hO_w8a.kept hGv (by simp; omega)
        have hY_uac := hY_w8a.kept hGv (by simp; omega)
        have hoff_uac := hoff_w8a.ext hext hY_w8a.lt
        refine hK.out _ _ (own5z hO_uac) (fun hHeld => ?_)
        clear hK K
        refine wpAnyH_ready (rs := [5]) (by kernel_rfl) (by simp) ?_
        refine (AllReadyH.cons rfl (fun K hK => ?_) AllReadyH.nil)
        · skip
          go_simp
          have hA_uacb : Own (uac.alloc (.cells #[.int .i64 op, .string kd, .string nm, .slice xa xn xc, .slice ka kn kc, .int .i64 wop, .string wkd, .string wnm, .slice wva wvn wvc, .slice wka wkn wkc, .int .i64 op, .string kd, .string nm, .slice xa xn xc, .slice ka kn kc] 29)) uac.heap.size #[.int .i64 op, .string kd, .string nm, .slice xa xn xc, .slice ka kn kc, .int .i64 wop, .string wkd, .string wnm, .slice wva wvn wvc, .slice wka wkn wkc, .int .i64 op, .string kd, .string nm, .slice xa xn xc, .slice ka kn kc] 29 := Own.new _ _ _
          have hO_uacb := hO_uac.alloc (.cells #[.int .i64 op, .string kd, .string nm, .slice xa xn xc, .slice ka kn kc, .int .i64 wop, .string wkd, .string wnm, .slice wva wvn wvc, .slice wka wkn wkc, .int .i64 op, .string kd, .string nm, .slice xa xn xc, .slice ka kn kc] 29)
          have hG_uacb := g_alloc hG_uac (.cells #[.int .i64 op, .string kd, .string nm, .slice xa xn xc, .slice ka kn kc, .int .i64 wop, .string wkd, .string wnm, .slice wva wvn wvc, .slice wka wkn wkc, .int .i64 op, .string kd, .string nm, .slice xa xn xc, .slice ka kn kc] 29)
          have hH_uacb := hH_uac.alloc (.cells #[.int .i64 op, .string kd, .string nm, .slice xa xn xc, .slice ka kn kc, .int .i64 wop, .string wkd, .string wnm, .slice wva wvn wvc, .slice wka wkn wkc, .int .i64 op, .string kd, .string nm, .slice xa xn xc, .slice ka kn kc] 29)
          have hsub_uacb := sub_alloc hsub_uac (.cells #[.int .i64 op, .string kd, .string nm, .slice xa xn xc, .slice ka kn kc, .int .i64 wop, .string wkd, .string wnm, .slice wva wvn wvc, .slice wka wkn wkc, .int .i64 op, .string kd, .string nm, .slice xa xn xc, .slice ka kn kc] 29)
          have hY_uacb := hY_uac.alloc (.cells #[.int .i64 op, .string kd, .string nm, .slice xa xn xc, .slice ka kn kc, .int .i64 wop, .string wkd, .string wnm, .slice wva wvn wvc, .slice wka wkn wkc, .int .i64 op, .string kd, .string nm, .slice xa xn xc, .slice ka kn kc] 29)
          have hoff_uacb := hoff_uac
          have hya : uac.heap.size ≠ _ := (Nat.ne_of_lt hY_uac.lt).symm
          refine hK.out _ _ (own5z hO_uacb) (fun hHeld => ?_)
          clear hK K
          generalize uac.alloc (.cells #[.int .i64 op, .string kd, .string nm, .slice xa xn xc, .slice ka kn kc, .int .i64 wop, .string wkd, .string wnm, .slice wva wvn wvc, .slice wka wkn wkc, .int .i64 op, .string kd, .string nm, .slice xa xn xc, .slice ka kn kc] 29) = uacb at hA_uacb hO_uacb hG_uacb hH_uacb hsub_uacb hY_uacb hHeld ⊢
          obtain ⟨ga, hga⟩ : ∃ g : Nat, g = uac.heap.size := ⟨_, rfl⟩
          rw [← hga] at hA_uacb hya ⊢
          clear hga
          refine wpAnyH_take (i := 6) (oi := ?oi7) (v := ?v7) ?ho7 (by kernel_rfl) (by kernel_rfl) (by kernel_rfl) ?hp7 (Or.inl ⟨?hw7, ?hy7⟩) (by assumption) ?rest7
          case ho7 => simp only [List.getElem?_toArray, List.getElem?_cons_succ, List.getElem?_cons_zero]; rfl
          case hp7 => exact fun _ _ _ h => h
          case hw7 => rfl
          case hy7 =>
            intro W hSw
            obtain ⟨t0, t1, t2, t3, t4⟩ := hSw
            go_simp
            try exact rfl
          simp only [Act.put, List.setIfInBounds_toArray, List.set_cons_zero, List.set_cons_succ]
          refine wpAnyH_ready (rs := [8]) (by kernel_rfl) (by simp) ?_
          refine AllReadyH.cons rfl (fun K hK => ?_) AllReadyH.nil
          obtain ⟨p0, p1, p2, p3, p4, f0, f1, f2, f3, f4⟩ := own5 hY_uacb
          go_simp
          have hfin := both_store hcn7.out hsm7.out hG_uacb hY_uacb hA_uacb hO_uacb hgy hya hyt hEt8 hsub_uacb hoff_uacb hEw hGr
          refine hK.out _ _ hfin.2 (fun hHeld => ?_)
          clear hK K p0 p1 p2 p3 p4 f0 f1 f2 f3 f4
          refine wpAnyH_done (by kernel_rfl) ?_ _
          go_wp2
          go_meet
          exact Lib.hid hfin.1
  case rest =>
  obtain ⟨gY, ga, dB, rfl, hY, hEB, hcB, hfB, hGc⟩ := hcut.out
  clear hcut
  have hBc := hB7.out.trans (below_of_grown hGc hB7.out.size hsz)
  have hOe8 := hOe7.out.kept hGc (by simp; omega)
  have hOt8 := hOt7.out.kept hGc (by simp; omega)
  have hEX := (hEt7.out.mono (newM_grown hGc)).mono ((newM_but _ _ _).trans (but_sub _ _))
  have hEE := hEe.out.mono (sub_of_below hBc)
  have hBb := Lib.hid (Beyond.alloc (w := w) hBc (.cells #[.int .i64 op, .string kd, .string nm, .slice xa xn xc, .slice ka kn kc, .int .i64 3, .string ⟨#[]⟩, .string ⟨#[]⟩, .slice none 0 0, .slice (some ⟨ga, 0, none⟩) 3 3, .int .i64 eop, .string ekd, .string enm, .slice eva evn evc, .slice eka ekn ekc] 29))
  have hBs := Lib.hid hBc.size
  have hAb := Lib.hid (Own.new wc #[.int .i64 op, .string kd, .string nm, .slice xa xn xc, .slice ka kn kc, .int .i64 3, .string ⟨#[]⟩, .string ⟨#[]⟩, .slice none 0 0, .slice (some ⟨ga, 0, none⟩) 3 3, .int .i64 eop, .string ekd, .string enm, .slice eva evn evc, .slice eka ekn ekc] 29)
  have hF : Hid (∀ j, j < 3 → AtmAt (wc.alloc (.cells #[.int .i64 op, .string kd, .string nm, .slice xa xn xc, .slice ka kn kc, .int .i64 3, .string ⟨#[]⟩, .string ⟨#[]⟩, .slice none 0 0, .slice (some ⟨ga, 0, none⟩) 3 3, .int .i64 eop, .string ekd, .string enm, .slice eva evn evc, .slice eka ekn ekc] 29)).cell? #[.int .i64 op, .string kd, .string nm, .slice xa xn xc, .slice ka kn kc, .int .i64 3, .string ⟨#[]⟩, .string ⟨#[]⟩, .slice none 0 0, .slice (some ⟨ga, 0, none⟩) 3 3, .int .i64 eop, .string ekd, .string enm, .slice eva evn evc, .slice eka ekn ekc] j) := Lib.hid (by
    have hs := sub_alloc (Sub.refl wc.cell?) (.cells #[.int .i64 op, .string kd, .string nm, .slice xa xn xc, .slice ka kn kc, .int .i64 3, .string ⟨#[]⟩, .string ⟨#[]⟩, .slice none 0 0, .slice (some ⟨ga, 0, none⟩) 3 3, .int .i64 eop, .string ekd, .string enm, .slice eva evn evc, .slice eka ekn ekc] 29)
    intro j hj
    rcases (show j = 0 ∨ j = 1 ∨ j = 2 by omega) with rfl | rfl | rfl
    · exact ⟨_, _, _, _, _, _, _, _, _, _, rfl, rfl, rfl, rfl, rfl, hEX.mono hs, Nat.le_trans hcn7.out (by omega), fewE_of_small (by omega) d hsm7.out⟩
    · exact ⟨_, _, _, _, _, _, _, _, _, _, rfl, rfl, rfl, rfl, rfl, hEB.mono hs, hcB, hfB⟩
    · exact ⟨_, _, _, _, _, _, _, _, _, _, rfl, rfl, rfl, rfl, rfl, hEE.mono hs, Nat.le_trans hce.out (by omega), fewE_up (by omega) de hfe.out⟩)
  obtain ⟨x0, x1, x2, x3, x4⟩ := own5z hOt8
  obtain ⟨y0, y1, y2, y3, y4⟩ := own5z hY
  obtain ⟨z0, z1, z2, z3, z4⟩ := own5z hOe8
  clear hEX hEB hEE hcB hfB hGc hBc hOe8 hOt8 hY hC7 hg7 hB7 hOe7 hOt7 hEt7 hsm7 hcn7 hA hg0 hT0 hEe hce hfe
  go_wp2_with fail
  generalize wc.alloc (.cells #[.int .i64 op, .string kd, .string nm, .slice xa xn xc, .slice ka kn kc, .int .i64 3, .string ⟨#[]⟩, .string ⟨#[]⟩, .slice none 0 0, .slice (some ⟨ga, 0, none⟩) 3 3, .int .i64 eop, .string ekd, .string enm, .slice eva evn evc, .slice eka ekn ekc] 29) = wb at hBb hAb hF ⊢
  obtain ⟨gb, hgb⟩ : ∃ g : Nat, g = wc.heap.size := ⟨_, rfl⟩
  rw [← hgb] at hAb ⊢
  clear hgb x0 x1 x2 x3 x4 y0 y1 y2 y3 y4 z0 z1 z2 z3 z4
  go_loopw [34] (fun s34 wr => ∃ k : Nat, k ≤ 3 ∧ s34 = .int .i64 k ∧ Hid (Beyond wb wr)) (fun s34 _ => 3 - (intOf s34).toNat)
  case atStart => exact ⟨0, by omega, rfl, Lib.hid (Beyond.refl _)⟩
  case round =>
    obtain ⟨k, hk, rfl, hy⟩ := hrel
    have hBr := Lib.hid (Beyond.next (w := w) hy.out hBb.out)
    by_cases hlt2 : k < 3
    case neg =>
      go_wp2
      go_ret
      exact ⟨rfl, hBr.out⟩
    obtain ⟨df, fop, fkd, fnm, fva, fvn, fvc, fka, fkn, fkc, a0, a1, a2, a3, a4, hEf, hcf, hff⟩ := hF.out k hlt2
    have hOf' := hAb.out.below hy.out hAb.out.lt
    have f0 := (hOf'.cell (k * 5)).trans a0
    have f1 := (hOf'.cell (k * 5 + 1)).trans a1
    have f2 := (hOf'.cell (k * 5 + 2)).trans a2
    have f3 := (hOf'.cell (k * 5 + 3)).trans a3
    have f4 := (hOf'.cell (k * 5 + 4)).trans a4
    have n0 : (0 : Int) ≤ (k : Int) := by omega
    have n1 : (k : Int) < 3 := by omega
    have hyi := Lib.hid (Beyond.alloc hy.out (.cells #[.int .i64 fop, .string fkd, .string fnm, .slice fva fvn fvc, .slice fka fkn fkc] 29))
    have hEi := Lib.hid (hEf.mono (sub_of_below hyi.out))
    have hOi := Own.new wr #[.int .i64 fop, .string fkd, .string fnm, .slice fva fvn fvc, .slice fka fkn fkc] 29
    replace hcf := Lib.hid hcf
    replace hff := Lib.hid hff
    clear a0 a1 a2 a3 a4 hOf' hEf
    obtain ⟨t0, t1, t2, t3, t4⟩ := own5z hOi
    go_upto_region 11 with fail
    generalize wr.alloc (.cells #[.int .i64 fop, .string fkd, .string fnm, .slice fva fvn fvc, .slice fka fkn fkc] 29) = wi at hyi hEi hOi t0 t1 t2 t3 t4 ⊢
    obtain ⟨gf, hgf⟩ : ∃ g : Nat, g = wr.heap.size := ⟨_, rfl⟩
    rw [← hgf] at hOi t0 t1 t2 t3 t4 ⊢
    clear hgf f0 f1 f2 f3 f4 hOi
    go_cut [10, 11] (fun s10 s11 wy => Hid (TwoR wi df s10 s11 wy))
    case first =>
      have hKp : Hid (∀ u, Beyond wi u → u.cell? ⟨gf, 0, none⟩ = some (.int .i64 fop) ∧ u.cell? ⟨gf, 1, none⟩ = some (.string fkd) ∧ u.cell? ⟨gf, 2, none⟩ = some (.string fnm) ∧ u.cell? ⟨gf, 3, none⟩ = some (.slice fva fvn fvc) ∧ u.cell? ⟨gf, 4, none⟩ = some (.slice fka fkn fkc)) :=
        Lib.hid fun u hb => ⟨cell_later hb t0, cell_later hb t1, cell_later hb t2, cell_later hb t3, cell_later hb t4⟩
      have cA := Lib.hid (fun (u : World) (hb : Beyond wi u) => atoms_all df _ u (hEi.out.mono (sub_of_below hb)) hff.out (Nat.le_trans hcf.out (by omega)))
      have cR := Lib.hid (fun (u : World) (hb : Beyond wi u) => ratoms_any df _ u (hEi.out.mono (sub_of_below hb)) (Nat.le_trans hcf.out (by omega)))
      have hy0 := Beyond.drew wi
      go_region_held3 (fun u => u.cell? ⟨gf, 0, none⟩ = some (.int .i64 fop) ∧ u.cell? ⟨gf, 1, none⟩ = some (.string fkd) ∧ u.cell? ⟨gf, 2, none⟩ = some (.string fnm) ∧ u.cell? ⟨gf, 3, none⟩ = some (.slice fva fvn fvc) ∧ u.cell? ⟨gf, 4, none⟩ = some (.slice fka fkn fkc))
        (exact hKp.out _ (by assumption))
        ((first
          | (go_at_call 25; (with_reducible refine (cA.out _ (by assumption)).mono ?_); rintro e u1 ⟨⟨pa, pc, l', rs, rfl, q1, q2, q3, q4⟩, hy1⟩; have hz1 := Beyond.next hy1 (by assumption); replace q1 := Lib.hid q1; replace q2 := Lib.hid q2; replace q3 := Lib.hid q3; replace q4 := Lib.hid q4)
          | (go_at_call 26; (with_reducible refine (cR.out _ (by assumption)).mono ?_); rintro e u2 ⟨⟨ra, rn, rc, rfl, hRA⟩, hy2⟩; have hz2 := Beyond.next hy2 (by assumption); obtain ⟨rfl, hTw⟩ := two_r (w := wi) q1.out q2.out q3.out q4.out hRA (Sub.refl _) hy2 hz2; replace hTw := Lib.hid hTw)))
      all_goals
        go_wp2
        go_meet
        exact hTw
    case rest =>
    obtain ⟨pa, ra, pc, rc, l', rs, rs2, rfl, rfl, hsm, hrl, hR1, hE1, hR2, hl2, hE2, hyc⟩ := hcut.out
    clear hcut hEi hff hcf t0 t1 t2 t3 t4
    have hyb := Lib.hid (Beyond.next hyc hyi.out)
    have hlen := hsm.len
    generalize addS [] df = acc at hsm hrl hR1 hE1 hR2 hl2 hE2 hlen ⊢
    have hm1 := (len_of hR1).2
    replace hsm := Lib.hid hsm
    replace hR1 := Lib.hid hR1
    replace hE1 := Lib.hid hE1
    replace hR2 := Lib.hid hR2
    replace hE2 := Lib.hid hE2
    have hrl2 := Lib.hid (hrl.trans hlen)
    have hlen' := Lib.hid hlen
    replace hrl := Lib.hid hrl
    replace hl2 := Lib.hid hl2
    clear hyc hlen
    go_wp2_with fail
    go_loopw [12] (fun s12 wr => ∃ i : Nat, i ≤ acc.length ∧ s12 = .int .i64 i ∧ Hid (Beyond wc wr)) (fun s12 _ => acc.length - (intOf s12).toNat)
    case atStart => exact ⟨0, by omega, rfl, Lib.hid (Beyond.refl _)⟩
    case round =>
      obtain ⟨i, hi, rfl, hq⟩ := hrel
      by_cases hlt : i < acc.length
      case neg =>
        have hyq := Lib.hid (Beyond.next hq.out hyb.out)
        go_wp2
        go_roundw
        case rel => exact ⟨k + 1, by omega, by go_num, hyq⟩
        case measure => simp [intOf]; omega
      have hlt' : i < l'.length := by have := hlen'.out; omega
      obtain ⟨bx, ox, xop, xkd, xnm, xva, xvn, xvc, xka, xkn, xkc, rfl, x0, x1, x2, x3, x4, hrx⟩ := kid_at (hR1.out.mono (sub_of_below hq.out)) hrl.out (fun j r k h1 h2 => hE1.out j r k h1 h2) hlt'
      obtain ⟨by', oy, yop, ykd, ynm, yva, yvn, yvc, yka, ykn, ykc, rfl, y0, y1, y2, y3, y4, hry⟩ := kid_at (hR2.out.mono (sub_of_below hq.out)) hl2.out (fun j r k h1 h2 => hE2.out j r k h1 h2) hlt
      have hsb : sameB l'[i] acc[i] = true := sameE_B (sameEL_at hsm.out i _ _ (List.getElem?_eq_getElem hlt') (List.getElem?_eq_getElem hlt))
      have cS : ∀ u, Beyond wc u → Calls Tryz.prog 27 #[.agg #[.int .i64 xop, .string xkd, .string xnm, .slice xva xvn xvc, .slice xka xkn xkc], .agg #[.int .i64 yop, .string ykd, .string ynm, .slice yva yvn yvc, .slice yka ykn ykc]] u fun e u' => e = .returned (.bool true) ∧ Below u.heap.size u u' := fun u hu => by
        have h := rsame_any _ _ _ (hE1.out i _ l'[i] hrx (List.getElem?_eq_getElem hlt')) _ _ _ (hE2.out i _ acc[i] hry (List.getElem?_eq_getElem hlt)) u (sub_of_below hu) (sub_of_below hu)
        rw [hsb] at h
        exact h
      have cK := Lib.hid (fun (dq : Nat) (os : Array Obj) => Calls.regrown_of (cS (Sort.grow (redrawn wr dq) os) (Beyond.next (below_regrown wr dq os) hq.out)))
      have n2 : (0 : Int) ≤ (i : Int) := by omega
      have n3 : (i : Int) < (acc.length : Int) := by omega
      have k0 := cell_regrown x0
      have k1 := cell_regrown x1
      have k2 := cell_regrown x2
      have k3 := cell_regrown x3
      have k4 := cell_regrown x4
      have m0 := cell_regrown y0
      have m1 := cell_regrown y1
      have m2 := cell_regrown y2
      have m3 := cell_regrown y3
      have m4 := cell_regrown y4
      clear hrx hry hsb cS x0 x1 x2 x3 x4 y0 y1 y2 y3 y4
      go_wp2_with fail
      refine wp_region_quiet_below (by kernel_rfl) (by kernel_rfl) ?_
      repeat (go_big_quiet_step (exact cK.out _ _))
      refine wpQuiet_nil ?_
      intro _ hw'
      obtain ⟨⟨dq, osq⟩, hw''⟩ := hw'
      subst hw''
      have hyz := Lib.hid (Beyond.next (below_regrown wr dq osq) hq.out)
      clear cK k0 k1 k2 k3 k4 m0 m1 m2 m3 m4
      generalize Sort.grow (redrawn wr dq) osq = wz at hyz ⊢
      go_wp2
      go_roundw
      case rel => exact ⟨i + 1, by omega, by go_num, hyz⟩
      case measure => simp [intOf]; omega

end Go.Proofs.YtlohdmghaeabjaaGreatDoor.clause

