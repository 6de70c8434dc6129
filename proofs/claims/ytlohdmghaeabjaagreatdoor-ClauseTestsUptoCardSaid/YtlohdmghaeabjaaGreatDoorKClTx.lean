/- ClauseTests: the walk. -/
import Derived.Test.YtlohdmghaeabjaaGreatDoorKClM
import Derived.Test.YtlohdmghaeabjaaGreatDoorKClBg
import Derived.Test.YtlohdmghaeabjaaGreatDoorKClV
import Derived.Test.YtlohdmghaeabjaaGreatDoorKJ9
import Derived.Lib.QuietBelow
namespace Go.Proofs.YtlohdmghaeabjaaGreatDoor.clause
open Go.RowKit Go.Sort Go.Proofs.YtlohdmghaeabjaaGreatDoor Go.Proofs.YtlohdmghaeabjaaGreatDoor.schema Go.Proofs.YtlohdmghaeabjaaGreatDoor.value Go.Proofs.YtlohdmghaeabjaaGreatDoor.text Go.Proofs.YtlohdmghaeabjaaGreatDoor.draw

attribute [local go_sem ↓] Go.wp_at_zero Go.wp_at_succ

theorem Beyond.alloc {w u : World} (h : Beyond w u) (o : Obj) : Beyond w (u.alloc o) := Below.alloc h h.size o
theorem newM_off (B b : Nat) (w : World) : Off b (newM B b w) := by
  intro p v hp
  unfold newM at hp
  split at hp
  · cases hp
  · rename_i h
    exact fun e => h (Or.inr e)
/-- The values of a test lie where it says. -/
def ValsAt (m : Mem) (v : Value) : Prop := ∃ vals : List VD, RowsAt m 4 v (vals.map VD.row) ∧ ∀ u ∈ vals, LAt m u
theorem ValsAt.mono {m m' : Mem} (hs : Sub m m') {v : Value} (h : ValsAt m v) : ValsAt m' v := let ⟨l, h1, h2⟩ := h; ⟨l, h1.mono hs, fun u hu => (h2 u hu).mono hs⟩
theorem vals_of {m : Mem} {d : ED} {op : Int} {kind name : ByteArray} {va : Option Addr} {vn vc : Nat} {ka : Option Addr} {kn kc : Nat} (h : EAt m d [.int .i64 op, .string kind, .string name, .slice va vn vc, .slice ka kn kc]) : ValsAt m (.slice va vn vc) := by
  obtain ⟨vals, kids, rows, -, h1, -, -, h2, -⟩ := eat_parts h
  exact ⟨vals, h1, h2⟩
/-- A subject in a slice of subjects. -/
def SubAt (m : Mem) (g k : Nat) : Prop := ∃ (a : Option Addr) (n c : Nat) (l : List CT), m ⟨g, k, none⟩ = some (.slice a n c) ∧ SAt m (.slice a n c) l
/-- A condition's row in a slice of conditions. -/
def TstAt (m : Mem) (A : Array Value) (j : Nat) : Prop := ∃ (op : Int) (kind name : ByteArray) (va : Option Addr) (vn vc : Nat) (ka : Option Addr) (kn kc : Nat),
  A[j * 5]? = some (.int .i64 op) ∧ A[j * 5 + 1]? = some (.string kind) ∧ A[j * 5 + 2]? = some (.string name) ∧ A[j * 5 + 3]? = some (.slice va vn vc) ∧ A[j * 5 + 4]? = some (.slice ka kn kc) ∧ ValsAt m (.slice va vn vc)

set_option maxRecDepth 100000 in
set_option maxHeartbeats 16000000 in
/-- The loops of the law, from the world in which all is made. -/
theorem tests_walk (a : Option Addr) (n c : Nat) (sa : Option Addr) (sn sc : Nat) (ls : List CT) (de : ED) (re : List Value) (op0 : Int) (w : World) (ho0 : -9223372036854775808 ≤ op0) (ho1 : op0 ≤ 9223372036854775807) (h : BytesAt w.cell? a n c) (hSs : SAt w.cell? (.slice sa sn sc) ls) (hEe : EAt w.cell? de re) (hg : ∀ b, w.heap.size ≤ b → Glob (but b w)) (hT : Tabs w) :
    Calls Tryz.prog 3 #[.slice a n c, .agg #[.slice sa sn sc], .agg re.toArray, .int .i64 op0] w fun e w' => e = .returned (.bool true) ∧ Below w.heap.size w w' := by
  obtain ⟨eop, ekd, enm, eva, evn, evc, eka, ekn, ekc, rfl⟩ := eat_five hEe
  have hB0 : Below w.heap.size w ((w.alloc (.cells #[.slice sa sn sc] 25)).alloc (.cells #[.int .i64 eop, .string ekd, .string enm, .slice eva evn evc, .slice eka ekn ekc] 29)) := ((Below.refl _ _).alloc (Nat.le_refl _) _).alloc (by simp) _
  have hOs := Lib.hid ((Own.new w #[.slice sa sn sc] 25).alloc (.cells #[.int .i64 eop, .string ekd, .string enm, .slice eva evn evc, .slice eka ekn ekc] 29))
  have hOe := Lib.hid (Own.new' (w := w.alloc (.cells #[.slice sa sn sc] 25)) (n := w.heap.size + 1) (A := #[.int .i64 eop, .string ekd, .string enm, .slice eva evn evc, .slice eka ekn ekc]) (t := 29) (by simp))
  have hA := Lib.hid h
  have hg0 := Lib.hid hg
  have hT0 := Lib.hid hT
  replace hSs := Lib.hid hSs
  replace hEe := Lib.hid hEe
  replace hB0 := Lib.hid hB0
  clear h hg hT
  go_enter Tryz.func3, Tryz.ntmps3
  go_wp2_with fail
  generalize (w.alloc (.cells #[.slice sa sn sc] 25)).alloc (.cells #[.int .i64 eop, .string ekd, .string enm, .slice eva evn evc, .slice eka ekn ekc] 29) = w0 at hB0 hOs hOe ⊢
  obtain ⟨gs, hgs⟩ : ∃ g : Nat, Hid (g = w.heap.size) := ⟨_, Lib.hid rfl⟩
  rw [← hgs.out] at hOs hOe ⊢
  refine (awake_any _ (hT0.out.below hB0.out)).mono ?_
  rintro e w1 ⟨rfl, hb1⟩
  have hB1 := Lib.hid (hB0.out.trans (hb1.mono hB0.out.size))
  have hOs1 := hOs.out.below hb1 hOs.out.lt
  have hOe1 := hOe.out.below hb1 hOe.out.lt
  have s0 := hOs1.cell 0
  simp only [List.getElem?_toArray, List.getElem?_cons_zero] at s0
  obtain ⟨x0, x1, x2, x3, x4⟩ := own5z hOe1
  have hsl := hOs1.lt
  have hel := hOe1.lt
  replace hOs1 := Lib.hid hOs1
  replace hOe1 := Lib.hid hOe1
  clear hb1 hB0 hOs hOe
  by_cases hlarge : (8 : Int) < (sn : Int)
  case pos =>
    go_wp2
    go_ret
    exact ⟨rfl, hB1.out⟩
  have hbg := Lib.hid (big_any w1.cell? de _ (hEe.out.mono (sub_of_below hB1.out)) w1 (Sub.refl _))
  go_wp2_with fail
  refine hbg.out.mono ?_
  rintro e w2 ⟨⟨bb, rfl⟩, hb2⟩
  have hB2 := Lib.hid (hB1.out.trans (hb2.mono hB1.out.size))
  have hOs2 := Lib.hid (hOs1.out.below hb2 hsl)
  have hOe2 := Lib.hid (hOe1.out.below hb2 hel)
  clear hb2 hbg hB1 hOs1 hOe1 s0 x0 x1 x2 x3 x4 hsl hel
  cases bb
  case true =>
    go_wp2
    go_ret
    exact ⟨rfl, hB2.out⟩
  go_wp2_with fail
  refine (new_any a n c 100 _ (by omega) (by omega) (hA.out.mono (sub_of_below hB2.out))).mono ?_
  rintro e w3 ⟨rfl, ⟨a', n', c', hC⟩, hb3⟩
  have hsz : w.heap.size ≤ w2.heap.size := hB2.out.size
  have hlt := hC.lt
  have hge : gs + 1 < w2.heap.size := hOe2.out.lt
  have hB3 := Lib.hid (hB2.out.trans (hb3.mono hsz))
  have hOs3 := Lib.hid (hOs2.out.below hb3 hOs2.out.lt)
  have hOe3 := Lib.hid (hOe2.out.below hb3 hOe2.out.lt)
  have hC3 := Lib.hid hC
  have hg3 := Lib.hid ((hg0.out w2.heap.size hsz).mono (sub_of_grown (grown_of_below ((hB2.out.trans (hb3.mono hsz)).mono (Nat.le_refl _)) _)))
  clear hC hb3 hB2 hOs2 hOe2
  go_wp2_with fail
  refine (subject_any w2.heap.size a' n' c' _ hC3.out hg3.out).mono ?_
  rintro e w4 ⟨⟨va, vn, vc, l, rfl, -, hS4⟩, hH4, hG4⟩
  have hG5 : w3.grownBy (w4.alloc (.cells #[.slice va vn vc] 25)) (some w2.heap.size) := g_alloc hG4 _
  have hC5 := Lib.hid (hC3.out.still hG5 (hH4.alloc _))
  have hg5 := Lib.hid (hg3.out.mono (sub_of_grown hG5))
  have hB5 := Lib.hid (hB3.out.trans (below_of_grown hG5 hB3.out.size hsz))
  have hOx5 := Lib.hid (Own.new w4 #[.slice va vn vc] 25)
  have hOs5 := Lib.hid (hOs3.out.kept hG5 (by simp; omega))
  have hOe5 := Lib.hid (hOe3.out.kept hG5 (by simp; omega))
  have hS5 := Lib.hid (hS4.mono (newM_grown (g_alloc (grown_refl w4 (some w2.heap.size)) (.cells #[.slice va vn vc] 25))))
  have hx4 : w2.heap.size < w4.heap.size := hH4.lt
  clear hG5 hG4 hH4 hS4 hC3 hg3 hB3 hOs3 hOe3
  go_wp2_with fail
  generalize w4.alloc (.cells #[.slice va vn vc] 25) = w5 at hC5 hg5 hB5 hOx5 hOs5 hOe5 hS5 ⊢
  obtain ⟨gx, hgx⟩ : ∃ g : Nat, g = w4.heap.size := ⟨_, rfl⟩
  rw [← hgx] at hOx5 hx4 ⊢
  clear hgx
  refine (test_any w2.heap.size a' n' c' _ hC5.out hg5.out).mono ?_
  rintro e w6 ⟨⟨top, tkd, tnm, tl, ta, tn, tc, rfl, hRt, hLt, hFt⟩, hH6, hG6⟩
  have hG7 : w5.grownBy ((w6.alloc (.cells #[.int .i64 top, .string tkd, .string tnm, .slice ta tn tc, .slice none 0 0] 29)).alloc (.cells #[.int .i64 (op0 % 18 - 1), .string tkd, .string tnm, .slice ta tn tc, .slice none 0 0] 29)) (some w2.heap.size) := g_alloc (g_alloc hG6 _) _
  have hC7 := Lib.hid (hC5.out.still hG7 ((hH6.alloc _).alloc _))
  have hg7 := Lib.hid (hg5.out.mono (sub_of_grown hG7))
  have hB7 := Lib.hid (hB5.out.trans (below_of_grown hG7 hB5.out.size hsz))
  have hOx7 := Lib.hid (hOx5.out.kept hG7 (by simp; omega))
  have hOs7 := Lib.hid (hOs5.out.kept hG7 (by simp; omega))
  have hOe7 := Lib.hid (hOe5.out.kept hG7 (by simp; omega))
  have hOt7 := Lib.hid ((Own.new w6 #[.int .i64 top, .string tkd, .string tnm, .slice ta tn tc, .slice none 0 0] 29).alloc (.cells #[.int .i64 (op0 % 18 - 1), .string tkd, .string tnm, .slice ta tn tc, .slice none 0 0] 29))
  have hOu7 := Lib.hid (Own.new' (w := w6.alloc (.cells #[.int .i64 top, .string tkd, .string tnm, .slice ta tn tc, .slice none 0 0] 29)) (n := w6.heap.size + 1) (A := #[.int .i64 (op0 % 18 - 1), .string tkd, .string tnm, .slice ta tn tc, .slice none 0 0]) (t := 29) (by simp))
  have hS7 := Lib.hid (hS5.out.mono (newM_grown hG7))
  have hm7 : Sub (newM w5.heap.size w2.heap.size w6) (newM w5.heap.size w2.heap.size ((w6.alloc (.cells #[.int .i64 top, .string tkd, .string tnm, .slice ta tn tc, .slice none 0 0] 29)).alloc (.cells #[.int .i64 (op0 % 18 - 1), .string tkd, .string tnm, .slice ta tn tc, .slice none 0 0] 29))) := newM_grown (g_alloc (g_alloc (grown_refl _ _) _) _)
  have hEt7 := Lib.hid (eat_test (op := top) (kind := tkd) (name := tnm) (hRt.mono hm7) (fun v hv => (hLt v hv).mono hm7))
  have hsm7 := Lib.hid (show smallE 4 (.mk top tkd tnm tl []) from ⟨hFt.2.2.2, by simp, fun e => by have := hFt.1; omega, trivial⟩)
  have hx6 : w2.heap.size < w6.heap.size := hH6.lt
  clear hG7 hG6 hH6 hRt hLt hFt hm7 hC5 hg5 hB5 hOx5 hOs5 hOe5 hS5
  go_wp2_with fail
  refine (mod_eq op0 18 _ (by omega) (by omega) ho0 ho1).mono ?_
  rintro e wm ⟨rfl, hwm⟩
  subst hwm
  have hm0 : 0 ≤ op0 % 18 := Int.emod_nonneg _ (by omega)
  have hm1 : op0 % 18 < 18 := Int.emod_lt_of_pos _ (by omega)
  go_wp2_with fail
  generalize (w6.alloc (.cells #[.int .i64 top, .string tkd, .string tnm, .slice ta tn tc, .slice none 0 0] 29)).alloc (.cells #[.int .i64 (op0 % 18 - 1), .string tkd, .string tnm, .slice ta tn tc, .slice none 0 0] 29) = w7 at hC7 hg7 hB7 hOx7 hOs7 hOe7 hOt7 hOu7 hS7 hEt7 ⊢
  obtain ⟨gt, hgt⟩ : ∃ g : Nat, g = w6.heap.size := ⟨_, rfl⟩
  rw [← hgt] at hOt7 hOu7 hx6 ⊢
  clear hgt
  have hcall := Lib.hid (cond_any w2.heap.size a' n' c' 4 (by omega) (newM w5.heap.size w2.heap.size w7) (newM_off _ _ _) hEt7.out hsm7.out w7 hC7.out hg7.out ((newM_but _ _ _).trans (but_sub _ _)))
  refine hcall.out.mono ?_
  rintro e w8 ⟨⟨M', dw, wop, wkd, wnm, wva, wvn, wvc, wka, wkn, wkc, rfl, -, hsub, -, hEw⟩, hH8, hG8⟩
  have hG9 : w7.grownBy ((w8.alloc (.cells #[.int .i64 wop, .string wkd, .string wnm, .slice wva wvn wvc, .slice wka wkn wkc] 29)).alloc (.cells #[.slice va vn vc, .slice sa sn sc] 25)) (some w2.heap.size) := g_alloc (g_alloc hG8 _) _
  have hB9 := Lib.hid (hB7.out.trans (below_of_grown hG9 hB7.out.size hsz))
  have hOx9 := hOx7.out.kept hG9 (by simp; omega)
  have hOs9 := hOs7.out.kept hG9 (by simp; omega)
  have hOe9 := hOe7.out.kept hG9 (by simp; omega)
  have hOt9 := hOt7.out.kept hG9 (by simp; omega)
  have hOu9 := hOu7.out.kept hG9 (by simp; omega)
  have hOw9 := (Own.new w8 #[.int .i64 wop, .string wkd, .string wnm, .slice wva wvn wvc, .slice wka wkn wkc] 29).alloc (.cells #[.slice va vn vc, .slice sa sn sc] 25)
  have hOy9 := Own.new' (w := w8.alloc (.cells #[.int .i64 wop, .string wkd, .string wnm, .slice wva wvn wvc, .slice wka wkn wkc] 29)) (n := w8.heap.size + 1) (A := #[.slice va vn vc, .slice sa sn sc]) (t := 25) (by simp)
  have hSx9 := (hS7.out.mono (newM_grown hG9)).mono ((newM_but _ _ _).trans (but_sub _ _))
  have hSs9 := hSs.out.mono (sub_of_below hB9.out)
  have hVt9 := vals_of ((hEt7.out.mono (newM_grown hG9)).mono ((newM_but _ _ _).trans (but_sub _ _)))
  have hVw9 := vals_of (hEw.mono (hsub.trans (sub_alloc (sub_alloc (Sub.refl _) (.cells #[.int .i64 wop, .string wkd, .string wnm, .slice wva wvn wvc, .slice wka wkn wkc] 29)) (.cells #[.slice va vn vc, .slice sa sn sc] 25))))
  have hVe9 := vals_of (hEe.out.mono (sub_of_below hB9.out))
  have hT9 := Lib.hid (hT0.out.below hB9.out)
  have hx8 : w2.heap.size < w8.heap.size := hH8.lt
  have hOx8 := hOx7.out.kept hG8 (by simp; omega)
  have hOs8 := hOs7.out.kept hG8 (by simp; omega)
  have y0 := hOx8.cell 0
  have y1 := hOs8.cell 0
  simp only [List.getElem?_toArray, List.getElem?_cons_zero] at y0 y1
  have hxl := hOx8.lt
  have hsl := hOs8.lt
  clear hOx8 hOs8 hcall hC7 hg7 hB7 hOx7 hOs7 hOe7 hOt7 hOu7 hS7 hEt7 hsm7 hG9 hG8 hH8 hsub hEw
  replace hOx9 := Lib.hid hOx9
  replace hOs9 := Lib.hid hOs9
  replace hOe9 := Lib.hid hOe9
  replace hOt9 := Lib.hid hOt9
  replace hOu9 := Lib.hid hOu9
  replace hOw9 := Lib.hid hOw9
  replace hOy9 := Lib.hid hOy9
  replace hSx9 := Lib.hid hSx9
  replace hSs9 := Lib.hid hSs9
  replace hVt9 := Lib.hid hVt9
  replace hVw9 := Lib.hid hVw9
  replace hVe9 := Lib.hid hVe9
  go_wp2_with fail
  generalize (w8.alloc (.cells #[.int .i64 wop, .string wkd, .string wnm, .slice wva wvn wvc, .slice wka wkn wkc] 29)).alloc (.cells #[.slice va vn vc, .slice sa sn sc] 25) = wb at hB9 hOx9 hOs9 hOe9 hOt9 hOu9 hOw9 hOy9 hSx9 hSs9 hVt9 hVw9 hVe9 hT9 ⊢
  obtain ⟨gw, hgw⟩ : ∃ g : Nat, g = w8.heap.size := ⟨_, rfl⟩
  rw [← hgw] at hOw9 hOy9 hx8 ⊢
  clear hgw y0 y1 hxl hsl
  have hY : Hid (∀ k, k < 2 → SubAt wb.cell? (gw + 1) k) := Lib.hid (by
    intro k hk
    rcases (show k = 0 ∨ k = 1 by omega) with rfl | rfl
    · exact ⟨va, vn, vc, l, (hOy9.out.cell 0).trans rfl, hSx9.out⟩
    · exact ⟨sa, sn, sc, ls, (hOy9.out.cell 1).trans rfl, hSs9.out⟩)
  have hF : Hid (∀ j, j < 4 → TstAt wb.cell? #[.int .i64 top, .string tkd, .string tnm, .slice ta tn tc, .slice none 0 0, .int .i64 (op0 % 18 - 1), .string tkd, .string tnm, .slice ta tn tc, .slice none 0 0, .int .i64 wop, .string wkd, .string wnm, .slice wva wvn wvc, .slice wka wkn wkc, .int .i64 eop, .string ekd, .string enm, .slice eva evn evc, .slice eka ekn ekc] j) := Lib.hid (by
    intro j hj
    rcases (show j = 0 ∨ j = 1 ∨ j = 2 ∨ j = 3 by omega) with rfl | rfl | rfl | rfl
    · exact ⟨_, _, _, _, _, _, _, _, _, rfl, rfl, rfl, rfl, rfl, hVt9.out⟩
    · exact ⟨_, _, _, _, _, _, _, _, _, rfl, rfl, rfl, rfl, rfl, hVt9.out⟩
    · exact ⟨_, _, _, _, _, _, _, _, _, rfl, rfl, rfl, rfl, rfl, hVw9.out⟩
    · exact ⟨_, _, _, _, _, _, _, _, _, rfl, rfl, rfl, rfl, rfl, hVe9.out⟩)
  have hyl := hOy9.out.lt
  clear hSx9 hSs9 hVt9 hVw9 hVe9 hOx9 hOs9 hOy9
  go_loopw [46] (fun s46 wr => ∃ k : Nat, k ≤ 2 ∧ s46 = .int .i64 k ∧ Hid (Beyond wb wr)) (fun s46 _ => 2 - (intOf s46).toNat)
  case atStart => exact ⟨0, by omega, rfl, Lib.hid (Beyond.refl _)⟩
  case round =>
    obtain ⟨k, hk, rfl, hy⟩ := hrel
    have hBr := Lib.hid (hB9.out.trans (Below.mono hy.out hB9.out.size))
    by_cases hlt2 : k < 2
    case neg =>
      go_wp2
      go_ret
      exact ⟨rfl, hBr.out⟩
    obtain ⟨ya, yn, yc, ly, yk, hSy⟩ := hY.out k hlt2
    have yk' := cell_later hy.out yk
    have hyl' : gw + 1 < wr.heap.size := by have := hy.out.size; omega
    have n0 : (0 : Int) ≤ (k : Int) := by omega
    have n1 : (k : Int) < 2 := by omega
    obtain ⟨t0, t1, t2, t3, t4⟩ := own5z (hOt9.out.below hy.out hOt9.out.lt)
    obtain ⟨u0, u1, u2, u3, u4⟩ := own5z (hOu9.out.below hy.out hOu9.out.lt)
    obtain ⟨p0, p1, p2, p3, p4⟩ := own5z (hOw9.out.below hy.out hOw9.out.lt)
    obtain ⟨e0, e1, e2, e3, e4⟩ := own5z (hOe9.out.below hy.out hOe9.out.lt)
    have htl : gt < wr.heap.size := (hOt9.out.below hy.out hOt9.out.lt).lt
    have hul : gt + 1 < wr.heap.size := (hOu9.out.below hy.out hOu9.out.lt).lt
    have hwl : gw < wr.heap.size := (hOw9.out.below hy.out hOw9.out.lt).lt
    have hel : gs + 1 < wr.heap.size := (hOe9.out.below hy.out hOe9.out.lt).lt
    replace hSy := Lib.hid hSy
    clear yk
    have hyi := Lib.hid (show Beyond wb ((wr.alloc (.cells #[.slice ya yn yc] 25)).alloc (.cells #[.int .i64 top, .string tkd, .string tnm, .slice ta tn tc, .slice none 0 0, .int .i64 (op0 % 18 - 1), .string tkd, .string tnm, .slice ta tn tc, .slice none 0 0, .int .i64 wop, .string wkd, .string wnm, .slice wva wvn wvc, .slice wka wkn wkc, .int .i64 eop, .string ekd, .string enm, .slice eva evn evc, .slice eka ekn ekc] 29)) from Beyond.alloc (Beyond.alloc hy.out _) _)
    have hyr := Lib.hid (show Beyond wr ((wr.alloc (.cells #[.slice ya yn yc] 25)).alloc (.cells #[.int .i64 top, .string tkd, .string tnm, .slice ta tn tc, .slice none 0 0, .int .i64 (op0 % 18 - 1), .string tkd, .string tnm, .slice ta tn tc, .slice none 0 0, .int .i64 wop, .string wkd, .string wnm, .slice wva wvn wvc, .slice wka wkn wkc, .int .i64 eop, .string ekd, .string enm, .slice eva evn evc, .slice eka ekn ekc] 29)) from Beyond.alloc (Beyond.alloc (Beyond.refl _) _) _)
    have hOq := Lib.hid ((Own.new wr #[.slice ya yn yc] 25).alloc (.cells #[.int .i64 top, .string tkd, .string tnm, .slice ta tn tc, .slice none 0 0, .int .i64 (op0 % 18 - 1), .string tkd, .string tnm, .slice ta tn tc, .slice none 0 0, .int .i64 wop, .string wkd, .string wnm, .slice wva wvn wvc, .slice wka wkn wkc, .int .i64 eop, .string ekd, .string enm, .slice eva evn evc, .slice eka ekn ekc] 29))
    have hOf := Lib.hid (Own.new' (w := wr.alloc (.cells #[.slice ya yn yc] 25)) (n := wr.heap.size + 1) (A := #[.int .i64 top, .string tkd, .string tnm, .slice ta tn tc, .slice none 0 0, .int .i64 (op0 % 18 - 1), .string tkd, .string tnm, .slice ta tn tc, .slice none 0 0, .int .i64 wop, .string wkd, .string wnm, .slice wva wvn wvc, .slice wka wkn wkc, .int .i64 eop, .string ekd, .string enm, .slice eva evn evc, .slice eka ekn ekc]) (t := 29) (by simp))
    go_wp2_with fail
    generalize (wr.alloc (.cells #[.slice ya yn yc] 25)).alloc (.cells #[.int .i64 top, .string tkd, .string tnm, .slice ta tn tc, .slice none 0 0, .int .i64 (op0 % 18 - 1), .string tkd, .string tnm, .slice ta tn tc, .slice none 0 0, .int .i64 wop, .string wkd, .string wnm, .slice wva wvn wvc, .slice wka wkn wkc, .int .i64 eop, .string ekd, .string enm, .slice eva evn evc, .slice eka ekn ekc] 29) = wi at hyi hyr hOq hOf ⊢
    obtain ⟨gq, hgq⟩ : ∃ g : Nat, g = wr.heap.size := ⟨_, rfl⟩
    rw [← hgq] at hOq hOf ⊢
    clear hgq t0 t1 t2 t3 t4 u0 u1 u2 u3 u4 p0 p1 p2 p3 p4 e0 e1 e2 e3 e4 htl hul hwl hel yk' hyl'
    go_loopw [56] (fun s56 wq => ∃ j : Nat, j ≤ 4 ∧ s56 = .int .i64 j ∧ Hid (Beyond wi wq)) (fun s56 _ => 4 - (intOf s56).toNat)
    case atStart => exact ⟨0, by omega, rfl, Lib.hid (Beyond.refl _)⟩
    case round =>
      obtain ⟨j, hj, rfl, hyq⟩ := hrel
      have hyb := Lib.hid (Beyond.next hyq.out hyi.out)
      by_cases hlt4 : j < 4
      case neg =>
        have hyn := Lib.hid (Beyond.next hyb.out (Beyond.refl wb))
        go_wp2
        go_roundw
        case rel => exact ⟨k + 1, by omega, by go_num, hyn⟩
        case measure => simp [intOf]; omega
      obtain ⟨fop, fkd, fnm, fva, fvn, fvc, fka, fkn, fkc, a0, a1, a2, a3, a4, vals, hVr, hVl⟩ := hF.out j hlt4
      have hOf' := hOf.out.below hyq.out hOf.out.lt
      have f0 := (hOf'.cell (j * 5)).trans a0
      have f1 := (hOf'.cell (j * 5 + 1)).trans a1
      have f2 := (hOf'.cell (j * 5 + 2)).trans a2
      have f3 := (hOf'.cell (j * 5 + 3)).trans a3
      have f4 := (hOf'.cell (j * 5 + 4)).trans a4
      have hfl := hOf'.lt
      have hOq' := hOq.out.below hyq.out hOq.out.lt
      have q0 := hOq'.cell 0
      simp only [List.getElem?_toArray, List.getElem?_cons_zero] at q0
      have hql := hOq'.lt
      have m0 : (0 : Int) ≤ (j : Int) := by omega
      have m1 : (j : Int) < 4 := by omega
      have hTq := Lib.hid (hT9.out.below hyb.out)
      have hSq := Lib.hid (hSy.out.mono (sub_of_below hyb.out))
      have hVq := Lib.hid (hVr.mono (sub_of_below hyb.out))
      have hLq := Lib.hid (fun v hv => (hVl v hv).mono (sub_of_below hyb.out))
      have hX : Own (wr.alloc (.cells #[.int .i64 fop, .string fkd, .string fnm, .slice fva fvn fvc, .slice fka fkn fkc] 29)) wr.heap.size #[.int .i64 fop, .string fkd, .string fnm, .slice fva fvn fvc, .slice fka fkn fkc] 29 := Own.new wr _ _
      have hyx : Beyond wr (wr.alloc (.cells #[.int .i64 fop, .string fkd, .string fnm, .slice fva fvn fvc, .slice fka fkn fkc] 29)) := Beyond.alloc (Beyond.refl _) _
      have g0 := (hOq'.alloc (.cells #[.int .i64 fop, .string fkd, .string fnm, .slice fva fvn fvc, .slice fka fkn fkc] 29)).cell 0
      simp only [List.getElem?_toArray, List.getElem?_cons_zero] at g0
      obtain ⟨b0, b1, b2, b3, b4⟩ := own5z hX
      have hyj := Lib.hid (Beyond.next hyx hyq.out)
      have cP := Lib.hid (fun (dq : Nat) (os : Array Obj) => Calls.regrown_of (clTest_any ly ya yn yc fop fkd fnm fva fvn fvc fka fkn fkc vals (Sort.grow (redrawn (wr.alloc (.cells #[.int .i64 fop, .string fkd, .string fnm, .slice fva fvn fvc, .slice fka fkn fkc] 29)) dq) os) (hSq.out.mono (sub_of_below (Beyond.next (below_regrown _ dq os) hyx))) (hVq.out.mono (sub_of_below (Beyond.next (below_regrown _ dq os) hyx))) (fun v hv => (hLq.out v hv).mono (sub_of_below (Beyond.next (below_regrown _ dq os) hyx))) (hTq.out.below (Beyond.next (below_regrown _ dq os) hyx))))
      have cR := Lib.hid (fun (dq : Nat) (os : Array Obj) => Calls.regrown_of (clTest_ref ly ya yn yc fop fkd fnm fva fvn fvc fka fkn fkc vals (Sort.grow (redrawn (wr.alloc (.cells #[.int .i64 fop, .string fkd, .string fnm, .slice fva fvn fvc, .slice fka fkn fkc] 29)) dq) os) (hSq.out.mono (sub_of_below (Beyond.next (below_regrown _ dq os) hyx))) (hVq.out.mono (sub_of_below (Beyond.next (below_regrown _ dq os) hyx))) (fun v hv => (hLq.out v hv).mono (sub_of_below (Beyond.next (below_regrown _ dq os) hyx))) (hTq.out.below (Beyond.next (below_regrown _ dq os) hyx))))
      generalize testS ly fop fkd fnm vals = bb at cP cR
      have k0 := cell_regrown g0
      have k1 := cell_regrown b0
      have k2 := cell_regrown b1
      have k3 := cell_regrown b2
      have k4 := cell_regrown b3
      have k5 := cell_regrown b4
      clear a0 a1 a2 a3 a4 hVr hVl hOf' hOq' hX hyx g0 b0 b1 b2 b3 b4
      go_wp2_with fail
      refine wp_region_quiet_below (by kernel_rfl) (by kernel_rfl) ?_
      repeat (go_big_quiet_step (first | (with_reducible exact cP.out _ _) | (with_reducible exact cR.out _ _)))
      refine wpQuiet_nil ?_
      intro _ hw'
      obtain ⟨⟨dq, osq⟩, hw''⟩ := hw'
      subst hw''
      have hyz := Lib.hid (Beyond.next (below_regrown (wr.alloc (.cells #[.int .i64 fop, .string fkd, .string fnm, .slice fva fvn fvc, .slice fka fkn fkc] 29)) dq osq) hyj.out)
      clear cP cR k0 k1 k2 k3 k4 k5 f0 f1 f2 f3 f4 q0 hTq hSq hVq hLq
      generalize Sort.grow (redrawn _ dq) osq = wz at hyz ⊢
      cases bb
      all_goals
        go_wp2
        go_roundw
        case rel => exact ⟨j + 1, by omega, by go_num, hyz⟩
        case measure => simp [intOf]; omega

end Go.Proofs.YtlohdmghaeabjaaGreatDoor.clause

