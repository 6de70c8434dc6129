/- ClauseEvals: the walk. -/
import Derived.Test.YtlohdmghaeabjaaGreatDoorKClM
import Derived.Test.YtlohdmghaeabjaaGreatDoorKClBg
import Derived.Test.YtlohdmghaeabjaaGreatDoorKClF
import Derived.Lib.QuietBelow
namespace Go.Proofs.YtlohdmghaeabjaaGreatDoor.clause
open Go.RowKit Go.Sort Go.Proofs.YtlohdmghaeabjaaGreatDoor Go.Proofs.YtlohdmghaeabjaaGreatDoor.schema Go.Proofs.YtlohdmghaeabjaaGreatDoor.value Go.Proofs.YtlohdmghaeabjaaGreatDoor.text Go.Proofs.YtlohdmghaeabjaaGreatDoor.draw

attribute [local go_sem ↓] Go.wp_at_zero Go.wp_at_succ

theorem Beyond.alloc {w u : World} (h : Beyond w u) (o : Obj) : Beyond w (u.alloc o) := Below.alloc h h.size o
theorem newM_off (B b : Nat) (w : World) : Off b (newM B b w) := by
  intro p v hp
  unfold newM at hp
  split at hp
  · cases hp
  · rename_i h
    exact fun e => h (Or.inr e)
/-- A condition in a row of conditions. -/
def CndAt (m : Mem) (A : Array Value) (j : Nat) : Prop := ∃ (d : ED) (op : Int) (kind name : ByteArray) (va : Option Addr) (vn vc : Nat) (ka : Option Addr) (kn kc : Nat),
  A[j * 5]? = some (.int .i64 op) ∧ A[j * 5 + 1]? = some (.string kind) ∧ A[j * 5 + 2]? = some (.string name) ∧ A[j * 5 + 3]? = some (.slice va vn vc) ∧ A[j * 5 + 4]? = some (.slice ka kn kc) ∧ EAt m d [.int .i64 op, .string kind, .string name, .slice va vn vc, .slice ka kn kc]
/-- A list of segments in a row of lists. -/
def LstAt (m : Mem) (A : Array Value) (j : Nat) : Prop := ∃ (a : Option Addr) (n c : Nat) (inn : List ByteArray), A[j]? = some (.slice a n c) ∧ RowsAt m 1 (.slice a n c) (inn.map strRow)

set_option maxRecDepth 100000 in
set_option maxHeartbeats 16000000 in
theorem evals_walk (a : Option Addr) (n c : Nat) (sa : Option Addr) (sn sc : Nat) (ls : List CT) (de : ED) (re : List Value) (ia : Option Addr) (i ic : Nat) (inn : List ByteArray) (w : World) (h : BytesAt w.cell? a n c) (hSs : SAt w.cell? (.slice sa sn sc) ls) (hEe : EAt w.cell? de re)
    (hin : RowsAt w.cell? 1 (.slice ia i ic) (inn.map strRow)) (hg : ∀ b, w.heap.size ≤ b → Glob (but b w)) (hT : Tabs w) :
    Calls Tryz.prog 5 #[.slice a n c, .agg #[.slice sa sn sc], .agg re.toArray, .slice ia i ic] w fun e w' => e = .returned (.bool true) ∧ Below w.heap.size w w' := by
  obtain ⟨eop, ekd, enm, eva, evn, evc, eka, ekn, ekc, rfl⟩ := eat_five hEe
  have hin1 := (len_of hin).1
  simp only [List.length_map] at hin1
  subst hin1
  have hB0 : Below w.heap.size w ((w.alloc (.cells #[.slice sa sn sc] 25)).alloc (.cells #[.int .i64 eop, .string ekd, .string enm, .slice eva evn evc, .slice eka ekn ekc] 29)) := ((Below.refl _ _).alloc (Nat.le_refl _) _).alloc (by simp) _
  have hOs := Lib.hid ((Own.new w #[.slice sa sn sc] 25).alloc (.cells #[.int .i64 eop, .string ekd, .string enm, .slice eva evn evc, .slice eka ekn ekc] 29))
  have hOe := Lib.hid (Own.new' (w := w.alloc (.cells #[.slice sa sn sc] 25)) (n := w.heap.size + 1) (A := #[.int .i64 eop, .string ekd, .string enm, .slice eva evn evc, .slice eka ekn ekc]) (t := 29) (by simp))
  have hA := Lib.hid h
  have hg0 := Lib.hid hg
  have hT0 := Lib.hid hT
  have hi0 := Lib.hid hin
  replace hSs := Lib.hid hSs
  replace hEe := Lib.hid hEe
  replace hB0 := Lib.hid hB0
  clear h hg hT hin
  go_enter Tryz.func5, Tryz.ntmps5
  go_wp2_with fail
  generalize (w.alloc (.cells #[.slice sa sn sc] 25)).alloc (.cells #[.int .i64 eop, .string ekd, .string enm, .slice eva evn evc, .slice eka ekn ekc] 29) = w0 at hB0 hOs hOe ⊢
  obtain ⟨gs, hgs⟩ : ∃ g : Nat, Hid (g = w.heap.size) := ⟨_, Lib.hid rfl⟩
  rw [← hgs.out] at hOs hOe ⊢
  refine (awake_any _ (hT0.out.below hB0.out)).mono ?_
  rintro e w1 ⟨rfl, hb1⟩
  have hB1 := Lib.hid (hB0.out.trans (hb1.mono hB0.out.size))
  have hOs1 := hOs.out.below hb1 hOs.out.lt
  have hOe1 := hOe.out.below hb1 hOe.out.lt
  have s0 := hOs1.cell 0
  simp only [List.getElem?_toArray, List.getElem?_cons_zero] at s0
  obtain ⟨x0, x1, x2, x3, x4⟩ := own5z hOe1
  have hsl := hOs1.lt
  have hel := hOe1.lt
  replace hOs1 := Lib.hid hOs1
  replace hOe1 := Lib.hid hOe1
  clear hb1 hB0 hOs hOe
  by_cases hlarge : (8 : Int) < (sn : Int)
  case pos =>
    go_wp2
    go_ret
    exact ⟨rfl, hB1.out⟩
  have hbg := Lib.hid (big_any w1.cell? de _ (hEe.out.mono (sub_of_below hB1.out)) w1 (Sub.refl _))
  go_wp2_with fail
  refine hbg.out.mono ?_
  rintro e w2 ⟨⟨bb, rfl⟩, hb2⟩
  have hB2 := Lib.hid (hB1.out.trans (hb2.mono hB1.out.size))
  have hOs2 := Lib.hid (hOs1.out.below hb2 hsl)
  have hOe2 := Lib.hid (hOe1.out.below hb2 hel)
  clear hb2 hbg hB1 hOs1 hOe1 s0 x0 x1 x2 x3 x4 hsl hel
  cases bb
  case true =>
    go_wp2
    go_ret
    exact ⟨rfl, hB2.out⟩
  by_cases hmany : (20 : Int) < (inn.length : Int)
  case pos =>
    go_wp2
    go_ret
    exact ⟨rfl, hB2.out⟩
  go_wp2_with fail
  refine (new_any a n c 150 _ (by omega) (by omega) (hA.out.mono (sub_of_below hB2.out))).mono ?_
  rintro e w3 ⟨rfl, ⟨a', n', c', hC⟩, hb3⟩
  have hsz : w.heap.size ≤ w2.heap.size := hB2.out.size
  have hlt := hC.lt
  have hge : gs + 1 < w2.heap.size := hOe2.out.lt
  have hB3 := Lib.hid (hB2.out.trans (hb3.mono hsz))
  have hOs3 := Lib.hid (hOs2.out.below hb3 hOs2.out.lt)
  have hOe3 := Lib.hid (hOe2.out.below hb3 hOe2.out.lt)
  have hC3 := Lib.hid hC
  have hg3 := Lib.hid ((hg0.out w2.heap.size hsz).mono (sub_of_grown (grown_of_below ((hB2.out.trans (hb3.mono hsz)).mono (Nat.le_refl _)) _)))
  clear hC hb3 hB2 hOs2 hOe2
  go_wp2_with fail
  refine (subject_any w2.heap.size a' n' c' _ hC3.out hg3.out).mono ?_
  rintro e w4 ⟨⟨va, vn, vc, l, rfl, -, hS4⟩, hH4, hG4⟩
  have hG5 : w3.grownBy ((w4.alloc (.cells #[.slice va vn vc] 25)).alloc (.cells #[.string ⟨#[97, 108, 112, 104, 97]⟩, .string ⟨#[98, 101, 116, 97]⟩] 9)) (some w2.heap.size) := g_alloc (g_alloc hG4 _) _
  have hC5 := Lib.hid (hC3.out.still hG5 ((hH4.alloc _).alloc _))
  have hg5 := Lib.hid (hg3.out.mono (sub_of_grown hG5))
  have hB5 := Lib.hid (hB3.out.trans (below_of_grown hG5 hB3.out.size hsz))
  have hOx5 := Lib.hid ((Own.new w4 #[.slice va vn vc] 25).alloc (.cells #[.string ⟨#[97, 108, 112, 104, 97]⟩, .string ⟨#[98, 101, 116, 97]⟩] 9))
  have hOs5 := Lib.hid (hOs3.out.kept hG5 (by simp; omega))
  have hOe5 := Lib.hid (hOe3.out.kept hG5 (by simp; omega))
  have hS5 := Lib.hid (hS4.mono (newM_grown (g_alloc (g_alloc (grown_refl w4 (some w2.heap.size)) (.cells #[.slice va vn vc] 25)) (.cells #[.string ⟨#[97, 108, 112, 104, 97]⟩, .string ⟨#[98, 101, 116, 97]⟩] 9))))
  have hx4 : w2.heap.size < w4.heap.size := hH4.lt
  have hAB := Lib.hid (rows_of_own_but (b := w2.heap.size) (Own.new' (w := w4.alloc (.cells #[.slice va vn vc] 25)) (n := w4.heap.size + 1) (A := #[.string ⟨#[97, 108, 112, 104, 97]⟩, .string ⟨#[98, 101, 116, 97]⟩]) (t := 9) (by simp)) (by omega) 1 (segsAB.map strRow) (by simp [strRow]) rfl 2 (by simp [segsAB]) (by decide))
  clear hG5 hG4 hH4 hS4 hC3 hg3 hB3 hOs3 hOe3
  go_wp2_with fail
  generalize (w4.alloc (.cells #[.slice va vn vc] 25)).alloc (.cells #[.string ⟨#[97, 108, 112, 104, 97]⟩, .string ⟨#[98, 101, 116, 97]⟩] 9) = w5 at hC5 hg5 hB5 hOx5 hOs5 hOe5 hS5 hAB ⊢
  obtain ⟨gx, hgx⟩ : ∃ g : Nat, g = w4.heap.size := ⟨_, rfl⟩
  rw [← hgx] at hOx5 hx4 hAB ⊢
  clear hgx
  refine (dexpr_any w2.heap.size a' n' c' _ segsAB (by decide) 4 4 w5 (by omega) (by omega) (by omega) hC5.out hg5.out hAB.out).mono ?_
  rintro e w6 ⟨⟨d, op, kd, nm, xa, xn, xc, ka, kn, kc, rfl, hE6, hF6⟩, hH6, hG6⟩
  have hG7 : w5.grownBy (w6.alloc (.cells #[.int .i64 op, .string kd, .string nm, .slice xa xn xc, .slice ka kn kc] 29)) (some w2.heap.size) := g_alloc hG6 _
  have hC7 := Lib.hid (hC5.out.still hG7 (hH6.alloc _))
  have hg7 := Lib.hid (hg5.out.mono (sub_of_grown hG7))
  have hB7 := Lib.hid (hB5.out.trans (below_of_grown hG7 hB5.out.size hsz))
  have hOx7 := Lib.hid (hOx5.out.kept hG7 (by simp; omega))
  have hOs7 := Lib.hid (hOs5.out.kept hG7 (by simp; omega))
  have hOe7 := Lib.hid (hOe5.out.kept hG7 (by simp; omega))
  have hOt7 := Lib.hid (Own.new w6 #[.int .i64 op, .string kd, .string nm, .slice xa xn xc, .slice ka kn kc] 29)
  have hS7 := Lib.hid (hS5.out.mono (newM_grown hG7))
  have hEt7 := Lib.hid (hE6.mono (newM_grown (g_alloc (grown_refl w6 (some w2.heap.size)) (.cells #[.int .i64 op, .string kd, .string nm, .slice xa xn xc, .slice ka kn kc] 29))))
  have hsm7 := Lib.hid hF6.2.1
  have hx6 : w2.heap.size < w6.heap.size := hH6.lt
  clear hG7 hG6 hH6 hE6 hF6 hC5 hg5 hB5 hOx5 hOs5 hOe5 hS5 hAB
  obtain ⟨t0, t1, t2, t3, t4⟩ := own5z hOt7.out
  have htl := hOt7.out.lt
  go_wp2_with fail
  generalize w6.alloc (.cells #[.int .i64 op, .string kd, .string nm, .slice xa xn xc, .slice ka kn kc] 29) = w7 at hC7 hg7 hB7 hOx7 hOs7 hOe7 hOt7 hS7 hEt7 t0 t1 t2 t3 t4 htl ⊢
  obtain ⟨gt, hgt⟩ : ∃ g : Nat, g = w6.heap.size := ⟨_, rfl⟩
  rw [← hgt] at hOt7 hx6 t0 t1 t2 t3 t4 htl ⊢
  clear hgt t0 t1 t2 t3 t4
  have hcall := Lib.hid (cond_any w2.heap.size a' n' c' 4 (by omega) (newM w5.heap.size w2.heap.size w7) (newM_off _ _ _) hEt7.out hsm7.out w7 hC7.out hg7.out ((newM_but _ _ _).trans (but_sub _ _)))
  refine hcall.out.mono ?_
  rintro e w8 ⟨⟨M', dw, wop, wkd, wnm, wva, wvn, wvc, wka, wkn, wkc, rfl, -, hsub, -, hEw⟩, hH8, hG8⟩
  have hG9 : w7.grownBy ((w8.alloc (.cells #[.int .i64 wop, .string wkd, .string wnm, .slice wva wvn wvc, .slice wka wkn wkc] 29)).alloc (.cells #[.int .i64 op, .string kd, .string nm, .slice xa xn xc, .slice ka kn kc, .int .i64 wop, .string wkd, .string wnm, .slice wva wvn wvc, .slice wka wkn wkc, .int .i64 eop, .string ekd, .string enm, .slice eva evn evc, .slice eka ekn ekc] 29)) (some w2.heap.size) := g_alloc (g_alloc hG8 _) _
  have hB9 := Lib.hid (hB7.out.trans (below_of_grown hG9 hB7.out.size hsz))
  have hOx9 := Lib.hid (hOx7.out.kept hG9 (by simp; omega))
  have hOs9 := Lib.hid (hOs7.out.kept hG9 (by simp; omega))
  have hOy9 := Lib.hid (Own.new' (w := w8.alloc (.cells #[.int .i64 wop, .string wkd, .string wnm, .slice wva wvn wvc, .slice wka wkn wkc] 29)) (n := w8.heap.size + 1) (A := #[.int .i64 op, .string kd, .string nm, .slice xa xn xc, .slice ka kn kc, .int .i64 wop, .string wkd, .string wnm, .slice wva wvn wvc, .slice wka wkn wkc, .int .i64 eop, .string ekd, .string enm, .slice eva evn evc, .slice eka ekn ekc]) (t := 29) (by simp))
  have hSx9 := Lib.hid ((hS7.out.mono (newM_grown hG9)).mono ((newM_but _ _ _).trans (but_sub _ _)))
  have hSs9 := Lib.hid (hSs.out.mono (sub_of_below hB9.out))
  have hIn9 := Lib.hid (hi0.out.mono (sub_of_below hB9.out))
  have hVt9 := Lib.hid ((hEt7.out.mono (newM_grown hG9)).mono ((newM_but _ _ _).trans (but_sub _ _)))
  have hVw9 := Lib.hid (hEw.mono (hsub.trans (sub_alloc (sub_alloc (Sub.refl _) (.cells #[.int .i64 wop, .string wkd, .string wnm, .slice wva wvn wvc, .slice wka wkn wkc] 29)) (.cells #[.int .i64 op, .string kd, .string nm, .slice xa xn xc, .slice ka kn kc, .int .i64 wop, .string wkd, .string wnm, .slice wva wvn wvc, .slice wka wkn wkc, .int .i64 eop, .string ekd, .string enm, .slice eva evn evc, .slice eka ekn ekc] 29))))
  have hVe9 := Lib.hid (hEe.out.mono (sub_of_below hB9.out))
  have hT9 := Lib.hid (hT0.out.below hB9.out)
  have hx8 : w2.heap.size < w8.heap.size := hH8.lt
  have hOt8 := hOt7.out.kept hG8 (by simp; omega)
  have hOe8 := hOe7.out.kept hG8 (by simp; omega)
  obtain ⟨t0, t1, t2, t3, t4⟩ := own5z hOt8
  obtain ⟨e0, e1, e2, e3, e4⟩ := own5z hOe8
  have htl8 := hOt8.lt
  have hel8 := hOe8.lt
  clear hOt8 hOe8 hcall hC7 hg7 hB7 hOx7 hOs7 hOe7 hOt7 hS7 hEt7 hsm7 hG9 hG8 hH8 hsub hEw
  go_wp2_with fail
  generalize (w8.alloc (.cells #[.int .i64 wop, .string wkd, .string wnm, .slice wva wvn wvc, .slice wka wkn wkc] 29)).alloc (.cells #[.int .i64 op, .string kd, .string nm, .slice xa xn xc, .slice ka kn kc, .int .i64 wop, .string wkd, .string wnm, .slice wva wvn wvc, .slice wka wkn wkc, .int .i64 eop, .string ekd, .string enm, .slice eva evn evc, .slice eka ekn ekc] 29) = wb at hB9 hOx9 hOs9 hOy9 hSx9 hSs9 hIn9 hVt9 hVw9 hVe9 hT9 ⊢
  obtain ⟨gw, hgw⟩ : ∃ g : Nat, g = w8.heap.size := ⟨_, rfl⟩
  rw [← hgw] at hOy9 hx8 ⊢
  clear hgw t0 t1 t2 t3 t4 e0 e1 e2 e3 e4 htl8 hel8
  have hF : Hid (∀ j, j < 3 → CndAt wb.cell? #[.int .i64 op, .string kd, .string nm, .slice xa xn xc, .slice ka kn kc, .int .i64 wop, .string wkd, .string wnm, .slice wva wvn wvc, .slice wka wkn wkc, .int .i64 eop, .string ekd, .string enm, .slice eva evn evc, .slice eka ekn ekc] j) := Lib.hid (by
    intro j hj
    rcases (show j = 0 ∨ j = 1 ∨ j = 2 by omega) with rfl | rfl | rfl
    · exact ⟨_, _, _, _, _, _, _, _, _, _, rfl, rfl, rfl, rfl, rfl, hVt9.out⟩
    · exact ⟨_, _, _, _, _, _, _, _, _, _, rfl, rfl, rfl, rfl, rfl, hVw9.out⟩
    · exact ⟨_, _, _, _, _, _, _, _, _, _, rfl, rfl, rfl, rfl, rfl, hVe9.out⟩)
  clear hVt9 hVw9 hVe9
  go_loopw [47] (fun s47 wr => ∃ k : Nat, k ≤ 3 ∧ s47 = .int .i64 k ∧ Hid (Beyond wb wr)) (fun s47 _ => 3 - (intOf s47).toNat)
  case atStart => exact ⟨0, by omega, rfl, Lib.hid (Beyond.refl _)⟩
  case round =>
    obtain ⟨k, hk, rfl, hy⟩ := hrel
    have hBr := Lib.hid (hB9.out.trans (Below.mono hy.out hB9.out.size))
    by_cases hlt2 : k < 3
    case neg =>
      go_wp2
      go_ret
      exact ⟨rfl, hBr.out⟩
    obtain ⟨df, fop, fkd, fnm, fva, fvn, fvc, fka, fkn, fkc, a0, a1, a2, a3, a4, hEf⟩ := hF.out k hlt2
    have hOf' := hOy9.out.below hy.out hOy9.out.lt
    have f0 := (hOf'.cell (k * 5)).trans a0
    have f1 := (hOf'.cell (k * 5 + 1)).trans a1
    have f2 := (hOf'.cell (k * 5 + 2)).trans a2
    have f3 := (hOf'.cell (k * 5 + 3)).trans a3
    have f4 := (hOf'.cell (k * 5 + 4)).trans a4
    have hfl := hOf'.lt
    have n0 : (0 : Int) ≤ (k : Int) := by omega
    have n1 : (k : Int) < 3 := by omega
    replace hEf := Lib.hid hEf
    have hyi := Lib.hid (show Beyond wb ((((wr.alloc (.cells #[.int .i64 fop, .string fkd, .string fnm, .slice fva fvn fvc, .slice fka fkn fkc] 29)).alloc (.cells #[.string ⟨#[97, 108, 112, 104, 97]⟩] 9)).alloc (.cells #[.string ⟨#[98, 101, 116, 97]⟩, .string ⟨#[97, 108, 112, 104, 97]⟩] 9)).alloc (.cells #[.slice none 0 0, .slice (some ⟨wr.heap.size + 1, 0, none⟩) 1 1, .slice (some ⟨wr.heap.size + 1 + 1, 0, none⟩) 2 2, .slice ia inn.length ic] 41)) from Beyond.alloc (Beyond.alloc (Beyond.alloc (Beyond.alloc hy.out _) _) _) _)
    have hOf := Lib.hid ((((Own.new wr #[.int .i64 fop, .string fkd, .string fnm, .slice fva fvn fvc, .slice fka fkn fkc] 29).alloc (.cells #[.string ⟨#[97, 108, 112, 104, 97]⟩] 9)).alloc (.cells #[.string ⟨#[98, 101, 116, 97]⟩, .string ⟨#[97, 108, 112, 104, 97]⟩] 9)).alloc (.cells #[.slice none 0 0, .slice (some ⟨wr.heap.size + 1, 0, none⟩) 1 1, .slice (some ⟨wr.heap.size + 1 + 1, 0, none⟩) 2 2, .slice ia inn.length ic] 41))
    have hO1 := Lib.hid (((Own.new' (w := wr.alloc (.cells #[.int .i64 fop, .string fkd, .string fnm, .slice fva fvn fvc, .slice fka fkn fkc] 29)) (n := wr.heap.size + 1) (A := #[.string ⟨#[97, 108, 112, 104, 97]⟩]) (t := 9) (by simp)).alloc (.cells #[.string ⟨#[98, 101, 116, 97]⟩, .string ⟨#[97, 108, 112, 104, 97]⟩] 9)).alloc (.cells #[.slice none 0 0, .slice (some ⟨wr.heap.size + 1, 0, none⟩) 1 1, .slice (some ⟨wr.heap.size + 1 + 1, 0, none⟩) 2 2, .slice ia inn.length ic] 41))
    have hO2 := Lib.hid ((Own.new' (w := (wr.alloc (.cells #[.int .i64 fop, .string fkd, .string fnm, .slice fva fvn fvc, .slice fka fkn fkc] 29)).alloc (.cells #[.string ⟨#[97, 108, 112, 104, 97]⟩] 9)) (n := wr.heap.size + 1 + 1) (A := #[.string ⟨#[98, 101, 116, 97]⟩, .string ⟨#[97, 108, 112, 104, 97]⟩]) (t := 9) (by simp)).alloc (.cells #[.slice none 0 0, .slice (some ⟨wr.heap.size + 1, 0, none⟩) 1 1, .slice (some ⟨wr.heap.size + 1 + 1, 0, none⟩) 2 2, .slice ia inn.length ic] 41))
    have hO3 := Lib.hid (Own.new' (w := ((wr.alloc (.cells #[.int .i64 fop, .string fkd, .string fnm, .slice fva fvn fvc, .slice fka fkn fkc] 29)).alloc (.cells #[.string ⟨#[97, 108, 112, 104, 97]⟩] 9)).alloc (.cells #[.string ⟨#[98, 101, 116, 97]⟩, .string ⟨#[97, 108, 112, 104, 97]⟩] 9)) (n := wr.heap.size + 1 + 1 + 1) (A := #[.slice none 0 0, .slice (some ⟨wr.heap.size + 1, 0, none⟩) 1 1, .slice (some ⟨wr.heap.size + 1 + 1, 0, none⟩) 2 2, .slice ia inn.length ic]) (t := 41) (by simp))
    clear a0 a1 a2 a3 a4 hOf'
    go_wp2_with fail
    generalize (((wr.alloc (.cells #[.int .i64 fop, .string fkd, .string fnm, .slice fva fvn fvc, .slice fka fkn fkc] 29)).alloc (.cells _ 9)).alloc (.cells _ 9)).alloc (.cells #[.slice none 0 0, .slice (some ⟨wr.heap.size + 1, 0, none⟩) 1 1, .slice (some ⟨wr.heap.size + 1 + 1, 0, none⟩) 2 2, .slice ia inn.length ic] 41) = wi at hyi hOf hO1 hO2 hO3 ⊢
    obtain ⟨gf, hgf⟩ : ∃ g : Nat, g = wr.heap.size := ⟨_, rfl⟩
    rw [← hgf] at hOf hO1 hO2 hO3 ⊢
    clear hgf f0 f1 f2 f3 f4 hfl
    have hL : Hid (∀ j, j < 4 → LstAt wi.cell? #[.slice none 0 0, .slice (some ⟨gf + 1, 0, none⟩) 1 1, .slice (some ⟨gf + 1 + 1, 0, none⟩) 2 2, .slice ia inn.length ic] j) := Lib.hid (by
      intro j hj
      rcases (show j = 0 ∨ j = 1 ∨ j = 2 ∨ j = 3 by omega) with rfl | rfl | rfl | rfl
      · exact ⟨none, 0, 0, [], rfl, rows_nil _ _⟩
      · exact ⟨_, _, _, [⟨#[97, 108, 112, 104, 97]⟩], rfl, rows_of_own hO1.out 1 (([⟨#[97, 108, 112, 104, 97]⟩] : List ByteArray).map strRow) (by simp [strRow]) rfl 1 (by simp) (by decide)⟩
      · exact ⟨_, _, _, [⟨#[98, 101, 116, 97]⟩, ⟨#[97, 108, 112, 104, 97]⟩], rfl, rows_of_own hO2.out 1 (([⟨#[98, 101, 116, 97]⟩, ⟨#[97, 108, 112, 104, 97]⟩] : List ByteArray).map strRow) (by simp [strRow]) rfl 2 (by simp) (by decide)⟩
      · exact ⟨_, _, _, inn, rfl, hIn9.out.mono (sub_of_below hyi.out)⟩)
    clear hO1 hO2
    go_loopw [56] (fun s56 wq => ∃ j : Nat, j ≤ 4 ∧ s56 = .int .i64 j ∧ Hid (Beyond wi wq)) (fun s56 _ => 4 - (intOf s56).toNat)
    case atStart => exact ⟨0, by omega, rfl, Lib.hid (Beyond.refl _)⟩
    case round =>
      obtain ⟨j, hj, rfl, hyq⟩ := hrel
      have hyb := Lib.hid (Beyond.next hyq.out hyi.out)
      by_cases hlt4 : j < 4
      case neg =>
        go_wp2
        go_roundw
        case rel => exact ⟨k + 1, by omega, by go_num, hyb⟩
        case measure => simp [intOf]; omega
      obtain ⟨la, ln, lc, linn, a0, hLr⟩ := hL.out j hlt4
      have hO3' := hO3.out.below hyq.out hO3.out.lt
      have l0 := (hO3'.cell j).trans a0
      have hll := hO3'.lt
      obtain ⟨b0, b1, b2, b3, b4⟩ := own5z (hOf.out.below hyq.out hOf.out.lt)
      have g0 := (hOx9.out.below hyb.out hOx9.out.lt).cell 0
      have s0 := (hOs9.out.below hyb.out hOs9.out.lt).cell 0
      simp only [List.getElem?_toArray, List.getElem?_cons_zero] at g0 s0
      have m0 : (0 : Int) ≤ (j : Int) := by omega
      have m1 : (j : Int) < 4 := by omega
      have hE : ∀ (u : World), Beyond wr u → ∀ (ya : Option Addr) (yn yc : Nat) (ly : List CT), SAt wb.cell? (.slice ya yn yc) ly → Calls Tryz.prog 23 #[.agg #[.slice ya yn yc], .slice la ln lc, .agg #[.int .i64 fop, .string fkd, .string fnm, .slice fva fvn fvc, .slice fka fkn fkc]] u fun e u' => e = .returned (.bool (evalS ly linn df)) ∧ Below u.heap.size u u' :=
        fun u hu ya yn yc ly hSy => eval_any ly ya yn yc linn la ln lc u.cell? (hSy.mono (sub_of_below (Beyond.next hu hyb.out))) (hLr.mono (sub_of_below (Beyond.next hu hyq.out))) df _ (hEf.out.mono (sub_of_below (Beyond.next hu hyb.out))) u (Sub.refl _) (hT9.out.below (Beyond.next hu hyb.out))
      have hR : ∀ (u : World), Beyond wr u → ∀ (ya : Option Addr) (yn yc : Nat) (ly : List CT), SAt wb.cell? (.slice ya yn yc) ly → Calls Tryz.prog 24 #[.agg #[.slice ya yn yc], .slice la ln lc, .agg #[.int .i64 fop, .string fkd, .string fnm, .slice fva fvn fvc, .slice fka fkn fkc]] u fun e u' => e = .returned (.bool (evalS ly linn df)) ∧ Below u.heap.size u u' :=
        fun u hu ya yn yc ly hSy => eval_ref ly ya yn yc linn la ln lc u.cell? (hSy.mono (sub_of_below (Beyond.next hu hyb.out))) (hLr.mono (sub_of_below (Beyond.next hu hyq.out))) df _ (hEf.out.mono (sub_of_below (Beyond.next hu hyb.out))) u (Sub.refl _) (hT9.out.below (Beyond.next hu hyb.out))
      have cP := Lib.hid (fun (dq : Nat) (os : Array Obj) => Calls.regrown_of (hE (Sort.grow (redrawn wr dq) os) (below_regrown wr dq os) va vn vc l hSx9.out))
      have cR := Lib.hid (fun (dq : Nat) (os : Array Obj) => Calls.regrown_of (hR (Sort.grow (redrawn wr dq) os) (below_regrown wr dq os) va vn vc l hSx9.out))
      have dP := Lib.hid (fun (dq : Nat) (os : Array Obj) => Calls.regrown_of (hE (Sort.grow (redrawn wr dq) os) (below_regrown wr dq os) sa sn sc ls hSs9.out))
      have dR := Lib.hid (fun (dq : Nat) (os : Array Obj) => Calls.regrown_of (hR (Sort.grow (redrawn wr dq) os) (below_regrown wr dq os) sa sn sc ls hSs9.out))
      generalize evalS l linn df = bx at cP cR
      generalize evalS ls linn df = bs at dP dR
      have k0 := cell_regrown g0
      have k1 := cell_regrown b0
      have k2 := cell_regrown b1
      have k3 := cell_regrown b2
      have k4 := cell_regrown b3
      have k5 := cell_regrown b4
      have k6 := cell_regrown s0
      clear hE hR a0 hLr hO3' g0 s0 b0 b1 b2 b3 b4
      go_wp2_with fail
      cases bx <;> cases bs
      all_goals
        refine wp_region_quiet_below (by kernel_rfl) (by kernel_rfl) ?_
        repeat (go_big_quiet_step (first | (with_reducible exact cP.out _ _) | (with_reducible exact cR.out _ _) | (with_reducible exact dP.out _ _) | (with_reducible exact dR.out _ _)))
        refine wpQuiet_nil ?_
        intro _ hw'
        obtain ⟨⟨dq, osq⟩, hw''⟩ := hw'
        subst hw''
        have hyz := Lib.hid (Beyond.next (below_regrown wr dq osq) hyq.out)
        clear cP cR dP dR k0 k1 k2 k3 k4 k5 k6 l0
        generalize Sort.grow (redrawn wr dq) osq = wz at hyz ⊢
        go_wp2
        go_roundw
        case rel => exact ⟨j + 1, by omega, by go_num, hyz⟩
        case measure => simp [intOf]; omega

end Go.Proofs.YtlohdmghaeabjaaGreatDoor.clause

