/- ClauseSwaps: the walk. -/
import Derived.Test.YtlohdmghaeabjaaGreatDoorKClSw
import Derived.Test.YtlohdmghaeabjaaGreatDoorKClM
import Derived.Test.YtlohdmghaeabjaaGreatDoorKJ9
import Derived.Lib.QuietBelow
namespace Go.Proofs.YtlohdmghaeabjaaGreatDoor.clause
open Go.RowKit Go.Sort Go.Proofs.YtlohdmghaeabjaaGreatDoor Go.Proofs.YtlohdmghaeabjaaGreatDoor.schema Go.Proofs.YtlohdmghaeabjaaGreatDoor.value Go.Proofs.YtlohdmghaeabjaaGreatDoor.text Go.Proofs.YtlohdmghaeabjaaGreatDoor.draw

attribute [local go_sem ↓] Go.wp_at_zero Go.wp_at_succ

theorem Beyond.alloc {w u : World} (h : Beyond w u) (o : Obj) : Beyond w (u.alloc o) := Below.alloc h h.size o
theorem Beyond.dr {w u : World} (h : Beyond w u) : Beyond w u.drew := Beyond.next (Beyond.drew u) h
theorem Beyond.set {w u : World} (h : Beyond w u) {p : Addr} (hp : w.heap.size ≤ p.block) (v : Value) : Beyond w (u.setCell p v) := Below.setCell h hp v

mutual
theorem cnt_le {N : Nat} : ∀ d : ED, smallE N d → cntE d ≤ (N + 1) ^ depE d
  | .mk op k n v ks, h => by
    rw [cntE, depE]
    cases hD : depL ks with
    | zero =>
      cases ks with
      | nil => simp [cntL]
      | cons x r => rw [depL] at hD; omega
    | succ D =>
      have h1 := cntL_le ks h.2.2.2 D (by omega)
      have h2 := h.2.1
      have h3 : 1 ≤ (N + 1) ^ D := Nat.one_le_pow _ _ (by omega)
      have h4 : ks.length * (N + 1) ^ D ≤ N * (N + 1) ^ D := Nat.mul_le_mul_right _ h2
      rw [Nat.pow_succ, Nat.mul_add, Nat.mul_one, Nat.mul_comm ((N + 1) ^ D) N]
      omega
theorem cntL_le {N : Nat} : ∀ l : List ED, smallL N l → ∀ D, depL l ≤ D + 1 → cntL l ≤ l.length * (N + 1) ^ D
  | [], _, _, _ => by simp [cntL]
  | x :: r, h, D, hD => by
    rw [depL] at hD
    have h1 := cnt_le x h.1
    have h2 := cntL_le r h.2 D (by omega)
    have h3 : (N + 1) ^ depE x ≤ (N + 1) ^ D := Nat.pow_le_pow_right (by omega) (by omega)
    rw [cntL, List.length_cons, Nat.add_mul, Nat.one_mul]
    omega
end
mutual
theorem few_small {N M : Nat} (h : N ≤ M) : ∀ d : ED, smallE N d → fewE M d
  | .mk _ _ _ _ ks, hs => ⟨Nat.le_trans hs.1 h, Nat.le_trans hs.2.1 h, few_smallL h ks hs.2.2.2⟩
theorem few_smallL {N M : Nat} (h : N ≤ M) : ∀ l : List ED, smallL N l → fewL M l
  | [], _ => trivial
  | x :: r, hs => ⟨few_small h x hs.1, few_smallL h r hs.2⟩
end
/-- A swapped condition, and what Eval says of it from then on. -/
def SwapRes (sv inv : Value) (bx : Bool) (u : World) (e : Ending) (u' : World) : Prop :=
  (∃ (op : Int) (kind name : ByteArray) (va : Option Addr) (vn vc : Nat) (ka : Option Addr) (kn kc : Nat), e = .returned (.agg #[.int .i64 op, .string kind, .string name, .slice va vn vc, .slice ka kn kc]) ∧
    Hid (∀ u2, Beyond u' u2 → Calls Tryz.prog 23 #[.agg #[sv], inv, .agg #[.int .i64 op, .string kind, .string name, .slice va vn vc, .slice ka kn kc]] u2 fun e u3 => e = .returned (.bool bx) ∧ Beyond u2 u3)) ∧ Beyond u u'

set_option maxRecDepth 100000 in
set_option maxHeartbeats 16000000 in
theorem swaps_walk (a : Option Addr) (n c : Nat) (xi xk : Int) (w : World) (hi0 : -9223372036854775808 ≤ xi) (hi1 : xi ≤ 9223372036854775807) (hk0 : -9223372036854775808 ≤ xk) (hk1 : xk ≤ 9223372036854775807) (h : BytesAt w.cell? a n c) (hg : ∀ b, w.heap.size ≤ b → Glob (but b w)) (hT : Tabs w) :
    Calls Tryz.prog 7 #[.slice a n c, .int .i64 xi, .int .i64 xk] w fun e w' => e = .returned (.bool true) ∧ Below w.heap.size w w' := by
  have hA := Lib.hid h
  have hg0 := Lib.hid hg
  have hT0 := Lib.hid hT
  clear h hg hT
  go_enter Tryz.func7, Tryz.ntmps7
  go_wp2_with fail
  refine (awake_any _ hT0.out).mono ?_
  rintro e w1 ⟨rfl, hb1⟩
  have hB1 := Lib.hid hb1
  clear hb1
  go_wp2_with fail
  refine (new_any a n c 150 _ (by omega) (by omega) (hA.out.mono (sub_of_below hB1.out))).mono ?_
  rintro e w2 ⟨rfl, ⟨a', n', c', hC⟩, hb2⟩
  have hsz : w.heap.size ≤ w1.heap.size := hB1.out.size
  have hlt := hC.lt
  have hB2 := Lib.hid (hB1.out.trans (hb2.mono hsz))
  have hC2 := Lib.hid hC
  have hg2 := Lib.hid ((hg0.out w1.heap.size hsz).mono (sub_of_grown (grown_of_below ((hB1.out.trans (hb2.mono hsz)).mono (Nat.le_refl _)) _)))
  clear hC hb2
  go_wp2_with fail
  refine (subject_any w1.heap.size a' n' c' _ hC2.out hg2.out).mono ?_
  rintro e w3 ⟨⟨va, vn, vc, l, rfl, -, hS3⟩, hH3, hG3⟩
  have hC3 := hC2.out.still hG3 hH3
  have hg3 := hg2.out.mono (sub_of_grown hG3)
  have hB3 := hB2.out.trans (below_of_grown hG3 hB2.out.size hsz)
  have hlt3 := hC3.lt
  have hG4 : w3.grownBy ((w3.alloc (.cells #[.slice va vn vc] 25)).alloc (.cells #[.string ⟨#[97, 108, 112, 104, 97]⟩, .string ⟨#[98, 101, 116, 97]⟩] 9)) (some w1.heap.size) := g_alloc (g_alloc (grown_refl _ _) _) _
  have hC4 := Lib.hid (hC3.still hG4 ((hC3.1.alloc _).alloc _))
  have hg4 := Lib.hid (hg3.mono (sub_of_grown hG4))
  have hB4 := Lib.hid (hB3.trans (below_of_grown hG4 hB3.size hsz))
  have hO4 := Lib.hid ((Own.new w3 #[.slice va vn vc] 25).alloc (.cells #[.string ⟨#[97, 108, 112, 104, 97]⟩, .string ⟨#[98, 101, 116, 97]⟩] 9))
  have hS4 := Lib.hid (hS3.mono (newM_grown hG4))
  have hAB := Lib.hid (rows_of_own_but (b := w1.heap.size) (Own.new' (w := w3.alloc (.cells #[.slice va vn vc] 25)) (n := w3.heap.size + 1) (A := #[.string ⟨#[97, 108, 112, 104, 97]⟩, .string ⟨#[98, 101, 116, 97]⟩]) (t := 9) (by simp)) (by omega) 1 (segsAB.map strRow) (by simp [strRow]) rfl 2 (by simp [segsAB]) (by decide))
  clear hC3 hg3 hB3 hG4 hG3 hH3 hS3
  go_wp2_with fail
  generalize (w3.alloc (.cells _ 25)).alloc (.cells #[.string ⟨#[97, 108, 112, 104, 97]⟩, .string ⟨#[98, 101, 116, 97]⟩] 9) = w4 at hC4 hg4 hB4 hO4 hS4 hAB ⊢
  obtain ⟨gS, hgS⟩ : ∃ g : Nat, g = w3.heap.size := ⟨_, rfl⟩
  rw [← hgS] at hO4 hAB hlt3 ⊢
  clear hgS
  refine (dexpr_any w1.heap.size a' n' c' _ segsAB (by decide) 4 4 w4 (by omega) (by omega) (by omega) hC4.out hg4.out hAB.out).mono ?_
  rintro e w5 ⟨⟨d, op, kd, nm, xa, xn, xc, ka, kn, kc, rfl, hE, hF⟩, hH5, hG5⟩
  have hB5 := hB4.out.trans (below_of_grown hG5 hB4.out.size hsz)
  have hO5 := hO4.out.kept hG5 (by simp; omega)
  have hS5 := hS4.out.mono (newM_grown hG5)
  have hm5 : Sub (newM w2.heap.size w1.heap.size w5) (w5.alloc (.cells #[.int .i64 op, .string kd, .string nm, .slice xa xn xc, .slice ka kn kc] 29)).cell? := sub_alloc ((newM_but _ _ _).trans (but_sub _ _)) _
  have hm5' : Sub (newM w4.heap.size w1.heap.size w5) (w5.alloc (.cells #[.int .i64 op, .string kd, .string nm, .slice xa xn xc, .slice ka kn kc] 29)).cell? := sub_alloc ((newM_but _ _ _).trans (but_sub _ _)) _
  have hO6 := hO5.alloc (.cells #[.int .i64 op, .string kd, .string nm, .slice xa xn xc, .slice ka kn kc] 29)
  have hE6 := Own.new w5 #[.int .i64 op, .string kd, .string nm, .slice xa xn xc, .slice ka kn kc] 29
  have hS6 := Lib.hid (hS5.mono hm5)
  have hX6 := Lib.hid (hE.mono hm5')
  have hB6 := Lib.hid (hB5.alloc hB5.size (.cells #[.int .i64 op, .string kd, .string nm, .slice xa xn xc, .slice ka kn kc] 29))
  have hF6 := Lib.hid (small_mono (show 4 ≤ 200 by omega) d hF.2.1)
  have hfew := Lib.hid (few_small (show 4 ≤ 1099511627776 by omega) d hF.2.1)
  have hcnt := Lib.hid (show cntE d ≤ 1000000 from Nat.le_trans (cnt_le d hF.2.1) (Nat.le_trans (Nat.pow_le_pow_right (by omega) (show depE d ≤ 6 from hF.2.2)) (by decide)))
  clear hB5 hO5 hS5 hm5 hm5' hE hF hH5 hG5 hC4 hg4 hB4 hO4 hS4 hAB hC2 hg2 hB2 hB1 hg0 hA hlt hlt3
  have s0 := hO6.cell 0
  simp only [List.getElem?_toArray, List.getElem?_cons_zero] at s0
  obtain ⟨x0, x1, x2, x3, x4⟩ := own5z hE6
  have hsl := hO6.lt
  have hel := hE6.lt
  replace hO6 := Lib.hid hO6
  replace hE6 := Lib.hid hE6
  go_wp2_with fail
  generalize w5.alloc (.cells #[.int .i64 op, .string kd, .string nm, .slice xa xn xc, .slice ka kn kc] 29) = w6 at hS6 hX6 hB6 hO6 hE6 s0 x0 x1 x2 x3 x4 hsl hel ⊢
  obtain ⟨gE, hgE⟩ : ∃ g : Nat, g = w5.heap.size := ⟨_, rfl⟩
  rw [← hgE] at hE6 x0 x1 x2 x3 x4 hel ⊢
  clear hgE
  refine (atoms_all d _ w6 hX6.out hfew.out (Nat.le_trans hcnt.out (by decide))).mono ?_
  rintro e w7 ⟨⟨pa, pc, l', rs, rfl, hsame, hrl, hrows, hats⟩, hb7⟩
  have hB7 := Lib.hid (hB6.out.trans (hb7.mono hB6.out.size))
  have hO7 := Lib.hid (hO6.out.below hb7 hsl)
  have hE7 := Lib.hid (hE6.out.below hb7 hel)
  have hS7 := Lib.hid (hS6.out.mono (sub_of_below hb7))
  have hX7 := Lib.hid (hX6.out.mono (sub_of_below hb7))
  have hlen := hsame.len
  have hAlen : (addS [] d).length ≤ 1000000 := by have h1 := addS_len [] d; have h2 := hcnt.out; simp only [List.length_nil, Nat.zero_add] at h1; omega
  clear s0 x0 x1 x2 x3 x4 hsl hel hb7 hfew hcnt hsame
  generalize hN : (addS [] d).length = N at hAlen hlen hrows ⊢
  clear hN
  by_cases hsm : (N : Int) < 2
  case pos =>
    go_wp2
    go_ret
    exact ⟨rfl, hB7.out⟩
  have hNi := Int.emod_nonneg xi (show (N : Int) ≠ 0 by omega)
  have hNi2 := Int.emod_lt_of_pos xi (show (0 : Int) < N by omega)
  have hNk := Int.emod_nonneg xk (show (N : Int) ≠ 0 by omega)
  have hNk2 := Int.emod_lt_of_pos xk (show (0 : Int) < N by omega)
  obtain ⟨i, hi⟩ : ∃ i : Nat, Hid (xi % (N : Int) = (i : Int)) := ⟨_, Lib.hid (Int.toNat_of_nonneg hNi).symm⟩
  obtain ⟨k, hk⟩ : ∃ i : Nat, Hid (xk % (N : Int) = (i : Int)) := ⟨_, Lib.hid (Int.toNat_of_nonneg hNk).symm⟩
  have hil : i < l'.length := by have := hi.out; omega
  have hkl : k < l'.length := by have := hk.out; omega
  clear hNi hNi2 hNk hNk2
  have hB8 := Lib.hid (hB7.out.alloc hB7.out.size (.cells #[.string ⟨#[98, 101, 116, 97]⟩] 9))
  have hO8 := Lib.hid (hO7.out.alloc (.cells #[.string ⟨#[98, 101, 116, 97]⟩] 9))
  have hE8 := Lib.hid (hE7.out.alloc (.cells #[.string ⟨#[98, 101, 116, 97]⟩] 9))
  have hI8 := Lib.hid (rows_of_own (Own.new w7 #[.string ⟨#[98, 101, 116, 97]⟩] 9) 1 (([⟨#[98, 101, 116, 97]⟩] : List ByteArray).map strRow) (by simp [strRow]) rfl 1 (by simp) (by decide))
  have hS8 := Lib.hid (hS7.out.mono (sub_alloc (Sub.refl _) (.cells #[.string ⟨#[98, 101, 116, 97]⟩] 9)))
  have hX8 := Lib.hid (hX7.out.mono (sub_alloc (Sub.refl _) (.cells #[.string ⟨#[98, 101, 116, 97]⟩] 9)))
  have hR8 := hrows.mono (sub_alloc (Sub.refl _) (.cells #[.string ⟨#[98, 101, 116, 97]⟩] 9))
  have hA8 := fun i r k h1 h2 => (hats i r k h1 h2).mono (sub_alloc (Sub.refl _) (.cells #[.string ⟨#[98, 101, 116, 97]⟩] 9))
  clear hrows hats hB7 hO7 hE7 hS7 hX7
  go_wp2_with fail
  generalize w7.alloc (.cells #[.string ⟨#[98, 101, 116, 97]⟩] 9) = w8 at hB8 hO8 hE8 hI8 hS8 hX8 hR8 hA8 ⊢
  obtain ⟨gI, hgI⟩ : ∃ g : Nat, g = w7.heap.size := ⟨_, rfl⟩
  rw [← hgI] at hI8 ⊢
  clear hgI
  obtain ⟨pb, po, pop, pkd, pnm, pva, pvn, pvc, pka, pkn, pkc, hpa, p0, p1, p2, p3, p4, hpr⟩ := kid_at hR8 hrl hA8 hil
  obtain ⟨qb, qo, qop, qkd, qnm, qva, qvn, qvc, qka, qkn, qkc, hqa, q0, q1, q2, q3, q4, hqr⟩ := kid_at hR8 hrl hA8 hkl
  have hP8 := Lib.hid (hA8 i _ l'[i] hpr (List.getElem?_eq_getElem hil))
  have hQ8 := Lib.hid (hA8 k _ l'[k] hqr (List.getElem?_eq_getElem hkl))
  subst hpa
  injection hqa with hqa
  injection hqa with hqb hqo
  subst hqb hqo
  clear hpr hqr hR8 hA8
  generalize l'[i] = p at hP8
  generalize l'[k] = q at hQ8
  have hiN : (i : Int) < (N : Int) := by omega
  have hkN : (k : Int) < (N : Int) := by omega
  have hi9 : (0 : Int) ≤ (i : Int) := by omega
  have hk9 : (0 : Int) ≤ (k : Int) := by omega
  have hpl : pb < w8.heap.size := World.block_lt_of_cell? w8 _ p0
  have cMi := Lib.hid (fun u => (mod_eq xi (N : Int) u (by omega) (by omega) hi0 hi1).mono fun (e : Ending) w' ⟨h1, h2⟩ => (show e = Ending.returned (.int .i64 (i : Int)) ∧ w' = u from ⟨h1.trans (by rw [hi.out]), h2⟩))
  have cMk := Lib.hid (fun u => (mod_eq xk (N : Int) u (by omega) (by omega) hk0 hk1).mono fun (e : Ending) w' ⟨h1, h2⟩ => (show e = Ending.returned (.int .i64 (k : Int)) ∧ w' = u from ⟨h1.trans (by rw [hk.out]), h2⟩))
  have hy0 := Beyond.drew w8
  have hKp : Hid (∀ u, Beyond w8 u → u.cell? ⟨pb, po + i * 5, none⟩ = some (.int .i64 pop) ∧ u.cell? ⟨pb, po + i * 5 + 1, none⟩ = some (.string pkd) ∧ u.cell? ⟨pb, po + i * 5 + 2, none⟩ = some (.string pnm) ∧ u.cell? ⟨pb, po + i * 5 + 3, none⟩ = some (.slice pva pvn pvc) ∧ u.cell? ⟨pb, po + i * 5 + 4, none⟩ = some (.slice pka pkn pkc) ∧
      u.cell? ⟨pb, po + k * 5, none⟩ = some (.int .i64 qop) ∧ u.cell? ⟨pb, po + k * 5 + 1, none⟩ = some (.string qkd) ∧ u.cell? ⟨pb, po + k * 5 + 2, none⟩ = some (.string qnm) ∧ u.cell? ⟨pb, po + k * 5 + 3, none⟩ = some (.slice qva qvn qvc) ∧ u.cell? ⟨pb, po + k * 5 + 4, none⟩ = some (.slice qka qkn qkc)) :=
    Lib.hid fun u hb => ⟨cell_later hb p0, cell_later hb p1, cell_later hb p2, cell_later hb p3, cell_later hb p4, cell_later hb q0, cell_later hb q1, cell_later hb q2, cell_later hb q3, cell_later hb q4⟩
  clear p0 p1 p2 p3 p4 q0 q1 q2 q3 q4
  go_cut [12, 13] (fun t12 t13 wy => ∃ gp gq : Nat, t12 = .pointer (some ⟨gp, 0, none⟩) ∧ t13 = .pointer (some ⟨gq, 0, none⟩) ∧ Hid (Own wy gp #[.int .i64 pop, .string pkd, .string pnm, .slice pva pvn pvc, .slice pka pkn pkc] 29 ∧ Own wy gq #[.int .i64 qop, .string qkd, .string qnm, .slice qva qvn qvc, .slice qka qkn qkc] 29 ∧ Beyond w8 wy))
  case first =>
    go_region_held3 (fun u => u.cell? ⟨pb, po + i * 5, none⟩ = some (.int .i64 pop) ∧ u.cell? ⟨pb, po + i * 5 + 1, none⟩ = some (.string pkd) ∧ u.cell? ⟨pb, po + i * 5 + 2, none⟩ = some (.string pnm) ∧ u.cell? ⟨pb, po + i * 5 + 3, none⟩ = some (.slice pva pvn pvc) ∧ u.cell? ⟨pb, po + i * 5 + 4, none⟩ = some (.slice pka pkn pkc) ∧
      u.cell? ⟨pb, po + k * 5, none⟩ = some (.int .i64 qop) ∧ u.cell? ⟨pb, po + k * 5 + 1, none⟩ = some (.string qkd) ∧ u.cell? ⟨pb, po + k * 5 + 2, none⟩ = some (.string qnm) ∧ u.cell? ⟨pb, po + k * 5 + 3, none⟩ = some (.slice qva qvn qvc) ∧ u.cell? ⟨pb, po + k * 5 + 4, none⟩ = some (.slice qka qkn qkc))
      (exact hKp.out _ (by repeat (first | assumption | exact Beyond.refl _ | apply Beyond.dr | apply Beyond.alloc | (refine Beyond.set ?_ (by simp) _))))
      ((first
        | ((with_reducible refine (cMi.out _).mono ?_); rintro e u1 ⟨rfl, rfl⟩)
        | ((with_reducible refine (cMk.out _).mono ?_); rintro e u1 ⟨rfl, rfl⟩)))
    all_goals
      go_wp2_with fail
      go_meet
      first
        | exact ⟨_, _, rfl, rfl, Lib.hid ⟨(Own.new w8 _ _).alloc _, Own.new' (by simp), (by repeat (first | exact Beyond.refl _ | apply Beyond.dr | apply Beyond.alloc))⟩⟩
        | exact ⟨_, _, rfl, rfl, Lib.hid ⟨Own.new' (by simp), (Own.new w8 _ _).alloc _, (by repeat (first | exact Beyond.refl _ | apply Beyond.dr | apply Beyond.alloc))⟩⟩
  case rest =>
  obtain ⟨gp, gq, rfl, rfl, hW⟩ := hcut
  obtain ⟨hGp, hGq, hy9⟩ := hW.out
  have hB9 := Lib.hid (hB8.out.trans (Below.mono hy9 hB8.out.size))
  have hO9 := hO8.out.below hy9 hO8.out.lt
  have hE9 := hE8.out.below hy9 hE8.out.lt
  have hI9 := Lib.hid (hI8.out.mono (sub_of_below hy9))
  have hS9 := Lib.hid (hS8.out.mono (sub_of_below hy9))
  have hX9 := Lib.hid (hX8.out.mono (sub_of_below hy9))
  have hP9 := Lib.hid (hP8.out.mono (sub_of_below hy9))
  have hQ9 := Lib.hid (hQ8.out.mono (sub_of_below hy9))
  have hT9 := Lib.hid (hT0.out.below hB9.out)
  clear hKp cMi cMk hy0 hy9 hW hB8 hO8 hE8 hI8 hS8 hX8 hP8 hQ8 hi hk hil hkl hiN hkN hi9 hk9 hpl hsm hAlen hlen hrl
  have hEv : ∀ (d' : ED) (r' : List Value) (u : World), EAt wc.cell? d' r' → Beyond wc u → Calls Tryz.prog 23 #[.agg #[.slice va vn vc], .slice (some ⟨gI, 0, none⟩) 1 1, .agg r'.toArray] u fun e u' => e = .returned (.bool (evalS l [⟨#[98, 101, 116, 97]⟩] d')) ∧ Beyond u u' :=
    fun d' r' u hE hb => eval_any l va vn vc [⟨#[98, 101, 116, 97]⟩] (some ⟨gI, 0, none⟩) 1 1 u.cell? (hS9.out.mono (sub_of_below hb)) (hI9.out.mono (sub_of_below hb)) d' r' (hE.mono (sub_of_below hb)) u (Sub.refl _) (hT9.out.below hb)
  obtain ⟨bp, hbp⟩ : ∃ b, Hid (evalS l [⟨#[98, 101, 116, 97]⟩] p = b) := ⟨_, Lib.hid rfl⟩
  obtain ⟨bq, hbq⟩ : ∃ b, Hid (evalS l [⟨#[98, 101, 116, 97]⟩] q = b) := ⟨_, Lib.hid rfl⟩
  have cP := Lib.hid (fun (dq : Nat) (os : Array Obj) => Calls.regrown_of ((hEv p _ (Sort.grow (redrawn wc dq) os) hP9.out (below_regrown wc dq os)).mono fun (e : Ending) u' ⟨h1, h2⟩ => (show e = Ending.returned (.bool bp) ∧ Below (Sort.grow (redrawn wc dq) os).heap.size (Sort.grow (redrawn wc dq) os) u' from ⟨h1.trans (by rw [hbp.out]), h2⟩)))
  have cQ := Lib.hid (fun (dq : Nat) (os : Array Obj) => Calls.regrown_of ((hEv q _ (Sort.grow (redrawn wc dq) os) hQ9.out (below_regrown wc dq os)).mono fun (e : Ending) u' ⟨h1, h2⟩ => (show e = Ending.returned (.bool bq) ∧ Below (Sort.grow (redrawn wc dq) os).heap.size (Sort.grow (redrawn wc dq) os) u' from ⟨h1.trans (by rw [hbq.out]), h2⟩)))
  have cX := Lib.hid (fun (u : World) (hb : Beyond wc u) => hEv d _ u hX9.out hb)
  have cS := Lib.hid (fun (hpq : evalS l [⟨#[98, 101, 116, 97]⟩] p = evalS l [⟨#[98, 101, 116, 97]⟩] q) (u : World) (hb : Beyond wc u) => (swap_any wc.cell? d _ hX9.out hF6.out wc.cell? p q _ _ u.cell? u hP9.out hQ9.out (sub_of_below hb) (sub_of_below hb) (Sub.refl _)).mono (by
      rintro e u' ⟨⟨M', op', kd', nm', va', vn', vc', ka', kn', kc', rfl, hX', hS', hE'⟩, hb'⟩
      refine (show SwapRes (.slice va vn vc) (.slice (some ⟨gI, 0, none⟩) 1 1) (evalS l [⟨#[98, 101, 116, 97]⟩] d) u _ u' from ⟨⟨op', kd', nm', va', vn', vc', ka', kn', kc', rfl, Lib.hid fun u2 hb2 => ?_⟩, hb'⟩)
      rw [← swap_eval l [⟨#[98, 101, 116, 97]⟩] p q hpq d]
      exact eval_any l va vn vc [⟨#[98, 101, 116, 97]⟩] (some ⟨gI, 0, none⟩) 1 1 u2.cell? (hS9.out.mono (sub_of_below (Beyond.next hb2 (Beyond.next hb' hb)))) (hI9.out.mono (sub_of_below (Beyond.next hb2 (Beyond.next hb' hb)))) _ _ (hE'.mono (hS'.trans (sub_of_below hb2))) u2 (Sub.refl _) (hT9.out.below (Beyond.next hb2 (Beyond.next hb' hb)))))
  have s0 := hO9.cell 0
  simp only [List.getElem?_toArray, List.getElem?_cons_zero] at s0
  obtain ⟨x0, x1, x2, x3, x4⟩ := own5z hE9
  obtain ⟨p0, p1, p2, p3, p4⟩ := own5z hGp
  obtain ⟨q0, q1, q2, q3, q4⟩ := own5z hGq
  have hKp : Hid (∀ u, Beyond wc u → u.cell? ⟨gS, 0, none⟩ = some (.slice va vn vc) ∧ u.cell? ⟨gE, 0, none⟩ = some (.int .i64 op) ∧ u.cell? ⟨gE, 1, none⟩ = some (.string kd) ∧ u.cell? ⟨gE, 2, none⟩ = some (.string nm) ∧ u.cell? ⟨gE, 3, none⟩ = some (.slice xa xn xc) ∧ u.cell? ⟨gE, 4, none⟩ = some (.slice ka kn kc) ∧ u.cell? ⟨gp, 0, none⟩ = some (.int .i64 pop) ∧ u.cell? ⟨gp, 1, none⟩ = some (.string pkd) ∧ u.cell? ⟨gp, 2, none⟩ = some (.string pnm) ∧ u.cell? ⟨gp, 3, none⟩ = some (.slice pva pvn pvc) ∧ u.cell? ⟨gp, 4, none⟩ = some (.slice pka pkn pkc) ∧ u.cell? ⟨gq, 0, none⟩ = some (.int .i64 qop) ∧ u.cell? ⟨gq, 1, none⟩ = some (.string qkd) ∧ u.cell? ⟨gq, 2, none⟩ = some (.string qnm) ∧ u.cell? ⟨gq, 3, none⟩ = some (.slice qva qvn qvc) ∧ u.cell? ⟨gq, 4, none⟩ = some (.slice qka qkn qkc)) :=
    Lib.hid fun u hb => ⟨cell_later hb s0, cell_later hb x0, cell_later hb x1, cell_later hb x2, cell_later hb x3, cell_later hb x4, cell_later hb p0, cell_later hb p1, cell_later hb p2, cell_later hb p3, cell_later hb p4, cell_later hb q0, cell_later hb q1, cell_later hb q2, cell_later hb q3, cell_later hb q4⟩
  have k0 := cell_regrown s0
  have kp0 := cell_regrown p0
  have kp1 := cell_regrown p1
  have kp2 := cell_regrown p2
  have kp3 := cell_regrown p3
  have kp4 := cell_regrown p4
  have kq0 := cell_regrown q0
  have kq1 := cell_regrown q1
  have kq2 := cell_regrown q2
  have kq3 := cell_regrown q3
  have kq4 := cell_regrown q4
  clear hEv s0 x0 x1 x2 x3 x4 p0 p1 p2 p3 p4 q0 q1 q2 q3 q4 hO9 hE9 hGp hGq
  go_wp2_with fail
  refine wp_region_quiet_below (by kernel_rfl) (by kernel_rfl) ?_
  repeat (go_big_quiet_step (first | (with_reducible exact cP.out _ _) | (with_reducible exact cQ.out _ _)))
  refine wpQuiet_nil ?_
  intro _ hw'
  obtain ⟨⟨dq, osq⟩, hw''⟩ := hw'
  subst hw''
  have hyx : Hid (Beyond wc (Sort.grow (redrawn wc dq) osq)) := Lib.hid (below_regrown wc dq osq)
  clear cP cQ k0 kp0 kp1 kp2 kp3 kp4 kq0 kq1 kq2 kq3 kq4
  generalize Sort.grow (redrawn wc dq) osq = wd at hyx ⊢
  have hB10 := Lib.hid (hB9.out.trans (Below.mono hyx.out hB9.out.size))
  cases bp <;> cases bq
  case false.true =>
    go_wp2
    go_ret
    exact ⟨rfl, hB10.out⟩
  case true.false =>
    go_wp2
    go_ret
    exact ⟨rfl, hB10.out⟩
  all_goals
    have cS2 := Lib.hid (cS.out (by rw [hbp.out, hbq.out]))
    clear cS
    have hy0 : Beyond wc wd.drew := Beyond.dr hyx.out
    go_wp2_with fail
    generalize evalS l [⟨#[98, 101, 116, 97]⟩] d = bx at cX cS2
    cases bx
    all_goals
      go_region_held3 (fun u => u.cell? ⟨gS, 0, none⟩ = some (.slice va vn vc) ∧ u.cell? ⟨gE, 0, none⟩ = some (.int .i64 op) ∧ u.cell? ⟨gE, 1, none⟩ = some (.string kd) ∧ u.cell? ⟨gE, 2, none⟩ = some (.string nm) ∧ u.cell? ⟨gE, 3, none⟩ = some (.slice xa xn xc) ∧ u.cell? ⟨gE, 4, none⟩ = some (.slice ka kn kc) ∧ u.cell? ⟨gp, 0, none⟩ = some (.int .i64 pop) ∧ u.cell? ⟨gp, 1, none⟩ = some (.string pkd) ∧ u.cell? ⟨gp, 2, none⟩ = some (.string pnm) ∧ u.cell? ⟨gp, 3, none⟩ = some (.slice pva pvn pvc) ∧ u.cell? ⟨gp, 4, none⟩ = some (.slice pka pkn pkc) ∧ u.cell? ⟨gq, 0, none⟩ = some (.int .i64 qop) ∧ u.cell? ⟨gq, 1, none⟩ = some (.string qkd) ∧ u.cell? ⟨gq, 2, none⟩ = some (.string qnm) ∧ u.cell? ⟨gq, 3, none⟩ = some (.slice qva qvn qvc) ∧ u.cell? ⟨gq, 4, none⟩ = some (.slice qka qkn qkc))
        (exact hKp.out _ (by assumption))
        ((first
          | (go_at_call 28; (with_reducible refine (cS2.out _ (by assumption)).mono ?_); rintro e u1 ⟨⟨op6, kd6, nm6, va6, vn6, vc6, ka6, kn6, kc6, rfl, hev⟩, hy⟩; have hz := Beyond.next hy (by assumption))
          | (go_at_call 23; (first | (with_reducible refine (cX.out _ (by assumption)).mono ?_) | (with_reducible refine (hev.out _ (by first | exact Beyond.refl _ | assumption)).mono ?_)); rintro e u2 ⟨rfl, hy⟩; have hz := Beyond.next hy (by assumption))))
      all_goals
        go_wp2
        go_ret
        exact ⟨rfl, hB9.out.trans (Below.mono (by assumption) hB9.out.size)⟩

end Go.Proofs.YtlohdmghaeabjaaGreatDoor.clause

