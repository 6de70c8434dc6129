/- ClauseNegates: the walk. -/
import Derived.Test.YtlohdmghaeabjaaGreatDoorKClN
import Derived.Test.YtlohdmghaeabjaaGreatDoorKClB
import Derived.Test.YtlohdmghaeabjaaGreatDoorKClG
import Derived.Test.YtlohdmghaeabjaaGreatDoorKDraw7
import Derived.Deep.RegionHeld3
namespace Go.Proofs.YtlohdmghaeabjaaGreatDoor.clause
open Go.RowKit Go.Proofs.YtlohdmghaeabjaaGreatDoor Go.Proofs.YtlohdmghaeabjaaGreatDoor.schema Go.Proofs.YtlohdmghaeabjaaGreatDoor.value Go.Proofs.YtlohdmghaeabjaaGreatDoor.text Go.Proofs.YtlohdmghaeabjaaGreatDoor.draw

attribute [local go_sem ↓] Go.wp_at_zero Go.wp_at_succ

/-- A world behind another one. -/
def Beyond (w u : World) : Prop := Below w.heap.size w u
theorem Beyond.refl (w : World) : Beyond w w := Below.refl _ _
theorem Beyond.drew (w : World) : Beyond w w.drew := (Below.refl w.heap.size w).grown (grown_drew w none) (Nat.le_refl _) (fun k e => by cases e)
theorem Beyond.next {w u v : World} (k : Beyond u v) (h : Beyond w u) : Beyond w v := h.trans (k.mono h.size)
/-- A negated condition, and what Eval says of it from then on. -/
def NegRes (sv inv : Value) (bx : Bool) (u : World) (e : Ending) (u' : World) : Prop :=
  (∃ (op : Int) (kind name : ByteArray) (va : Option Addr) (vn vc : Nat) (ka : Option Addr) (kn kc : Nat), e = .returned (.agg #[.int .i64 op, .string kind, .string name, .slice va vn vc, .slice ka kn kc]) ∧
    Hid (∀ u2, Beyond u' u2 → Calls Tryz.prog 23 #[.agg #[sv], inv, .agg #[.int .i64 op, .string kind, .string name, .slice va vn vc, .slice ka kn kc]] u2 fun e u3 => e = .returned (.bool bx) ∧ Beyond u2 u3)) ∧ Beyond u u'
mutual
theorem small_mono {N M : Nat} (h : N ≤ M) : ∀ d : ED, smallE N d → smallE M d
  | .mk _ _ _ _ ks, hs => ⟨Nat.le_trans hs.1 h, Nat.le_trans hs.2.1 h, hs.2.2.1, small_monoL h ks hs.2.2.2⟩
theorem small_monoL {N M : Nat} (h : N ≤ M) : ∀ l : List ED, smallL N l → smallL M l
  | [], _ => trivial
  | x :: r, hs => ⟨small_mono h x hs.1, small_monoL h r hs.2⟩
end
def segsAB : List ByteArray := [⟨#[97, 108, 112, 104, 97]⟩, ⟨#[98, 101, 116, 97]⟩]

set_option maxRecDepth 100000 in
set_option maxHeartbeats 16000000 in
theorem negates_walk (a : Option Addr) (n c : Nat) (ia : Option Addr) (i ic : Nat) (inn : List ByteArray) (w : World) (h : BytesAt w.cell? a n c) (hin : RowsAt w.cell? 1 (.slice ia i ic) (inn.map strRow)) (hg : ∀ b, w.heap.size ≤ b → Glob (but b w)) (hT : Tabs w) :
    Calls Tryz.prog 8 #[.slice a n c, .slice ia i ic] w fun e w' => e = .returned (.bool true) ∧ Below w.heap.size w w' := by
  have hA := Lib.hid h
  have hg0 := Lib.hid hg
  have hT0 := Lib.hid hT
  have hn := (len_of hin).1
  simp only [List.length_map] at hn
  subst hn
  have hi0 := Lib.hid hin
  clear h hg hT hin
  go_enter Tryz.func8, Tryz.ntmps8
  go_wp2_with fail
  refine (awake_any _ hT0.out).mono ?_
  rintro e w1 ⟨rfl, hb1⟩
  have hB1 := Lib.hid hb1
  clear hb1
  by_cases hbig : (20 : Int) < (inn.length : Int)
  case pos =>
    go_wp2
    go_ret
    exact ⟨rfl, hB1.out⟩
  go_wp2_with fail
  refine (new_any a n c 150 _ (by omega) (by omega) (hA.out.mono (sub_of_below hB1.out))).mono ?_
  rintro e w2 ⟨rfl, ⟨a', n', c', hC⟩, hb2⟩
  have hsz : w.heap.size ≤ w1.heap.size := hB1.out.size
  have hlt := hC.lt
  have hB2 := Lib.hid (hB1.out.trans (hb2.mono hsz))
  have hC2 := Lib.hid hC
  have hg2 := Lib.hid ((hg0.out w1.heap.size hsz).mono (sub_of_grown (grown_of_below ((hB1.out.trans (hb2.mono hsz)).mono (Nat.le_refl _)) _)))
  clear hC hb2
  go_wp2_with fail
  refine (subject_any w1.heap.size a' n' c' _ hC2.out hg2.out).mono ?_
  rintro e w3 ⟨⟨va, vn, vc, l, rfl, -, hS3⟩, hH3, hG3⟩
  have hC3 := hC2.out.still hG3 hH3
  have hg3 := hg2.out.mono (sub_of_grown hG3)
  have hB3 := hB2.out.trans (below_of_grown hG3 hB2.out.size hsz)
  have hlt3 := hC3.lt
  have hG4 : w3.grownBy ((w3.alloc (.cells #[.slice va vn vc] 25)).alloc (.cells #[.string ⟨#[97, 108, 112, 104, 97]⟩, .string ⟨#[98, 101, 116, 97]⟩] 9)) (some w1.heap.size) := g_alloc (g_alloc (grown_refl _ _) _) _
  have hC4 := Lib.hid (hC3.still hG4 ((hC3.1.alloc _).alloc _))
  have hg4 := Lib.hid (hg3.mono (sub_of_grown hG4))
  have hB4 := Lib.hid (hB3.trans (below_of_grown hG4 hB3.size hsz))
  have hO4 := Lib.hid ((Own.new w3 #[.slice va vn vc] 25).alloc (.cells #[.string ⟨#[97, 108, 112, 104, 97]⟩, .string ⟨#[98, 101, 116, 97]⟩] 9))
  have hS4 := Lib.hid (hS3.mono (newM_grown hG4))
  have hAB := Lib.hid (rows_of_own_but (b := w1.heap.size) (Own.new' (w := w3.alloc (.cells #[.slice va vn vc] 25)) (n := w3.heap.size + 1) (A := #[.string ⟨#[97, 108, 112, 104, 97]⟩, .string ⟨#[98, 101, 116, 97]⟩]) (t := 9) (by simp)) (by omega) 1 (segsAB.map strRow) (by simp [strRow]) rfl 2 (by simp [segsAB]) (by decide))
  clear hC3 hg3 hB3 hG4 hG3 hH3 hS3
  go_wp2_with fail
  generalize (w3.alloc (.cells _ 25)).alloc (.cells #[.string ⟨#[97, 108, 112, 104, 97]⟩, .string ⟨#[98, 101, 116, 97]⟩] 9) = w4 at hC4 hg4 hB4 hO4 hS4 hAB ⊢
  obtain ⟨gS, hgS⟩ : ∃ g : Nat, g = w3.heap.size := ⟨_, rfl⟩
  rw [← hgS] at hO4 hAB hlt3 ⊢
  clear hgS
  refine (dexpr_any w1.heap.size a' n' c' _ segsAB (by decide) 4 4 w4 (by omega) (by omega) (by omega) hC4.out hg4.out hAB.out).mono ?_
  rintro e w5 ⟨⟨d, op, kd, nm, xa, xn, xc, ka, kn, kc, rfl, hE, hF⟩, hH5, hG5⟩
  have hB5 := hB4.out.trans (below_of_grown hG5 hB4.out.size hsz)
  have hO5 := hO4.out.kept hG5 (by simp; omega)
  have hS5 := hS4.out.mono (newM_grown hG5)
  have hm5 : Sub (newM w2.heap.size w1.heap.size w5) (w5.alloc (.cells #[.int .i64 op, .string kd, .string nm, .slice xa xn xc, .slice ka kn kc] 29)).cell? := sub_alloc ((newM_but _ _ _).trans (but_sub _ _)) _
  have hm5' : Sub (newM w4.heap.size w1.heap.size w5) (w5.alloc (.cells #[.int .i64 op, .string kd, .string nm, .slice xa xn xc, .slice ka kn kc] 29)).cell? := sub_alloc ((newM_but _ _ _).trans (but_sub _ _)) _
  have hO6 := hO5.alloc (.cells #[.int .i64 op, .string kd, .string nm, .slice xa xn xc, .slice ka kn kc] 29)
  have hE6 := Own.new w5 #[.int .i64 op, .string kd, .string nm, .slice xa xn xc, .slice ka kn kc] 29
  have hS6 := Lib.hid (hS5.mono hm5)
  have hX6 := Lib.hid (hE.mono hm5')
  have hB6 := Lib.hid (hB5.alloc hB5.size (.cells #[.int .i64 op, .string kd, .string nm, .slice xa xn xc, .slice ka kn kc] 29))
  have hF6 := Lib.hid (small_mono (show 4 ≤ 200 by omega) d hF.2.1)
  have hneg := Lib.hid (fun (b : Bool) => neg_eval l inn b d hF.2.1)
  clear hB5 hO5 hS5 hm5 hm5' hE hF hH5 hG5 hC4 hg4 hB4 hO4 hS4 hAB hC2 hg2 hB2 hB1 hg0 hA hlt hlt3
  have s0 := hO6.cell 0
  simp only [List.getElem?_toArray, List.getElem?_cons_zero] at s0
  obtain ⟨x0, x1, x2, x3, x4⟩ := own5z hE6
  have hsl := hO6.lt
  have hel := hE6.lt
  clear hO6 hE6
  go_wp2_with fail
  generalize w5.alloc (.cells #[.int .i64 op, .string kd, .string nm, .slice xa xn xc, .slice ka kn kc] 29) = w6 at hS6 hX6 hB6 s0 x0 x1 x2 x3 x4 hsl hel ⊢
  obtain ⟨gE, hgE⟩ : ∃ g : Nat, g = w5.heap.size := ⟨_, rfl⟩
  rw [← hgE] at x0 x1 x2 x3 x4 hel ⊢
  clear hgE
  have hin6 := Lib.hid (hi0.out.mono (sub_of_below hB6.out))
  have hT6 := Lib.hid (hT0.out.below hB6.out)
  have hEv : ∀ (d' : ED) (r' : List Value) (M' : Mem) (u : World), EAt M' d' r' → Sub M' u.cell? → Beyond w6 u → Calls Tryz.prog 23 #[.agg #[.slice va vn vc], .slice ia inn.length ic, .agg r'.toArray] u fun e u' => e = .returned (.bool (evalS l inn d')) ∧ Beyond u u' :=
    fun d' r' M' u hE hs hb => eval_any l va vn vc inn ia inn.length ic u.cell? (hS6.out.mono (sub_of_below hb)) (hin6.out.mono (sub_of_below hb)) d' r' (hE.mono hs) u (Sub.refl _) (hT6.out.below hb)
  have hNg : ∀ (b : Bool) (u : World), Beyond w6 u → Calls Tryz.prog 29 #[.agg #[.int .i64 op, .string kd, .string nm, .slice xa xn xc, .slice ka kn kc], .bool b] u (NegRes (.slice va vn vc) (.slice ia inn.length ic) (b ^^ evalS l inn d) u) :=
    fun b u hb => (neg_any w6.cell? d _ hX6.out hF6.out b u.cell? u (sub_of_below hb) (Sub.refl _)).mono (by
      rintro e u' ⟨⟨M', op', kd', nm', va', vn', vc', ka', kn', kc', rfl, hX', hS', hE'⟩, hb'⟩
      refine ⟨⟨op', kd', nm', va', vn', vc', ka', kn', kc', rfl, Lib.hid fun u2 hb2 => ?_⟩, hb'⟩
      rw [← hneg.out b]
      exact hEv _ _ M' u2 hE' (hS'.trans (sub_of_below hb2)) (Beyond.next hb2 (Beyond.next hb' hb)))
  have cX := Lib.hid (fun (u : World) (hb : Beyond w6 u) => hEv d _ w6.cell? u hX6.out (sub_of_below hb) hb)
  have cT := Lib.hid (fun (u : World) (hb : Beyond w6 u) => hNg true u hb)
  have cF := Lib.hid (fun (u : World) (hb : Beyond w6 u) => hNg false u hb)
  have hKp : Hid (∀ u, Beyond w6 u → u.cell? ⟨gS, 0, none⟩ = some (.slice va vn vc) ∧ u.cell? ⟨gE, 0, none⟩ = some (.int .i64 op) ∧ u.cell? ⟨gE, 1, none⟩ = some (.string kd) ∧ u.cell? ⟨gE, 2, none⟩ = some (.string nm) ∧ u.cell? ⟨gE, 3, none⟩ = some (.slice xa xn xc) ∧ u.cell? ⟨gE, 4, none⟩ = some (.slice ka kn kc)) :=
    Lib.hid fun u hb => ⟨cell_later hb s0, cell_later hb x0, cell_later hb x1, cell_later hb x2, cell_later hb x3, cell_later hb x4⟩
  clear hEv hNg hneg hin6 hT6 hS6 hX6 hF6
  have hy0 := Beyond.drew w6
  generalize evalS l inn d = bx at cX cT cF
  cases bx
  all_goals
    simp only [Bool.xor_false, Bool.xor_true, Bool.not_true, Bool.not_false] at cT cF
    go_region_held3 (fun u => u.cell? ⟨gS, 0, none⟩ = some (.slice va vn vc) ∧ u.cell? ⟨gE, 0, none⟩ = some (.int .i64 op) ∧ u.cell? ⟨gE, 1, none⟩ = some (.string kd) ∧ u.cell? ⟨gE, 2, none⟩ = some (.string nm) ∧ u.cell? ⟨gE, 3, none⟩ = some (.slice xa xn xc) ∧ u.cell? ⟨gE, 4, none⟩ = some (.slice ka kn kc))
      (exact hKp.out _ (by assumption))
      ((first
        | (go_at_call 29; (first | (with_reducible refine (cT.out _ (by assumption)).mono ?_) | (with_reducible refine (cF.out _ (by assumption)).mono ?_)); rintro e u1 ⟨⟨op6, kd6, nm6, va6, vn6, vc6, ka6, kn6, kc6, rfl, hev⟩, hy⟩; have hz := Beyond.next hy (by assumption))
        | (go_at_call 23; (first | (with_reducible refine (cX.out _ (by assumption)).mono ?_) | (with_reducible refine (hev.out _ (by first | exact Beyond.refl _ | assumption)).mono ?_)); rintro e u2 ⟨rfl, hy⟩; have hz := Beyond.next hy (by assumption))))
    all_goals
      go_wp2
      go_ret
      exact ⟨rfl, hB6.out.trans (Below.mono (by assumption) hB6.out.size)⟩

end Go.Proofs.YtlohdmghaeabjaaGreatDoor.clause

