/- ClauseCompares: the walk. -/
import Derived.Test.YtlohdmghaeabjaaGreatDoorClW
import Derived.Test.YtlohdmghaeabjaaGreatDoorClG
import Derived.Lib.QuietBelow
import Derived.BigQuiet
namespace Go.Proofs.YtlohdmghaeabjaaGreatDoor.clause
open Go.RowKit Go.Sort Go.Proofs.YtlohdmghaeabjaaGreatDoor Go.Proofs.YtlohdmghaeabjaaGreatDoor.schema Go.Proofs.YtlohdmghaeabjaaGreatDoor.value Go.Proofs.YtlohdmghaeabjaaGreatDoor.text Go.Proofs.YtlohdmghaeabjaaGreatDoor.draw

/-- The blocks of the law. -/
structure KW (w u : World) (B gA gC gS gV : Nat) (K x : Int) (s : ByteArray) (y : Int) (t : ByteArray) : Prop where
  low : Below B w u
  oA : Own u gA #[.string ⟨#[120]⟩, .int .i64 K, .int .i64 x, .string s, .slice none 0 0] 50
  oC : Own u gC #[.string ⟨#[117, 115, 101, 114]⟩, .string ⟨#[117]⟩, .slice (some ⟨gA, 0, none⟩) 1 1] 53
  oS : Own u gS #[.slice (some ⟨gC, 0, none⟩) 1 1] 25
  oV : Own u gV #[.int .i64 K, .int .i64 y, .string t, .slice none 0 0] 43
  tabs : Tabs u
theorem KW.below {w u u' : World} {B gA gC gS gV : Nat} {K x : Int} {s : ByteArray} {y : Int} {t : ByteArray} (h : KW w u B gA gC gS gV K x s y t) (hB : B ≤ u.heap.size) (hb : Below u.heap.size u u') : KW w u' B gA gC gS gV K x s y t :=
  ⟨h.low.trans (hb.mono hB), h.oA.below hb h.oA.lt, h.oC.below hb h.oC.lt, h.oS.below hb h.oS.lt, h.oV.below hb h.oV.lt, h.tabs.below hb⟩
theorem KW.sub {w u : World} {B gA gC gS gV : Nat} {K x : Int} {s : ByteArray} {y : Int} {t : ByteArray} (h : KW w u B gA gC gS gV K x s y t) (hs : s.size ≤ 200) : SAt u.cell? (.slice (some ⟨gC, 0, none⟩) 1 1) [xCt gA K x s] := by
  refine ⟨rows_of_own h.oC 3 [CT.row (xCt gA K x s)] (by simp [CT.row]) rfl 1 (by simp) (by decide), fun c hc => ?_⟩
  obtain rfl := List.mem_singleton.1 hc
  refine ⟨rows_of_own h.oA 5 [AD.row ⟨⟨#[120]⟩, dV K x s⟩] (by simp [AD.row, VD.row]) rfl 1 (by simp) (by decide), fun a ha => ?_, (show (⟨#[117]⟩ : ByteArray).size < 4294967281 by decide)⟩
  obtain rfl := List.mem_singleton.1 ha
  exact LAt.flat _ _ _ _ (by omega)

set_option maxRecDepth 100000 in
set_option maxHeartbeats 1000000 in
theorem ask_any (op : Int) (name : ByteArray) (w0 w : World) (B gA gC gS gV : Nat) (K x : Int) (s : ByteArray) (y : Int) (t : ByteArray) (hK : KW w0 w B gA gC gS gV K x s y t) (hs : s.size ≤ 200) (ht : t.size ≤ 200) :
    Calls Tryz.prog 30 #[.int .i64 op, .string name, .agg #[.int .i64 K, .int .i64 y, .string t, .slice none 0 0], .pointer (some ⟨gS, 0, none⟩)] w fun e w' => e = .returned (.bool (testS [xCt gA K x s] op userB name [dV K y t])) ∧ Below w.heap.size w w' := by
  have hB : Below w.heap.size w ((w.alloc (.cells #[.int .i64 K, .int .i64 y, .string t, .slice none 0 0] 43)).alloc (.cells #[.int .i64 K, .int .i64 y, .string t, .slice none 0 0] 43)) := ((Below.refl _ _).alloc (Nat.le_refl _) _).alloc (by simp) _
  have hO := Own.new (w.alloc (.cells #[.int .i64 K, .int .i64 y, .string t, .slice none 0 0] 43)) #[.int .i64 K, .int .i64 y, .string t, .slice none 0 0] 43
  rw [World.size_alloc] at hO
  have hv := Lib.hid (rows_of_own hO 4 [VD.row (dV K y t)] (by simp [VD.row]) rfl 1 (by simp) (by decide))
  have hS := Lib.hid ((hK.sub hs).mono (sub_of_below hB))
  have hT := Lib.hid (hK.tabs.below hB)
  have hL := Lib.hid (fun (m : Mem) (v : VD) (hv : v ∈ [dV K y t]) => (show LAt m v by obtain rfl := List.mem_singleton.1 hv; exact LAt.flat _ _ _ _ (by omega)))
  have c0 := hK.oS.cell 0
  simp only [List.getElem?_toArray, List.getElem?_cons_zero] at c0
  have hlt := hK.oS.lt
  replace hB := Lib.hid hB
  clear hK hO hs ht
  go_enter Tryz.func30, Tryz.ntmps30
  go_wp2_with fail
  refine (clTest_any [xCt gA K x s] (some ⟨gC, 0, none⟩) 1 1 op ⟨#[117, 115, 101, 114]⟩ name (some ⟨w.heap.size + 1, 0, none⟩) 1 1 none 0 0 [dV K y t] _ hS.out hv.out (hL.out _) hT.out).mono ?_
  rintro e w2 ⟨rfl, hb⟩
  have hB2 := Lib.hid (hB.out.trans (hb.mono hB.out.size))
  have hQ := Lib.hid (show testS [xCt gA K x s] op ⟨#[117, 115, 101, 114]⟩ name [dV K y t] = testS [xCt gA K x s] op userB name [dV K y t] from rfl)
  generalize testS [xCt gA K x s] op ⟨#[117, 115, 101, 114]⟩ name [dV K y t] = bb at hQ ⊢
  clear hb
  go_wp2
  go_ret
  exact ⟨ret_to hQ.out.symm, hB2.out⟩

/-- How often so far. -/
def cnt3 (a b c : Bool) : Nat → Int
  | 0 => 0
  | 1 => if a then 1 else 0
  | 2 => (if a then 1 else 0) + (if b then 1 else 0)
  | _ => (if a then 1 else 0) + (if b then 1 else 0) + (if c then 1 else 0)
theorem cnt_next (a b c : Bool) (k : Nat) (hk : k < 3) : 0 ≤ cnt3 a b c k ∧ cnt3 a b c k ≤ 3 := by
  rcases (show k = 0 ∨ k = 1 ∨ k = 2 by omega) with rfl | rfl | rfl <;> cases a <;> cases b <;> cases c <;> decide
def opAt (k : Nat) : Int := if k = 0 then 12 else if k = 1 then 7 else 14
def bitAt (a b c : Bool) (k : Nat) : Bool := if k = 0 then a else if k = 1 then b else c
theorem cnt_hit {a b c : Bool} {k : Nat} (hk : k < 3) (h : bitAt a b c k = true) : cnt3 a b c (k + 1) = cnt3 a b c k + 1 := by
  rcases (show k = 0 ∨ k = 1 ∨ k = 2 by omega) with rfl | rfl | rfl <;> revert h <;> cases a <;> cases b <;> cases c <;> decide
theorem cnt_miss {a b c : Bool} {k : Nat} (hk : k < 3) (h : bitAt a b c k = false) : cnt3 a b c (k + 1) = cnt3 a b c k := by
  rcases (show k = 0 ∨ k = 1 ∨ k = 2 by omega) with rfl | rfl | rfl <;> revert h <;> cases a <;> cases b <;> cases c <;> decide
def opsArr : Array Value := #[.int .i64 12, .int .i64 7, .int .i64 14]
theorem ops_at {k : Nat} (hk : k < 3) : opsArr[k]? = some (.int .i64 (opAt k)) := by
  rcases (show k = 0 ∨ k = 1 ∨ k = 2 by omega) with rfl | rfl | rfl <;> rfl
/-- The five answers. -/
theorem ask_bits {b : Nat} {K x : Int} {s : ByteArray} {v : VD} {r : Int} (h : AskF b K x s v r) :
    ∃ l e m : Bool, (∀ k, k < 3 → testS [xCt b K x s] (opAt k) userB ⟨#[120]⟩ [v] = bitAt l e m k) ∧ cnt3 l e m 3 = 1 ∧ testS [xCt b K x s] 12 userB ⟨#[120]⟩ [v] = l ∧ testS [xCt b K x s] 14 userB ⟨#[120]⟩ [v] = m ∧ testS [xCt b K x s] 13 userB ⟨#[120]⟩ [v] = !m ∧ testS [xCt b K x s] 15 userB ⟨#[120]⟩ [v] = !l := by
  refine ⟨decide (r < 0), decide (r = 0), decide (0 < r), fun k hk => ?_, ?_, h.less, h.more, ?_, ?_⟩
  · rcases (show k = 0 ∨ k = 1 ∨ k = 2 by omega) with rfl | rfl | rfl
    · exact h.less
    · exact h.same
    · exact h.more
  · rcases (show r < 0 ∨ r = 0 ∨ 0 < r by omega) with h | h | h
    · have h1 : ¬ r = 0 := by omega
      have h2 : ¬ 0 < r := by omega
      simp [cnt3, h, h1, h2]
    · subst h; decide
    · have h1 : ¬ r = 0 := by omega
      have h2 : ¬ r < 0 := by omega
      simp [cnt3, h, h1, h2]
  · rw [h.most, Bool.eq_iff_iff]; simp
  · rw [h.least, Bool.eq_iff_iff]; simp

set_option maxRecDepth 100000 in
set_option maxHeartbeats 16000000 in
theorem compares_walk (kind : Int) (a : Option Addr) (n c : Nat) (w : World) (hk0 : -9223372036854775808 ≤ kind) (hk1 : kind ≤ 9223372036854775807) (h : BytesAt w.cell? a n c) (hg : ∀ b, w.heap.size ≤ b → CmpTabs (but b w)) (hT : Tabs w) :
    Calls Tryz.prog 9 #[.int .i64 kind, .slice a n c] w fun e w' => e = .returned (.bool true) ∧ Below w.heap.size w w' := by
  have hA := Lib.hid h
  have hg0 := Lib.hid hg
  have hT0 := Lib.hid hT
  clear h hg hT
  go_enter Tryz.func9, Tryz.ntmps9
  go_wp2_with fail
  refine (awake_any _ hT0.out).mono ?_
  rintro e w1 ⟨rfl, hb1⟩
  have hB1 := Lib.hid hb1
  clear hb1
  go_wp2_with fail
  refine (mod_eq kind 3 _ (by omega) (by omega) hk0 hk1).mono ?_
  rintro e wm ⟨rfl, hwm⟩
  replace hwm := hwm.symm
  subst hwm
  obtain ⟨K, hKe⟩ : ∃ K : Int, Hid (K = 2 + kind % 3) := ⟨_, Lib.hid rfl⟩
  have hK : K = 2 ∨ K = 3 ∨ K = 4 := by have := hKe.out; omega
  have e1 : 2 + kind % 3 = K := hKe.out.symm
  have n0 : 0 ≤ kind % 3 := by omega
  have n1 : kind % 3 < 3 := by omega
  go_wp2_with fail
  refine (new_any a n c 10 _ (by omega) (by omega) (hA.out.mono (sub_of_below hB1.out))).mono ?_
  rintro e w2 ⟨rfl, ⟨a', n', c', hC⟩, hb2⟩
  have hsz : w.heap.size ≤ w1.heap.size := hB1.out.size
  have hlt := hC.lt
  have hB2 := Lib.hid (hB1.out.trans (hb2.mono hsz))
  have hC2 := Lib.hid hC
  have hg2 := Lib.hid ((hg0.out w1.heap.size hsz).mono (sub_of_grown (grown_of_below ((hB1.out.trans (hb2.mono hsz)).mono (Nat.le_refl _)) _)))
  clear hC hb2
  go_wp2_with fail
  refine (ovalue_any K hK w1.heap.size a' n' c' _ hC2.out hg2.out).mono ?_
  rintro e w3 ⟨⟨x, s, rfl, hOx⟩, hH3, hG3⟩
  have hC3 := hC2.out.still hG3 hH3
  have hg3 := hg2.out.mono (sub_of_grown hG3)
  have hB3 := hB2.out.trans (below_of_grown hG3 hB2.out.size hsz)
  have hlt3 := hC3.lt
  have hG4 : w3.grownBy (((w3.alloc (.cells #[.string ⟨#[120]⟩, .int .i64 K, .int .i64 x, .string s, .slice none 0 0] 50)).alloc (.cells #[.string ⟨#[117, 115, 101, 114]⟩, .string ⟨#[117]⟩, .slice (some ⟨w3.heap.size, 0, none⟩) 1 1] 53)).alloc (.cells #[.slice (some ⟨w3.heap.size + 1, 0, none⟩) 1 1] 25)) (some w1.heap.size) := g_alloc (g_alloc (g_alloc (grown_refl _ _) _) _) _
  have hC4 := Lib.hid (hC3.still hG4 (((hC3.1.alloc _).alloc _).alloc _))
  have hg4 := Lib.hid (hg3.mono (sub_of_grown hG4))
  have hB4 := Lib.hid (hB3.trans (below_of_grown hG4 hB3.size hsz))
  have hA4 := Lib.hid (((Own.new w3 #[.string ⟨#[120]⟩, .int .i64 K, .int .i64 x, .string s, .slice none 0 0] 50).alloc (.cells #[.string ⟨#[117, 115, 101, 114]⟩, .string ⟨#[117]⟩, .slice (some ⟨w3.heap.size, 0, none⟩) 1 1] 53)).alloc (.cells #[.slice (some ⟨w3.heap.size + 1, 0, none⟩) 1 1] 25))
  have hK4 := Lib.hid ((Own.new' (w := w3.alloc (.cells #[.string ⟨#[120]⟩, .int .i64 K, .int .i64 x, .string s, .slice none 0 0] 50)) (n := w3.heap.size + 1) (A := #[.string ⟨#[117, 115, 101, 114]⟩, .string ⟨#[117]⟩, .slice (some ⟨w3.heap.size, 0, none⟩) 1 1]) (t := 53) (by simp)).alloc (.cells #[.slice (some ⟨w3.heap.size + 1, 0, none⟩) 1 1] 25))
  have hS4 := Lib.hid (Own.new' (w := (w3.alloc (.cells #[.string ⟨#[120]⟩, .int .i64 K, .int .i64 x, .string s, .slice none 0 0] 50)).alloc (.cells #[.string ⟨#[117, 115, 101, 114]⟩, .string ⟨#[117]⟩, .slice (some ⟨w3.heap.size, 0, none⟩) 1 1] 53)) (n := w3.heap.size + 2) (A := #[.slice (some ⟨w3.heap.size + 1, 0, none⟩) 1 1]) (t := 25) (by simp))
  replace hOx := Lib.hid hOx
  clear hC3 hg3 hB3 hG4 hG3 hH3
  go_wp2_with fail
  generalize ((w3.alloc (.cells _ 50)).alloc (.cells _ 53)).alloc (.cells #[.slice (some ⟨w3.heap.size + 1, 0, none⟩) 1 1] 25) = w4 at hC4 hg4 hB4 hA4 hK4 hS4 ⊢
  obtain ⟨gA, hgA⟩ : ∃ g : Nat, g = w3.heap.size := ⟨_, rfl⟩
  rw [← hgA] at hA4 hK4 hS4 hlt3 ⊢
  clear hgA
  refine (ovalue_any K hK w1.heap.size a' n' c' _ hC4.out hg4.out).mono ?_
  rintro e w5 ⟨⟨y, t, rfl, hOy⟩, hH5, hG5⟩
  obtain ⟨r, hF⟩ := ask_law gA hOx.out hOy
  obtain ⟨bl, be, bm, hbits, hc3, q12, q14, q13, q15⟩ := ask_bits hF
  have hsx := hOx.out.1
  have hsy := hOy.1
  have hB5 := hB4.out.trans (below_of_grown hG5 hB4.out.size hsz)
  have hT5 := hT0.out.below hB5
  have hA5 := hA4.out.kept hG5 (by simp; omega)
  have hK5 := hK4.out.kept hG5 (by simp; omega)
  have hS5 := hS4.out.kept hG5 (by simp; omega)
  have hW := Lib.hid (show KW w ((w5.alloc (.cells #[.int .i64 K, .int .i64 y, .string t, .slice none 0 0] 43)).alloc (.cells opsArr 3)) w.heap.size gA (gA + 1) (gA + 2) w5.heap.size K x s y t from
    ⟨(hB5.alloc hB5.size _).alloc (by have := hB5.size; simp; omega) _, (hA5.alloc _).alloc _, (hK5.alloc _).alloc _, (hS5.alloc _).alloc _, (Own.new w5 _ _).alloc _, (hT5.below ((Below.refl _ _).alloc (Nat.le_refl _) _)).below ((Below.refl _ _).alloc (Nat.le_refl _) _)⟩)
  have hOp := Lib.hid (show Own ((w5.alloc (.cells #[.int .i64 K, .int .i64 y, .string t, .slice none 0 0] 43)).alloc (.cells opsArr 3)) (w5.heap.size + 1) opsArr 3 from Own.new' (by simp))
  replace hbits := Lib.hid hbits
  replace hc3 := Lib.hid hc3
  replace q12 := Lib.hid q12
  replace q13 := Lib.hid q13
  replace q14 := Lib.hid q14
  replace q15 := Lib.hid q15
  clear hB5 hT5 hA5 hK5 hS5 hC4 hg4 hB4 hA4 hK4 hS4 hOx hOy hF hH5 hG5 hC2 hg2 hB2 hg0 hA hT0 hB1 e1 hK hKe n0 n1 hlt hlt3
  go_wp2_with fail
  unfold opsArr at hW hOp
  generalize (w5.alloc (.cells _ 43)).alloc (.cells #[.int .i64 12, .int .i64 7, .int .i64 14] 3) = w6 at hW hOp ⊢
  obtain ⟨gV, hgV⟩ : ∃ g : Nat, g = w5.heap.size := ⟨_, rfl⟩
  rw [← hgV] at hW hOp ⊢
  clear hgV
  go_loopw [9, 33] (fun s9 s33 wr => ∃ k : Nat, k ≤ 3 ∧ s33 = .int .i64 k ∧ s9 = .int .i64 (cnt3 bl be bm k) ∧ Hid (KW w wr w.heap.size gA (gA + 1) (gA + 2) gV K x s y t) ∧ Hid (Own wr (gV + 1) opsArr 3)) (fun _ s33 _ => 3 - (intOf s33).toNat)
  case atStart => exact ⟨0, by omega, rfl, rfl, hW, hOp⟩
  case round =>
    clear hW hOp
    obtain ⟨k, hk, rfl, rfl, hW, hOp⟩ := hrel
    have hwz : w.heap.size ≤ wr.heap.size := hW.out.low.size
    obtain ⟨v0, v1, v2, v3, -⟩ := draw.own4 hW.out.oV
    have hvl := hW.out.oV.lt
    by_cases hlt : k < 3
    case neg =>
      obtain rfl : k = 3 := by omega
      rw [hc3.out]
      have cA : ∀ (op : Int) (name : ByteArray) (bb : Bool), testS [xCt gA K x s] op userB name [dV K y t] = bb → ∀ (dq : Nat) (os : Array Obj), Calls Tryz.prog 30 #[.int .i64 op, .string name, .agg #[.int .i64 K, .int .i64 y, .string t, .slice none 0 0], .pointer (some ⟨gA + 2, 0, none⟩)] (Sort.grow (redrawn wr dq) os) (fun e w' => e = .returned (.bool bb) ∧ ∃ p : Regrown, w' = Sort.grow (redrawn wr p.d) p.os) :=
        fun op name bb hq dq os => Calls.regrown_of ((ask_any op name w _ w.heap.size gA (gA + 1) (gA + 2) gV K x s y t (hW.out.below hwz (below_regrown wr dq os)) hsx hsy).mono fun e w' ⟨h1, h2⟩ => ⟨h1.trans (by rw [hq]), h2⟩)
      have c13 := Lib.hid (cA 13 ⟨#[120]⟩ (!bm) q13.out)
      have c14 := Lib.hid (cA 14 ⟨#[120]⟩ bm q14.out)
      have c15 := Lib.hid (cA 15 ⟨#[120]⟩ (!bl) q15.out)
      have c12 := Lib.hid (cA 12 ⟨#[120]⟩ bl q12.out)
      have d13 := Lib.hid (cA 13 ⟨#[121]⟩ false (ask_y gA K x s 13 _))
      have d15 := Lib.hid (cA 15 ⟨#[121]⟩ false (ask_y gA K x s 15 _))
      have k0 := cell_regrown v0
      have k1 := cell_regrown v1
      have k2 := cell_regrown v2
      have k3 := cell_regrown v3
      have hlow := Lib.hid hW.out.low
      clear cA hW hOp hbits hc3 q12 q13 q14 q15 v0 v1 v2 v3
      cases bl <;> cases bm
      all_goals
        go_wp2_with fail
        refine wp_region_quiet_below (by kernel_rfl) (by kernel_rfl) ?_
        repeat (go_big_quiet_step (first | (with_reducible exact c13.out _ _) | (with_reducible exact c14.out _ _) | (with_reducible exact c15.out _ _) | (with_reducible exact c12.out _ _) | (with_reducible exact d13.out _ _) | (with_reducible exact d15.out _ _)))
        refine wpQuiet_nil ?_
        intro _ hw'
        obtain ⟨⟨dq, osq⟩, hw''⟩ := hw'
        subst hw''
        have hbr := Lib.hid (hlow.out.trans ((below_regrown wr dq osq).mono hwz))
        clear c12 c13 c14 c15 d13 d15 k0 k1 k2 k3
        go_wp2
        go_ret
        exact ⟨rfl, hbr.out⟩
    have o0 := (hOp.out.cell k).trans (ops_at hlt)
    have n0 : (0 : Int) ≤ (k : Int) := by omega
    have n1 : (k : Int) < 3 := by omega
    obtain ⟨b0, b1⟩ := cnt_next bl be bm k hlt
    have hol := hOp.out.lt
    have hbk := Lib.hid (hbits.out k hlt)
    have hHit := Lib.hid (fun h => cnt_hit (a := bl) (b := be) (c := bm) hlt h)
    have hMiss := Lib.hid (fun h => cnt_miss (a := bl) (b := be) (c := bm) hlt h)
    generalize opAt k = op at o0 hbk
    go_wp2_with fail
    refine (ask_any op ⟨#[120]⟩ w _ w.heap.size gA (gA + 1) (gA + 2) gV K x s y t hW.out hsx hsy).mono ?_
    rintro e w7 ⟨rfl, hb7⟩
    rw [hbk.out]
    have hW7 := Lib.hid (hW.out.below hwz hb7)
    have hOp7 := Lib.hid (hOp.out.below hb7 hol)
    have hz7 : w.heap.size ≤ w7.heap.size := by have := hb7.size; omega
    clear hb7 v0 v1 v2 v3 o0
    obtain ⟨v0, v1, v2, v3, -⟩ := draw.own4 hW7.out.oV
    have hvl7 := hW7.out.oV.lt
    have hol7 := hOp7.out.lt
    cases hbb : bitAt bl be bm k with
    | true =>
      have hq := Lib.hid (hHit.out hbb)
      replace hbb := Lib.hid hbb
      go_wp2_with fail
      refine (ask_any op ⟨#[121]⟩ w _ w.heap.size gA (gA + 1) (gA + 2) gV K x s y t hW7.out hsx hsy).mono ?_
      rintro e w8 ⟨rfl, hb8⟩
      rw [ask_y]
      have hW8 := Lib.hid (hW7.out.below hz7 hb8)
      have hOp8 := Lib.hid (hOp7.out.below hb8 hol7)
      clear hb8 v0 v1 v2 v3
      go_wp2
      go_roundw
      case rel => exact ⟨k + 1, by omega, by go_num, by rw [hq.out], hW8, hOp8⟩
      case measure => simp [intOf]; omega
    | false =>
      have hq := Lib.hid (hMiss.out hbb)
      replace hbb := Lib.hid hbb
      go_wp2_with fail
      refine (ask_any op ⟨#[121]⟩ w _ w.heap.size gA (gA + 1) (gA + 2) gV K x s y t hW7.out hsx hsy).mono ?_
      rintro e w8 ⟨rfl, hb8⟩
      rw [ask_y]
      have hW8 := Lib.hid (hW7.out.below hz7 hb8)
      have hOp8 := Lib.hid (hOp7.out.below hb8 hol7)
      clear hb8 v0 v1 v2 v3
      go_wp2
      go_roundw
      case rel => exact ⟨k + 1, by omega, by go_num, by rw [hq.out], hW8, hOp8⟩
      case measure => simp [intOf]; omega

end Go.Proofs.YtlohdmghaeabjaaGreatDoor.clause

