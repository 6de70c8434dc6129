/- Drawn values of one kind that has an order: exactly one of less, equal and more holds. -/
import Derived.Test.YtlohdmghaeabjaaGreatDoorGlob
import Derived.Test.YtlohdmghaeabjaaGreatDoorValX
import Derived.Test.YtlohdmghaeabjaaGreatDoorClS
namespace Go.Proofs.YtlohdmghaeabjaaGreatDoor.clause
open Go.RowKit Go.Proofs.YtlohdmghaeabjaaGreatDoor Go.Proofs.YtlohdmghaeabjaaGreatDoor.schema Go.Proofs.YtlohdmghaeabjaaGreatDoor.value Go.Proofs.YtlohdmghaeabjaaGreatDoor.text Go.Proofs.YtlohdmghaeabjaaGreatDoor.draw

/-- A valid value of kind 2, 3 or 4. -/
def OrdV (K x : Int) (s : ByteArray) : Prop := s.size ≤ 200 ∧ ((K = 2 ∨ K = 3) ∧ checkS ⟨K, x, s.data.toList, []⟩ = 0 ∨ K = 4 ∧ IsVer x s)
def OrdR (K : Int) (e : Ending) : Prop := ∃ (x : Int) (s : ByteArray), e = .returned (.agg #[.int .i64 K, .int .i64 x, .string s, .slice none 0 0]) ∧ OrdV K x s
theorem drawTabs_of_cmp {m : Mem} (h : CmpTabs m) : DrawTabs m :=
  ⟨fun j hj => h.texts j hj, fun j hj => let ⟨s, x, y, z, h1, h2, hx, hy, hz, h3⟩ := h.versions j hj; ⟨s, h1, by rw [h2, verS_ver3 hx hy hz]; rfl, h3⟩⟩
theorem Drawn.imp {b : Nat} {a : Option Addr} {n c : Nat} {w w' : World} {P Q : Ending → World → Prop} {e : Ending} (hPQ : ∀ e w, P e w → Q e w) (h : Drawn b a n c w P e w') : Drawn b a n c w Q e w' := ⟨hPQ _ _ h.1, h.2⟩

set_option maxHeartbeats 400000 in
theorem ovalue_version (b : Nat) (a : Option Addr) (n c : Nat) (w : World) (h : Codes b a n c w) (hg : CmpTabs (but b w)) :
    Calls Tryz.prog 21 #[.pointer (some ⟨b, 0, none⟩), .int .i64 4] w (Drawn b a n c w fun e _ => OrdR 4 e) := by
  have hC := Lib.hid h
  have hg0 := Lib.hid (hg.mono (sub_of_grown (World.grownBy_alloc w (.cells zeroV 43) (some b))))
  have hlt := h.lt
  clear h hg
  go_enter Tryz.func21, Tryz.ntmps21
  go_wp2_with fail
  refine (next_any b a n c _ 6 (by omega) (by omega) (hC.out.alloc (.cells zeroV 43))).mono ?_
  rintro e w' ⟨⟨m, rfl, hm0, hm1⟩, hH, hG⟩
  obtain ⟨j, rfl⟩ := Int.eq_ofNat_of_zero_le hm0
  obtain ⟨s, x, y, z, hs, hv, hx, hy, hz, hsz⟩ := (hg0.out.mono (sub_of_grown hG)).versions j (by omega)
  have hs := but_sub _ _ _ _ hs
  obtain ⟨c0, c1, c2, c3, f0, f1, f2, f3⟩ := draw.own4 ((Own.new w zeroV 43).kept hG (by simp; omega))
  have hH1 := Lib.hid hH
  have hG1 := Lib.hid (g_call (g_alloc (grown_refl w _) _) hG)
  have hv0 := Lib.hid (show OrdV 4 0 s from ⟨hsz, Or.inr ⟨rfl, rfl, x, y, z, hv, hx, hy, hz⟩⟩)
  clear hH hG hv hx hy hz hsz
  go_wp2
  refine bodyPost_ret (v := .agg #[.int .i64 4, .int .i64 0, .string s, .slice none 0 0]) (by simp [results, Tryz.results21, go_sem, c0, c1, c2, c3]) rfl ?_
  refine ⟨⟨0, s, rfl, hv0.out⟩, ?_, ?_⟩
  · exact (((hH1.out.set (by simp; omega) _).set (by simp; omega) _).set (by simp; omega) _).set (by simp; omega) _
  · exact g_setCell (g_setCell (g_setCell (g_setCell hG1.out (by simp) _) (by simp) _) (by simp) _) (by simp) _

theorem ovalue_any (K : Int) (hK : K = 2 ∨ K = 3 ∨ K = 4) (b : Nat) (a : Option Addr) (n c : Nat) (w : World) (h : Codes b a n c w) (hg : CmpTabs (but b w)) :
    Calls Tryz.prog 21 #[.pointer (some ⟨b, 0, none⟩), .int .i64 K] w (Drawn b a n c w fun e _ => OrdR K e) := by
  rcases hK with rfl | rfl | rfl
  · exact (dvalue_number b a n c w h).mono fun e w' => Drawn.imp fun _ _ ⟨x, s, he, hc, hs⟩ => ⟨x, s, he, hs, Or.inl ⟨Or.inl rfl, hc⟩⟩
  · exact (dvalue_text b a n c w h (drawTabs_of_cmp hg)).mono fun e w' => Drawn.imp fun _ _ ⟨x, s, he, hc, hs⟩ => ⟨x, s, he, hs, Or.inl ⟨Or.inr rfl, hc⟩⟩
  · exact ovalue_version b a n c w h hg

theorem ord_two {K x y : Int} {s t : ByteArray} (h1 : OrdV K x s) (h2 : OrdV K y t) : ∃ r : Int, compareS ⟨K, x, s.data.toList, []⟩ ⟨K, y, t.data.toList, []⟩ = (r, 0) ∧ (r == 0) = eqVV K K x y s t true := by
  have hF : ∃ r y1 z u, OrdF K x y y s t t r y1 z u := by
    obtain ⟨-, ⟨hk, h1⟩ | ⟨hk, h1⟩⟩ := h1
    · obtain ⟨-, ⟨-, h2⟩ | ⟨hk2, -⟩⟩ := h2
      · rcases hk with rfl | rfl
        · exact ord_num h1 h2 h2
        · exact ord_txt h1 h2 h2
      · rcases hk with rfl | rfl <;> cases hk2
    · obtain ⟨-, ⟨hk2, -⟩ | ⟨-, h2⟩⟩ := h2
      · subst hk; rcases hk2 with hk2 | hk2 <;> cases hk2
      · subst hk; exact ord_ver h1 h2 h2
  obtain ⟨r, y1, z, u, hF⟩ := hF
  have h := hF.h01
  unfold cmpR at h
  injection h with h
  have h := congrArg Array.toList h
  simp only [List.cons.injEq, and_true] at h
  obtain ⟨h1, h2⟩ := h
  injection h1 with _ e1
  injection h2 with _ e2
  refine ⟨r, Prod.ext e1 e2, ?_⟩
  rw [hF.eq]
  unfold eqVV eqVB
  simp

/-- The drawn values as data. -/
def dV (K x : Int) (s : ByteArray) : VD := ⟨K, x, s, none, 0, 0, []⟩
def userB : ByteArray := ⟨#[117, 115, 101, 114]⟩
def xCt (b : Nat) (K x : Int) (s : ByteArray) : CT := ⟨userB, ⟨#[117]⟩, some ⟨b, 0, none⟩, 1, 1, [⟨⟨#[120]⟩, dV K x s⟩]⟩
theorem ask_x (b : Nat) (K x : Int) (s : ByteArray) (op : Int) (v : VD) (h1 : 6 ≤ op) (h2 : op ≤ 15) (h3 : op ≠ 6) (h4 : op ≠ 8) : testS [xCt b K x s] op userB ⟨#[120]⟩ [v] = oneS op (dV K x s) v := by
  have e : lookS [xCt b K x s] userB.toList (⟨#[120]⟩ : ByteArray).toList = some (dV K x s) := by kernel_rfl
  unfold testS
  rw [e]
  show (if 6 ≤ op ∧ op ≤ 15 then holdsS op (dV K x s) [v] else false) = _
  rw [if_pos ⟨h1, h2⟩]
  unfold holdsS
  rw [if_neg h3, if_neg h4]
theorem ask_y (b : Nat) (K x : Int) (s : ByteArray) (op : Int) (v : VD) : testS [xCt b K x s] op userB ⟨#[121]⟩ [v] = false := by
  have e : lookS [xCt b K x s] userB.toList (⟨#[121]⟩ : ByteArray).toList = none := by kernel_rfl
  unfold testS
  rw [e]
/-- What the five operations say of two values, by the sign of a number. -/
structure AskF (b : Nat) (K x : Int) (s : ByteArray) (v : VD) (r : Int) : Prop where
  less : testS [xCt b K x s] 12 userB ⟨#[120]⟩ [v] = decide (r < 0)
  same : testS [xCt b K x s] 7 userB ⟨#[120]⟩ [v] = decide (r = 0)
  more : testS [xCt b K x s] 14 userB ⟨#[120]⟩ [v] = decide (0 < r)
  most : testS [xCt b K x s] 13 userB ⟨#[120]⟩ [v] = decide (r ≤ 0)
  least : testS [xCt b K x s] 15 userB ⟨#[120]⟩ [v] = decide (0 ≤ r)
theorem ask_law (b : Nat) {K x y : Int} {s t : ByteArray} (h1 : OrdV K x s) (h2 : OrdV K y t) : ∃ r, AskF b K x s (dV K y t) r := by
  obtain ⟨r, hc, he⟩ := ord_two h1 h2
  have hcmp : compareS (vv (dV K x s)) (vv (dV K y t)) = (r, 0) := hc
  have hq : eqV (dV K x s) (dV K y t) = (r == 0) := by rw [he]; rfl
  refine ⟨r, ?_, ?_, ?_, ?_, ?_⟩
  · rw [ask_x _ _ _ _ _ _ (by decide) (by decide) (by decide) (by decide)]
    show cmpB 12 (compareS (vv (dV K x s)) (vv (dV K y t))) = _
    rw [hcmp]; rfl
  · rw [ask_x _ _ _ _ _ _ (by decide) (by decide) (by decide) (by decide)]
    show eqV (dV K x s) (dV K y t) = _
    rw [hq]; rfl
  · rw [ask_x _ _ _ _ _ _ (by decide) (by decide) (by decide) (by decide)]
    show cmpB 14 (compareS (vv (dV K x s)) (vv (dV K y t))) = _
    rw [hcmp]; rfl
  · rw [ask_x _ _ _ _ _ _ (by decide) (by decide) (by decide) (by decide)]
    show cmpB 13 (compareS (vv (dV K x s)) (vv (dV K y t))) = _
    rw [hcmp]; rfl
  · rw [ask_x _ _ _ _ _ _ (by decide) (by decide) (by decide) (by decide)]
    show cmpB 15 (compareS (vv (dV K x s)) (vv (dV K y t))) = _
    rw [hcmp]; rfl

end Go.Proofs.YtlohdmghaeabjaaGreatDoor.clause

