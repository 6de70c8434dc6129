/- ClauseOperations: the walk. -/
import Derived.Test.YtlohdmghaeabjaaGreatDoorKClM
import Derived.Test.YtlohdmghaeabjaaGreatDoorKClV
import Derived.Test.YtlohdmghaeabjaaGreatDoorKJ9
import Derived.Lib.QuietBelow
import Derived.Deep.RegionHeld
namespace Go.Proofs.YtlohdmghaeabjaaGreatDoor.clause
open Go.RowKit Go.Sort Go.Proofs.YtlohdmghaeabjaaGreatDoor Go.Proofs.YtlohdmghaeabjaaGreatDoor.schema Go.Proofs.YtlohdmghaeabjaaGreatDoor.value Go.Proofs.YtlohdmghaeabjaaGreatDoor.text Go.Proofs.YtlohdmghaeabjaaGreatDoor.draw

attribute [local go_sem ↓] Go.wp_at_zero Go.wp_at_succ

theorem Beyond.alloc {w u : World} (h : Beyond w u) (o : Obj) : Beyond w (u.alloc o) := Below.alloc h h.size o
theorem Beyond.set {w u : World} (h : Beyond w u) {p : Addr} (hp : w.heap.size ≤ p.block) (v : Value) : Beyond w (u.setCell p v) := Below.setCell h hp v
/-- A drawn value, cell by cell. -/
def ValL (B b : Nat) (e : Ending) (w : World) : Prop := ∃ (k n : Int) (t : ByteArray) (p : Option Addr) (m c : Nat) (ls : List ByteArray), e = .returned (.agg #[.int .i64 k, .int .i64 n, .string t, .slice p m c]) ∧ LAt (newM B b w) ⟨k, n, t, p, m, c, ls⟩
theorem valL_of {B b : Nat} {k : Int} {e : Ending} {w : World} (h : ValIs B b k e w) : ValL B b e w := by
  obtain ⟨⟨k, n, t, p, m, c, ls⟩, rfl, -, hL⟩ := h
  exact ⟨k, n, t, p, m, c, ls, rfl, hL⟩
theorem anyL (b : Nat) (a : Option Addr) (n c : Nat) (w : World) (h : Codes b a n c w) (hg : Glob (but b w)) :
    Calls Tryz.prog 20 #[.pointer (some ⟨b, 0, none⟩)] w (Drawn b a n c w fun e w' => ValL w.heap.size b e w') :=
  (any_any b a n c w h hg).mono fun _ _ ⟨⟨_, h1⟩, h2⟩ => ⟨valL_of h1, h2⟩
theorem valL (b : Nat) (a : Option Addr) (n c : Nat) (w : World) (h : Codes b a n c w) (hg : Glob (but b w)) (k : Int) :
    Calls Tryz.prog 21 #[.pointer (some ⟨b, 0, none⟩), .int .i64 k] w (Drawn b a n c w fun e w' => ValL w.heap.size b e w') :=
  (value_any b a n c w h hg k).mono fun _ _ ⟨h1, h2⟩ => ⟨valL_of h1, h2⟩
/-- Two values in a row of pairs. -/
def PairAt (m : Mem) (A : Array Value) (j : Nat) : Prop := ∃ (k n : Int) (t : ByteArray) (p : Option Addr) (l c : Nat) (ls : List ByteArray) (k' n' : Int) (t' : ByteArray) (p' : Option Addr) (l' c' : Nat) (ls' : List ByteArray),
  A[j * 8]? = some (.int .i64 k) ∧ A[j * 8 + 1]? = some (.int .i64 n) ∧ A[j * 8 + 2]? = some (.string t) ∧ A[j * 8 + 3]? = some (.slice p l c) ∧ A[j * 8 + 4]? = some (.int .i64 k') ∧ A[j * 8 + 5]? = some (.int .i64 n') ∧ A[j * 8 + 6]? = some (.string t') ∧ A[j * 8 + 7]? = some (.slice p' l' c') ∧
  LAt m ⟨k, n, t, p, l, c, ls⟩ ∧ LAt m ⟨k', n', t', p', l', c', ls'⟩
/-- The blocks of one round: the pair, the attribute, the context, the subject, the test. -/
structure OW (wb u : World) (H : Nat) (ak an : Int) (at' : ByteArray) (ap : Option Addr) (am ac : Nat) (bk bn : Int) (bt : ByteArray) (bp : Option Addr) (bm bc : Nat) (op : Int) (vs : Value) : Prop where
  low : Beyond wb u
  pr : Own u H #[.int .i64 ak, .int .i64 an, .string at', .slice ap am ac, .int .i64 bk, .int .i64 bn, .string bt, .slice bp bm bc] 45
  at_ : Own u (H + 1) #[.string ⟨#[120]⟩, .int .i64 ak, .int .i64 an, .string at', .slice ap am ac] 50
  ct : Own u (H + 1 + 1) #[.string ⟨#[117, 115, 101, 114]⟩, .string ⟨#[117]⟩, .slice (some ⟨H + 1, 0, none⟩) 1 1] 53
  sb : Own u (H + 1 + 1 + 1) #[.slice (some ⟨H + 1 + 1, 0, none⟩) 1 1] 25
  ex : Own u (H + 1 + 1 + 1 + 1 + 1) #[.int .i64 op, .string ⟨#[117, 115, 101, 114]⟩, .string ⟨#[120]⟩, vs, .slice none 0 0] 29
  base : wb.heap.size ≤ H
section
variable {wb u x : World} {H : Nat} {ak an : Int} {at' : ByteArray} {ap : Option Addr} {am ac : Nat} {bk bn : Int} {bt : ByteArray} {bp : Option Addr} {bm bc : Nat} {op : Int} {vs : Value}
def opCt (H : Nat) (ak an : Int) (at' : ByteArray) (ap : Option Addr) (am ac : Nat) (als : List ByteArray) : CT := ⟨⟨#[117, 115, 101, 114]⟩, ⟨#[117]⟩, some ⟨H + 1, 0, none⟩, 1, 1, [⟨⟨#[120]⟩, ⟨ak, an, at', ap, am, ac, als⟩⟩]⟩
theorem OW.next (h : OW wb u H ak an at' ap am ac bk bn bt bp bm bc op vs) (hb : Beyond u x) : OW wb x H ak an at' ap am ac bk bn bt bp bm bc op vs :=
  ⟨Beyond.next hb h.low, h.pr.below hb h.pr.lt, h.at_.below hb h.at_.lt, h.ct.below hb h.ct.lt, h.sb.below hb h.sb.lt, h.ex.below hb h.ex.lt, h.base⟩
theorem OW.grow (h : OW wb u H ak an at' ap am ac bk bn bt bp bm bc op vs) (hg : u.grownBy x (some (H + 1 + 1 + 1 + 1))) : OW wb x H ak an at' ap am ac bk bn bt bp bm bc op vs :=
  ⟨Below.grown h.low hg h.low.size (fun k e => by injection e with e; have := h.base; omega), h.pr.kept hg (by simp <;> omega), h.at_.kept hg (by simp <;> omega), h.ct.kept hg (by simp <;> omega), h.sb.kept hg (by simp <;> omega), h.ex.kept hg (by simp <;> omega), h.base⟩
theorem OW.setV (h : OW wb u H ak an at' ap am ac bk bn bt bp bm bc op vs) (v : Value) : OW wb (u.setCell ⟨H + 1 + 1 + 1 + 1 + 1, 3, none⟩ v) H ak an at' ap am ac bk bn bt bp bm bc op v :=
  ⟨h.low.set (by have := h.base; simp; omega) _, h.pr.setOther (by simp <;> omega) _, h.at_.setOther (by simp <;> omega) _, h.ct.setOther (by simp <;> omega) _, h.sb.setOther (by simp <;> omega) _, h.ex.set 3 v, h.base⟩
theorem owns_put {w : World} {base : Nat} {e : TypeId} {size g n cap : Nat} {xs : List Value} (h : w.ownsRow base e size (.slice (some ⟨g, 0, none⟩) n cap) n xs) {p : Addr} (hp : g ≠ p.block) (v : Value) : (w.setCell p v).ownsRow base e size (.slice (some ⟨g, 0, none⟩) n cap) n xs :=
  h.kept (row := some p.block) ⟨rfl, rfl, rfl, by simp [World.setCell], fun k hk hne => Below.heap_setCell w p v k (fun e => hne (by rw [e]))⟩ (Or.inr (fun e => hp (by simpa [Value.ownBlock] using e)))
theorem OW.sub (h : OW wb u H ak an at' ap am ac bk bn bt bp bm bc op vs) {als : List ByteArray} (hL : LAt wb.cell? ⟨ak, an, at', ap, am, ac, als⟩) : SAt u.cell? (.slice (some ⟨H + 1 + 1, 0, none⟩) 1 1) [opCt H ak an at' ap am ac als] := by
  refine ⟨rows_of_own h.ct 3 [CT.row (opCt H ak an at' ap am ac als)] (by simp [CT.row]) rfl 1 (by simp) (by decide), fun c hc => ?_⟩
  obtain rfl := List.mem_singleton.1 hc
  refine ⟨rows_of_own h.at_ 5 [AD.row ⟨⟨#[120]⟩, ⟨ak, an, at', ap, am, ac, als⟩⟩] (by simp [AD.row, VD.row]) rfl 1 (by simp) (by decide), fun a ha => ?_, (show (⟨#[117]⟩ : ByteArray).size < 4294967281 by decide)⟩
  obtain rfl := List.mem_singleton.1 ha
  exact hL.mono (sub_of_below h.low)
end
theorem info43 : (Tryz.prog.info? 43).map (fun i => (i.zero, i.size, i.bytes)) = some (some (.agg #[.int .i64 0, .int .i64 0, .string ⟨#[]⟩, .slice none 0 0]), 4, 56) := by kernel_rfl

set_option maxRecDepth 100000 in
set_option maxHeartbeats 16000000 in
theorem operations_walk (op0 : Int) (vk vn : Int) (vt : ByteArray) (vp : Option Addr) (vc : Nat) (vls : List ByteArray) (wk wn : Int) (wt : ByteArray) (wp : Option Addr) (wc : Nat) (wls : List ByteArray) (a : Option Addr) (n c : Nat) (w : World)
    (ho0 : -9223372036854775808 ≤ op0) (ho1 : op0 ≤ 9223372036854775807) (hV : RowsAt w.cell? 1 (.slice vp vls.length vc) (vls.map strRow)) (hW : RowsAt w.cell? 1 (.slice wp wls.length wc) (wls.map strRow)) (h : BytesAt w.cell? a n c) (hg : ∀ b, w.heap.size ≤ b → Glob (but b w)) (hT : Tabs w) :
    Calls Tryz.prog 4 #[.int .i64 op0, .agg #[.int .i64 vk, .int .i64 vn, .string vt, .slice vp vls.length vc], .agg #[.int .i64 wk, .int .i64 wn, .string wt, .slice wp wls.length wc], .slice a n c] w fun e w' => e = .returned (.bool true) ∧ Below w.heap.size w w' := by
  have hB0 : Below w.heap.size w ((w.alloc (.cells #[.int .i64 vk, .int .i64 vn, .string vt, .slice vp vls.length vc] 43)).alloc (.cells #[.int .i64 wk, .int .i64 wn, .string wt, .slice wp wls.length wc] 43)) := ((Below.refl _ _).alloc (Nat.le_refl _) _).alloc (by simp) _
  have hOv := Lib.hid ((Own.new w #[.int .i64 vk, .int .i64 vn, .string vt, .slice vp vls.length vc] 43).alloc (.cells #[.int .i64 wk, .int .i64 wn, .string wt, .slice wp wls.length wc] 43))
  have hOw := Lib.hid (Own.new' (w := w.alloc (.cells #[.int .i64 vk, .int .i64 vn, .string vt, .slice vp vls.length vc] 43)) (n := w.heap.size + 1) (A := #[.int .i64 wk, .int .i64 wn, .string wt, .slice wp wls.length wc]) (t := 43) (by simp))
  have hA := Lib.hid h
  have hg0 := Lib.hid hg
  have hT0 := Lib.hid hT
  replace hV := Lib.hid hV
  replace hW := Lib.hid hW
  replace hB0 := Lib.hid hB0
  clear h hg hT
  go_enter Tryz.func4, Tryz.ntmps4
  go_wp2_with fail
  generalize (w.alloc (.cells #[.int .i64 vk, .int .i64 vn, .string vt, .slice vp vls.length vc] 43)).alloc (.cells #[.int .i64 wk, .int .i64 wn, .string wt, .slice wp wls.length wc] 43) = w0 at hB0 hOv hOw ⊢
  obtain ⟨gv, hgv⟩ : ∃ g : Nat, Hid (g = w.heap.size) := ⟨_, Lib.hid rfl⟩
  rw [← hgv.out] at hOv hOw ⊢
  refine (awake_any _ (hT0.out.below hB0.out)).mono ?_
  rintro e w1 ⟨rfl, hb1⟩
  have hB1 := Lib.hid (hB0.out.trans (hb1.mono hB0.out.size))
  have hOv1 := hOv.out.below hb1 hOv.out.lt
  have hOw1 := hOw.out.below hb1 hOw.out.lt
  obtain ⟨x0, x1, x2, x3, -⟩ := draw.own4 hOv1
  obtain ⟨y0, y1, y2, y3, -⟩ := draw.own4 hOw1
  have hvl := hOv1.lt
  have hwl := hOw1.lt
  replace hOv1 := Lib.hid hOv1
  replace hOw1 := Lib.hid hOw1
  clear hb1 hB0 hOv hOw
  by_cases h1 : (40 : Int) < (vls.length : Int)
  case pos =>
    go_wp2
    go_ret
    exact ⟨rfl, hB1.out⟩
  by_cases h2 : (40 : Int) < (wls.length : Int)
  case pos =>
    go_wp2
    go_ret
    exact ⟨rfl, hB1.out⟩
  by_cases h3 : (400 : Int) < (vt.size : Int)
  case pos =>
    go_wp2
    go_ret
    exact ⟨rfl, hB1.out⟩
  by_cases h4 : (400 : Int) < (wt.size : Int)
  case pos =>
    go_wp2
    go_ret
    exact ⟨rfl, hB1.out⟩
  go_wp2_with fail
  refine (new_any a n c 20 _ (by omega) (by omega) (hA.out.mono (sub_of_below hB1.out))).mono ?_
  rintro e w2 ⟨rfl, ⟨a', n', c', hC⟩, hb2⟩
  have hsz : w.heap.size ≤ w1.heap.size := hB1.out.size
  have hlt := hC.lt
  have hB2 := Lib.hid (hB1.out.trans (hb2.mono hsz))
  have hOv2 := Lib.hid (hOv1.out.below hb2 hvl)
  have hOw2 := Lib.hid (hOw1.out.below hb2 hwl)
  have hC2 := Lib.hid hC
  have hg2 := Lib.hid ((hg0.out w1.heap.size hsz).mono (sub_of_grown (grown_of_below ((hB1.out.trans (hb2.mono hsz)).mono (Nat.le_refl _)) _)))
  clear hC hb2 hB1 hOv1 hOw1 x0 x1 x2 x3 y0 y1 y2 y3
  go_wp2_with fail
  refine (mod_eq op0 10 _ (by omega) (by omega) ho0 ho1).mono ?_
  rintro e wm ⟨rfl, hwm⟩
  replace hwm := hwm.symm
  subst hwm
  obtain ⟨op, hop⟩ : ∃ op : Int, Hid (op = 6 + op0 % 10) := ⟨_, Lib.hid rfl⟩
  have e1 : 6 + op0 % 10 = op := hop.out.symm
  have hm0 : 0 ≤ op0 % 10 := Int.emod_nonneg _ (by omega)
  have hm1 : op0 % 10 < 10 := Int.emod_lt_of_pos _ (by omega)
  go_wp2_with fail
  refine (next_any w1.heap.size a' n' c' _ 5 (by omega) (by omega) hC2.out).mono ?_
  rintro e w3 ⟨⟨q, rfl, hq0, hq1⟩, hH3, hG3⟩
  have hC3 := hC2.out.still hG3 hH3
  have hg3 := hg2.out.mono (sub_of_grown hG3)
  have hB3 := hB2.out.trans (below_of_grown hG3 hB2.out.size hsz)
  have hOv3 := hOv2.out.kept hG3 (by simp; omega)
  have hOw3 := hOw2.out.kept hG3 (by simp; omega)
  clear hC2 hg2 hB2 hOv2 hOw2 hG3 hH3 hm0 hm1
  go_wp2_with fail
  clear e1
  have hCd := hC3.still (grown_drew w3 _) hC3.1.drew
  have hgd := hg3.mono (sub_of_grown (grown_drew w3 (some w1.heap.size)))
  have hBd : Below w.heap.size w w3.drew := hB3.grown (grown_drew w3 none) hB3.size (fun k e => by cases e)
  refine wp_region_held_drew (S := fun u => Own u gv #[.int .i64 vk, .int .i64 vn, .string vt, .slice vp vls.length vc] 43 ∧ Own u (gv + 1) #[.int .i64 wk, .int .i64 wn, .string wt, .slice wp wls.length wc] 43) (by kernel_rfl) ⟨hOv3, hOw3⟩ (fun hHeld => ?_)
  clear hC3 hg3 hB3 hOv3 hOw3
  generalize w3.drew = w4 at hHeld hCd hgd hBd ⊢
  refine wpAnyH_take (i := 0) (oi := ?oi1) (v := ?v1) ?ho1 (by kernel_rfl) (by kernel_rfl) (by kernel_rfl) ?hp1 (Or.inl ⟨?hw1, ?hy1⟩) (by assumption) ?rest1
  case ho1 => simp only [List.getElem?_toArray, List.getElem?_cons_zero]; rfl
  case hp1 => exact fun _ _ _ h => h
  case hw1 => rfl
  case hy1 =>
    intro W hSw
    obtain ⟨hOa, hOb⟩ := hSw
    obtain ⟨h0, h1, h2, h3, -⟩ := draw.own4 hOa
    clear hOa hOb
    go_simp
    try exact rfl
  simp only [Act.put, List.setIfInBounds_toArray, List.set_cons_zero, List.set_cons_succ]
  refine wpAnyH_take (i := 1) (oi := ?oi2) (v := ?v2) ?ho2 (by kernel_rfl) (by kernel_rfl) (by kernel_rfl) ?hp2 (Or.inl ⟨?hw2, ?hy2⟩) (by assumption) ?rest2
  case ho2 => simp only [List.getElem?_toArray, List.getElem?_cons_succ, List.getElem?_cons_zero]; rfl
  case hp2 => exact fun _ _ _ h => h
  case hw2 => rfl
  case hy2 =>
    intro W hSw
    obtain ⟨hOa, hOb⟩ := hSw
    obtain ⟨h0, h1, h2, h3, -⟩ := draw.own4 hOb
    clear hOa hOb
    go_simp
    try exact rfl
  simp only [Act.put, List.setIfInBounds_toArray, List.set_cons_zero, List.set_cons_succ]
  refine wpAnyH_take (i := 2) (oi := ?oi3) (v := ?v3) ?ho3 (by kernel_rfl) (by kernel_rfl) (by kernel_rfl) ?hp3 (Or.inl ⟨?hw3, ?hy3⟩) (by assumption) ?rest3
  case ho3 => simp only [List.getElem?_toArray, List.getElem?_cons_succ, List.getElem?_cons_zero]; rfl
  case hp3 => exact fun _ _ _ h => h
  case hw3 => rfl
  case hy3 =>
    intro W hSw
    go_simp
    try exact rfl
  simp only [Act.put, List.setIfInBounds_toArray, List.set_cons_zero, List.set_cons_succ]
  refine wpAnyH_take (i := 3) (oi := ?oi4) (v := ?v4) ?ho4 (by kernel_rfl) (by kernel_rfl) (by kernel_rfl) ?hp4 (Or.inl ⟨?hw4, ?hy4⟩) (by assumption) ?rest4
  case ho4 => simp only [List.getElem?_toArray, List.getElem?_cons_succ, List.getElem?_cons_zero]; rfl
  case hp4 => exact fun _ _ _ h => h
  case hw4 => rfl
  case hy4 =>
    intro W hSw
    go_simp
    try exact rfl
  simp only [Act.put, List.setIfInBounds_toArray, List.set_cons_zero, List.set_cons_succ]
  refine wpAnyH_take (i := 5) (oi := ?oi5) (v := ?v5) ?ho5 (by kernel_rfl) (by kernel_rfl) (by kernel_rfl) ?hp5 (Or.inl ⟨?hw5, ?hy5⟩) (by assumption) ?rest5
  case ho5 => simp only [List.getElem?_toArray, List.getElem?_cons_succ, List.getElem?_cons_zero]; rfl
  case hp5 => exact fun _ _ _ h => h
  case hw5 => rfl
  case hy5 =>
    intro W hSw
    go_simp
    try exact rfl
  simp only [Act.put, List.setIfInBounds_toArray, List.set_cons_zero, List.set_cons_succ]
  refine wpAnyH_take (i := 8) (oi := ?oi6) (v := ?v6) ?ho6 (by kernel_rfl) (by kernel_rfl) (by kernel_rfl) ?hp6 (Or.inl ⟨?hw6, ?hy6⟩) (by assumption) ?rest6
  case ho6 => simp only [List.getElem?_toArray, List.getElem?_cons_succ, List.getElem?_cons_zero]; rfl
  case hp6 => exact fun _ _ _ h => h
  case hw6 => rfl
  case hy6 =>
    intro W hSw
    go_simp
    try exact rfl
  simp only [Act.put, List.setIfInBounds_toArray, List.set_cons_zero, List.set_cons_succ]
  refine wpAnyH_take (i := 9) (oi := ?oi7) (v := ?v7) ?ho7 (by kernel_rfl) (by kernel_rfl) (by kernel_rfl) ?hp7 (Or.inl ⟨?hw7, ?hy7⟩) (by assumption) ?rest7
  case ho7 => simp only [List.getElem?_toArray, List.getElem?_cons_succ, List.getElem?_cons_zero]; rfl
  case hp7 => exact fun _ _ _ h => h
  case hw7 => rfl
  case hy7 =>
    intro W hSw
    go_simp
    try exact rfl
  simp only [Act.put, List.setIfInBounds_toArray, List.set_cons_zero, List.set_cons_succ]
  refine wpAnyH_take (i := 11) (oi := ?oi8) (v := ?v8) ?ho8 (by kernel_rfl) (by kernel_rfl) (by kernel_rfl) ?hp8 (Or.inl ⟨?hw8, ?hy8⟩) (by assumption) ?rest8
  case ho8 => simp only [List.getElem?_toArray, List.getElem?_cons_succ, List.getElem?_cons_zero]; rfl
  case hp8 => exact fun _ _ _ h => h
  case hw8 => rfl
  case hy8 =>
    intro W hSw
    go_simp
    try exact rfl
  simp only [Act.put, List.setIfInBounds_toArray, List.set_cons_zero, List.set_cons_succ]
  refine wpAnyH_take (i := 12) (oi := ?oi9) (v := ?v9) ?ho9 (by kernel_rfl) (by kernel_rfl) (by kernel_rfl) ?hp9 (Or.inl ⟨?hw9, ?hy9⟩) (by assumption) ?rest9
  case ho9 => simp only [List.getElem?_toArray, List.getElem?_cons_succ, List.getElem?_cons_zero]; rfl
  case hp9 => exact fun _ _ _ h => h
  case hw9 => rfl
  case hy9 =>
    intro W hSw
    go_simp
    try exact rfl
  simp only [Act.put, List.setIfInBounds_toArray, List.set_cons_zero, List.set_cons_succ]
  refine wpAnyH_take (i := 15) (oi := ?oi10) (v := ?v10) ?ho10 (by kernel_rfl) (by kernel_rfl) (by kernel_rfl) ?hp10 (Or.inl ⟨?hw10, ?hy10⟩) (by assumption) ?rest10
  case ho10 => simp only [List.getElem?_toArray, List.getElem?_cons_succ, List.getElem?_cons_zero]; rfl
  case hp10 => exact fun _ _ _ h => h
  case hw10 => rfl
  case hy10 =>
    intro W hSw
    go_simp
    try exact rfl
  simp only [Act.put, List.setIfInBounds_toArray, List.set_cons_zero, List.set_cons_succ]
  refine wpAnyH_take (i := 17) (oi := ?oi11) (v := ?v11) ?ho11 (by kernel_rfl) (by kernel_rfl) (by kernel_rfl) ?hp11 (Or.inl ⟨?hw11, ?hy11⟩) (by assumption) ?rest11
  case ho11 => simp only [List.getElem?_toArray, List.getElem?_cons_succ, List.getElem?_cons_zero]; rfl
  case hp11 => exact fun _ _ _ h => h
  case hw11 => rfl
  case hy11 =>
    intro W hSw
    go_simp
    try exact rfl
  simp only [Act.put, List.setIfInBounds_toArray, List.set_cons_zero, List.set_cons_succ]
  refine wpAnyH_take (i := 20) (oi := ?oi12) (v := ?v12) ?ho12 (by kernel_rfl) (by kernel_rfl) (by kernel_rfl) ?hp12 (Or.inl ⟨?hw12, ?hy12⟩) (by assumption) ?rest12
  case ho12 => simp only [List.getElem?_toArray, List.getElem?_cons_succ, List.getElem?_cons_zero]; rfl
  case hp12 => exact fun _ _ _ h => h
  case hw12 => rfl
  case hy12 =>
    intro W hSw
    obtain ⟨hOa, hOb⟩ := hSw
    obtain ⟨h0, h1, h2, h3, -⟩ := draw.own4 hOb
    clear hOa hOb
    go_simp
    try exact rfl
  simp only [Act.put, List.setIfInBounds_toArray, List.set_cons_zero, List.set_cons_succ]
  refine wpAnyH_take (i := 21) (oi := ?oi13) (v := ?v13) ?ho13 (by kernel_rfl) (by kernel_rfl) (by kernel_rfl) ?hp13 (Or.inl ⟨?hw13, ?hy13⟩) (by assumption) ?rest13
  case ho13 => simp only [List.getElem?_toArray, List.getElem?_cons_succ, List.getElem?_cons_zero]; rfl
  case hp13 => exact fun _ _ _ h => h
  case hw13 => rfl
  case hy13 =>
    intro W hSw
    go_simp
    try exact rfl
  simp only [Act.put, List.setIfInBounds_toArray, List.set_cons_zero, List.set_cons_succ]
  refine wpAnyH_take (i := 26) (oi := ?oi14) (v := ?v14) ?ho14 (by kernel_rfl) (by kernel_rfl) (by kernel_rfl) ?hp14 (Or.inl ⟨?hw14, ?hy14⟩) (by assumption) ?rest14
  case ho14 => simp only [List.getElem?_toArray, List.getElem?_cons_succ, List.getElem?_cons_zero]; rfl
  case hp14 => exact fun _ _ _ h => h
  case hw14 => rfl
  case hy14 =>
    intro W hSw
    go_simp
    try exact rfl
  simp only [Act.put, List.setIfInBounds_toArray, List.set_cons_zero, List.set_cons_succ]
  refine wpAnyH_ready (rs := [4]) (by kernel_rfl) (by simp) ?_
  refine AllReadyH.cons rfl (fun K hK => ?_) AllReadyH.nil
  go_simp
  refine (anyL w1.heap.size a' n' c' w4 hCd hgd).mono ?_
  rintro e w5 ⟨⟨k1, n1, t1, p1, m1, c1, ls1, rfl, hL1⟩, hH, hG⟩
  have hCd := hCd.still hG hH
  have hgd := hgd.mono (sub_of_grown hG)
  have hBd := hBd.trans (below_of_grown hG hBd.size hsz)
  refine hK.out _ _ ⟨hHeld.1.kept hG (by simp; omega), hHeld.2.kept hG (by simp; omega)⟩ (fun hHeld => ?_)
  clear hK K hG hH
  refine wpAnyH_ready (rs := [6]) (by kernel_rfl) (by simp) ?_
  refine AllReadyH.cons rfl (fun K hK => ?_) AllReadyH.nil
  go_simp
  refine (anyL w1.heap.size a' n' c' w5 hCd hgd).mono ?_
  rintro e w6 ⟨⟨k2, n2, t2, p2, m2, c2, ls2, rfl, hL2⟩, hH, hG⟩
  have hCd := hCd.still hG hH
  have hgd := hgd.mono (sub_of_grown hG)
  have hBd := hBd.trans (below_of_grown hG hBd.size hsz)
  have hL1 := hL1.mono (newM_grown hG)
  refine hK.out _ _ ⟨hHeld.1.kept hG (by simp; omega), hHeld.2.kept hG (by simp; omega)⟩ (fun hHeld => ?_)
  clear hK K hG hH
  refine wpAnyH_take (i := 7) (oi := ?oi15) (v := ?v15) ?ho15 (by kernel_rfl) (by kernel_rfl) (by kernel_rfl) ?hp15 (Or.inl ⟨?hw15, ?hy15⟩) (by assumption) ?rest15
  case ho15 => simp only [List.getElem?_toArray, List.getElem?_cons_succ, List.getElem?_cons_zero]; rfl
  case hp15 => exact fun _ _ _ h => h
  case hw15 => rfl
  case hy15 =>
    intro W hSw
    go_simp
    try exact rfl
  simp only [Act.put, List.setIfInBounds_toArray, List.set_cons_zero, List.set_cons_succ]
  refine wpAnyH_ready (rs := [10]) (by kernel_rfl) (by simp) ?_
  refine AllReadyH.cons rfl (fun K hK => ?_) AllReadyH.nil
  go_simp
  refine (valL w1.heap.size a' n' c' w6 hCd hgd _).mono ?_
  rintro e w7 ⟨⟨k3, n3, t3, p3, m3, c3, ls3, rfl, hL3⟩, hH, hG⟩
  have hCd := hCd.still hG hH
  have hgd := hgd.mono (sub_of_grown hG)
  have hBd := hBd.trans (below_of_grown hG hBd.size hsz)
  have hL1 := hL1.mono (newM_grown hG)
  have hL2 := hL2.mono (newM_grown hG)
  refine hK.out _ _ ⟨hHeld.1.kept hG (by simp; omega), hHeld.2.kept hG (by simp; omega)⟩ (fun hHeld => ?_)
  clear hK K hG hH
  refine wpAnyH_ready (rs := [13]) (by kernel_rfl) (by simp) ?_
  refine AllReadyH.cons rfl (fun K hK => ?_) AllReadyH.nil
  go_simp
  refine (valL w1.heap.size a' n' c' w7 hCd hgd _).mono ?_
  rintro e w8 ⟨⟨k4, n4, t4, p4, m4, c4, ls4, rfl, hL4⟩, hH, hG⟩
  have hCd := hCd.still hG hH
  have hgd := hgd.mono (sub_of_grown hG)
  have hBd := hBd.trans (below_of_grown hG hBd.size hsz)
  have hL1 := hL1.mono (newM_grown hG)
  have hL2 := hL2.mono (newM_grown hG)
  have hL3 := hL3.mono (newM_grown hG)
  refine hK.out _ _ ⟨hHeld.1.kept hG (by simp; omega), hHeld.2.kept hG (by simp; omega)⟩ (fun hHeld => ?_)
  clear hK K hG hH
  refine wpAnyH_take (i := 14) (oi := ?oi16) (v := ?v16) ?ho16 (by kernel_rfl) (by kernel_rfl) (by kernel_rfl) ?hp16 (Or.inl ⟨?hw16, ?hy16⟩) (by assumption) ?rest16
  case ho16 => simp only [List.getElem?_toArray, List.getElem?_cons_succ, List.getElem?_cons_zero]; rfl
  case hp16 => exact fun _ _ _ h => h
  case hw16 => rfl
  case hy16 =>
    intro W hSw
    go_simp
    try exact rfl
  simp only [Act.put, List.setIfInBounds_toArray, List.set_cons_zero, List.set_cons_succ]
  refine wpAnyH_ready (rs := [16]) (by kernel_rfl) (by simp) ?_
  refine AllReadyH.cons rfl (fun K hK => ?_) AllReadyH.nil
  go_simp
  refine (valL w1.heap.size a' n' c' w8 hCd hgd _).mono ?_
  rintro e w9 ⟨⟨k5, n5, t5, p5, m5, c5, ls5, rfl, hL5⟩, hH, hG⟩
  have hCd := hCd.still hG hH
  have hgd := hgd.mono (sub_of_grown hG)
  have hBd := hBd.trans (below_of_grown hG hBd.size hsz)
  have hL1 := hL1.mono (newM_grown hG)
  have hL2 := hL2.mono (newM_grown hG)
  have hL3 := hL3.mono (newM_grown hG)
  have hL4 := hL4.mono (newM_grown hG)
  refine hK.out _ _ ⟨hHeld.1.kept hG (by simp; omega), hHeld.2.kept hG (by simp; omega)⟩ (fun hHeld => ?_)
  clear hK K hG hH
  refine wpAnyH_ready (rs := [18]) (by kernel_rfl) (by simp) ?_
  refine AllReadyH.cons rfl (fun K hK => ?_) AllReadyH.nil
  go_simp
  refine (valL w1.heap.size a' n' c' w9 hCd hgd _).mono ?_
  rintro e w10 ⟨⟨k6, n6, t6, p6, m6, c6, ls6, rfl, hL6⟩, hH, hG⟩
  have hCd := hCd.still hG hH
  have hgd := hgd.mono (sub_of_grown hG)
  have hBd := hBd.trans (below_of_grown hG hBd.size hsz)
  have hL1 := hL1.mono (newM_grown hG)
  have hL2 := hL2.mono (newM_grown hG)
  have hL3 := hL3.mono (newM_grown hG)
  have hL4 := hL4.mono (newM_grown hG)
  have hL5 := hL5.mono (newM_grown hG)
  refine hK.out _ _ ⟨hHeld.1.kept hG (by simp; omega), hHeld.2.kept hG (by simp; omega)⟩ (fun hHeld => ?_)
  clear hK K hG hH
  refine wpAnyH_take (i := 19) (oi := ?oi17) (v := ?v17) ?ho17 (by kernel_rfl) (by kernel_rfl) (by kernel_rfl) ?hp17 (Or.inl ⟨?hw17, ?hy17⟩) (by assumption) ?rest17
  case ho17 => simp only [List.getElem?_toArray, List.getElem?_cons_succ, List.getElem?_cons_zero]; rfl
  case hp17 => exact fun _ _ _ h => h
  case hw17 => rfl
  case hy17 =>
    intro W hSw
    go_simp
    try exact rfl
  simp only [Act.put, List.setIfInBounds_toArray, List.set_cons_zero, List.set_cons_succ]
  refine wpAnyH_ready (rs := [22]) (by kernel_rfl) (by simp) ?_
  refine AllReadyH.cons rfl (fun K hK => ?_) AllReadyH.nil
  go_simp
  refine (anyL w1.heap.size a' n' c' w10 hCd hgd).mono ?_
  rintro e w11 ⟨⟨k7, n7, t7, p7, m7, c7, ls7, rfl, hL7⟩, hH, hG⟩
  have hCd := hCd.still hG hH
  have hgd := hgd.mono (sub_of_grown hG)
  have hBd := hBd.trans (below_of_grown hG hBd.size hsz)
  have hL1 := hL1.mono (newM_grown hG)
  have hL2 := hL2.mono (newM_grown hG)
  have hL3 := hL3.mono (newM_grown hG)
  have hL4 := hL4.mono (newM_grown hG)
  have hL5 := hL5.mono (newM_grown hG)
  have hL6 := hL6.mono (newM_grown hG)
  refine hK.out _ _ ⟨hHeld.1.kept hG (by simp; omega), hHeld.2.kept hG (by simp; omega)⟩ (fun hHeld => ?_)
  clear hK K hG hH
  refine wpAnyH_take (i := 23) (oi := ?oi18) (v := ?v18) ?ho18 (by kernel_rfl) (by kernel_rfl) (by kernel_rfl) ?hp18 (Or.inl ⟨?hw18, ?hy18⟩) (by assumption) ?rest18
  case ho18 => simp only [List.getElem?_toArray, List.getElem?_cons_succ, List.getElem?_cons_zero]; rfl
  case hp18 => exact fun _ _ _ h => h
  case hw18 => rfl
  case hy18 =>
    intro W hSw
    go_simp
    try exact rfl
  simp only [Act.put, List.setIfInBounds_toArray, List.set_cons_zero, List.set_cons_succ]
  refine wpAnyH_ready (rs := [24]) (by kernel_rfl) (by simp) ?_
  refine AllReadyH.cons rfl (fun K hK => ?_) AllReadyH.nil
  go_simp
  refine hK.out _ _ ⟨hHeld.1.alloc _, hHeld.2.alloc _⟩ (fun hHeld => ?_)
  clear hK K
  refine wpAnyH_take (i := 25) (oi := ?oi19) (v := ?v19) ?ho19 (by kernel_rfl) (by kernel_rfl) (by kernel_rfl) ?hp19 (Or.inl ⟨?hw19, ?hy19⟩) (by assumption) ?rest19
  case ho19 => simp only [List.getElem?_toArray, List.getElem?_cons_succ, List.getElem?_cons_zero]; rfl
  case hp19 => exact fun _ _ _ h => h
  case hw19 => rfl
  case hy19 =>
    intro W hSw
    go_simp
    try exact rfl
  simp only [Act.put, List.setIfInBounds_toArray, List.set_cons_zero, List.set_cons_succ]
  refine wpAnyH_done (by kernel_rfl) ?_ _
  have hB := Lib.hid (hBd.alloc hBd.size (.cells #[.int .i64 vk, .int .i64 vn, .string vt, .slice vp vls.length vc, .int .i64 wk, .int .i64 wn, .string wt, .slice wp wls.length wc, .int .i64 k1, .int .i64 n1, .string t1, .slice p1 m1 c1, .int .i64 k2, .int .i64 n2, .string t2, .slice p2 m2 c2, .int .i64 k3, .int .i64 n3, .string t3, .slice p3 m3 c3, .int .i64 k4, .int .i64 n4, .string t4, .slice p4 m4 c4, .int .i64 k5, .int .i64 n5, .string t5, .slice p5 m5 c5, .int .i64 k6, .int .i64 n6, .string t6, .slice p6 m6 c6, .int .i64 wk, .int .i64 wn, .string wt, .slice wp wls.length wc, .int .i64 k7, .int .i64 n7, .string t7, .slice p7 m7 c7] 45))
  have hOa := Lib.hid (Own.new w11 #[.int .i64 vk, .int .i64 vn, .string vt, .slice vp vls.length vc, .int .i64 wk, .int .i64 wn, .string wt, .slice wp wls.length wc, .int .i64 k1, .int .i64 n1, .string t1, .slice p1 m1 c1, .int .i64 k2, .int .i64 n2, .string t2, .slice p2 m2 c2, .int .i64 k3, .int .i64 n3, .string t3, .slice p3 m3 c3, .int .i64 k4, .int .i64 n4, .string t4, .slice p4 m4 c4, .int .i64 k5, .int .i64 n5, .string t5, .slice p5 m5 c5, .int .i64 k6, .int .i64 n6, .string t6, .slice p6 m6 c6, .int .i64 wk, .int .i64 wn, .string wt, .slice wp wls.length wc, .int .i64 k7, .int .i64 n7, .string t7, .slice p7 m7 c7] 45)
  have hup : ∀ {B : Nat}, Sub (newM B w1.heap.size w11) (w11.alloc (.cells #[.int .i64 vk, .int .i64 vn, .string vt, .slice vp vls.length vc, .int .i64 wk, .int .i64 wn, .string wt, .slice wp wls.length wc, .int .i64 k1, .int .i64 n1, .string t1, .slice p1 m1 c1, .int .i64 k2, .int .i64 n2, .string t2, .slice p2 m2 c2, .int .i64 k3, .int .i64 n3, .string t3, .slice p3 m3 c3, .int .i64 k4, .int .i64 n4, .string t4, .slice p4 m4 c4, .int .i64 k5, .int .i64 n5, .string t5, .slice p5 m5 c5, .int .i64 k6, .int .i64 n6, .string t6, .slice p6 m6 c6, .int .i64 wk, .int .i64 wn, .string wt, .slice wp wls.length wc, .int .i64 k7, .int .i64 n7, .string t7, .slice p7 m7 c7] 45)).cell? := sub_alloc ((newM_but _ _ _).trans (but_sub _ _)) _
  have hLv : LAt (w11.alloc (.cells #[.int .i64 vk, .int .i64 vn, .string vt, .slice vp vls.length vc, .int .i64 wk, .int .i64 wn, .string wt, .slice wp wls.length wc, .int .i64 k1, .int .i64 n1, .string t1, .slice p1 m1 c1, .int .i64 k2, .int .i64 n2, .string t2, .slice p2 m2 c2, .int .i64 k3, .int .i64 n3, .string t3, .slice p3 m3 c3, .int .i64 k4, .int .i64 n4, .string t4, .slice p4 m4 c4, .int .i64 k5, .int .i64 n5, .string t5, .slice p5 m5 c5, .int .i64 k6, .int .i64 n6, .string t6, .slice p6 m6 c6, .int .i64 wk, .int .i64 wn, .string wt, .slice wp wls.length wc, .int .i64 k7, .int .i64 n7, .string t7, .slice p7 m7 c7] 45)).cell? ⟨vk, vn, vt, vp, vls.length, vc, vls⟩ := ⟨hV.out.mono (sub_of_below hB.out), by show vt.size < 4294967281; omega, by show vls.length ≤ 8796093022208; omega⟩
  have hLw : LAt (w11.alloc (.cells #[.int .i64 vk, .int .i64 vn, .string vt, .slice vp vls.length vc, .int .i64 wk, .int .i64 wn, .string wt, .slice wp wls.length wc, .int .i64 k1, .int .i64 n1, .string t1, .slice p1 m1 c1, .int .i64 k2, .int .i64 n2, .string t2, .slice p2 m2 c2, .int .i64 k3, .int .i64 n3, .string t3, .slice p3 m3 c3, .int .i64 k4, .int .i64 n4, .string t4, .slice p4 m4 c4, .int .i64 k5, .int .i64 n5, .string t5, .slice p5 m5 c5, .int .i64 k6, .int .i64 n6, .string t6, .slice p6 m6 c6, .int .i64 wk, .int .i64 wn, .string wt, .slice wp wls.length wc, .int .i64 k7, .int .i64 n7, .string t7, .slice p7 m7 c7] 45)).cell? ⟨wk, wn, wt, wp, wls.length, wc, wls⟩ := ⟨hW.out.mono (sub_of_below hB.out), by show wt.size < 4294967281; omega, by show wls.length ≤ 8796093022208; omega⟩
  have hP : Hid (∀ j, j < 5 → PairAt (w11.alloc (.cells #[.int .i64 vk, .int .i64 vn, .string vt, .slice vp vls.length vc, .int .i64 wk, .int .i64 wn, .string wt, .slice wp wls.length wc, .int .i64 k1, .int .i64 n1, .string t1, .slice p1 m1 c1, .int .i64 k2, .int .i64 n2, .string t2, .slice p2 m2 c2, .int .i64 k3, .int .i64 n3, .string t3, .slice p3 m3 c3, .int .i64 k4, .int .i64 n4, .string t4, .slice p4 m4 c4, .int .i64 k5, .int .i64 n5, .string t5, .slice p5 m5 c5, .int .i64 k6, .int .i64 n6, .string t6, .slice p6 m6 c6, .int .i64 wk, .int .i64 wn, .string wt, .slice wp wls.length wc, .int .i64 k7, .int .i64 n7, .string t7, .slice p7 m7 c7] 45)).cell? #[.int .i64 vk, .int .i64 vn, .string vt, .slice vp vls.length vc, .int .i64 wk, .int .i64 wn, .string wt, .slice wp wls.length wc, .int .i64 k1, .int .i64 n1, .string t1, .slice p1 m1 c1, .int .i64 k2, .int .i64 n2, .string t2, .slice p2 m2 c2, .int .i64 k3, .int .i64 n3, .string t3, .slice p3 m3 c3, .int .i64 k4, .int .i64 n4, .string t4, .slice p4 m4 c4, .int .i64 k5, .int .i64 n5, .string t5, .slice p5 m5 c5, .int .i64 k6, .int .i64 n6, .string t6, .slice p6 m6 c6, .int .i64 wk, .int .i64 wn, .string wt, .slice wp wls.length wc, .int .i64 k7, .int .i64 n7, .string t7, .slice p7 m7 c7] j) := Lib.hid (by
    intro j hj
    rcases (show j = 0 ∨ j = 1 ∨ j = 2 ∨ j = 3 ∨ j = 4 by omega) with rfl | rfl | rfl | rfl | rfl
    · exact ⟨_, _, _, _, _, _, vls, _, _, _, _, _, _, wls, rfl, rfl, rfl, rfl, rfl, rfl, rfl, rfl, hLv, hLw⟩
    · exact ⟨_, _, _, _, _, _, ls1, _, _, _, _, _, _, ls2, rfl, rfl, rfl, rfl, rfl, rfl, rfl, rfl, hL1.mono hup, hL2.mono hup⟩
    · exact ⟨_, _, _, _, _, _, ls3, _, _, _, _, _, _, ls4, rfl, rfl, rfl, rfl, rfl, rfl, rfl, rfl, hL3.mono hup, hL4.mono hup⟩
    · exact ⟨_, _, _, _, _, _, ls5, _, _, _, _, _, _, ls6, rfl, rfl, rfl, rfl, rfl, rfl, rfl, rfl, hL5.mono hup, hL6.mono hup⟩
    · exact ⟨_, _, _, _, _, _, wls, _, _, _, _, _, _, ls7, rfl, rfl, rfl, rfl, rfl, rfl, rfl, rfl, hLw, hL7.mono hup⟩)
  have hTb := Lib.hid (hT0.out.below hB.out)
  clear hLv hLw hL1 hL2 hL3 hL4 hL5 hL6 hL7 hup hCd hgd hBd hHeld h1 h2 h3 h4
  go_wp2_with fail
  generalize w11.alloc (.cells #[.int .i64 vk, .int .i64 vn, .string vt, .slice vp vls.length vc, .int .i64 wk, .int .i64 wn, .string wt, .slice wp wls.length wc, .int .i64 k1, .int .i64 n1, .string t1, .slice p1 m1 c1, .int .i64 k2, .int .i64 n2, .string t2, .slice p2 m2 c2, .int .i64 k3, .int .i64 n3, .string t3, .slice p3 m3 c3, .int .i64 k4, .int .i64 n4, .string t4, .slice p4 m4 c4, .int .i64 k5, .int .i64 n5, .string t5, .slice p5 m5 c5, .int .i64 k6, .int .i64 n6, .string t6, .slice p6 m6 c6, .int .i64 wk, .int .i64 wn, .string wt, .slice wp wls.length wc, .int .i64 k7, .int .i64 n7, .string t7, .slice p7 m7 c7] 45) = wb at hB hOa hP hTb ⊢
  obtain ⟨ga, hga⟩ : ∃ g : Nat, g = w11.heap.size := ⟨_, rfl⟩
  rw [← hga] at hOa ⊢
  clear hga
  go_loopw [73] (fun s73 wr => ∃ k : Nat, k ≤ 5 ∧ s73 = .int .i64 k ∧ Hid (Beyond wb wr)) (fun s73 _ => 5 - (intOf s73).toNat)
  case atStart => exact ⟨0, by omega, rfl, Lib.hid (Beyond.refl _)⟩
  case round =>
    obtain ⟨k, hk, rfl, hy⟩ := hrel
    have hBr := Lib.hid (hB.out.trans (Below.mono hy.out hB.out.size))
    by_cases hlt5 : k < 5
    case neg =>
      go_wp2
      go_ret
      exact ⟨rfl, hBr.out⟩
    obtain ⟨ak, an, at', ap, am, ac, als, bk, bn, bt, bp, bm, bc, bls, a0, a1, a2, a3, a4, a5, a6, a7, hLa, hLb⟩ := hP.out k hlt5
    have hO' := hOa.out.below hy.out hOa.out.lt
    have f0 := (hO'.cell (k * 8)).trans a0
    have f1 := (hO'.cell (k * 8 + 1)).trans a1
    have f2 := (hO'.cell (k * 8 + 2)).trans a2
    have f3 := (hO'.cell (k * 8 + 3)).trans a3
    have f4 := (hO'.cell (k * 8 + 4)).trans a4
    have f5 := (hO'.cell (k * 8 + 5)).trans a5
    have f6 := (hO'.cell (k * 8 + 6)).trans a6
    have f7 := (hO'.cell (k * 8 + 7)).trans a7
    have hfl := hO'.lt
    have n0 : (0 : Int) ≤ (k : Int) := by omega
    have n1 : (k : Int) < 5 := by omega
    replace hLa := Lib.hid hLa
    replace hLb := Lib.hid hLb
    have hyr : Hid (Beyond wr ((((((wr.alloc (.cells #[.int .i64 ak, .int .i64 an, .string at', .slice ap am ac, .int .i64 bk, .int .i64 bn, .string bt, .slice bp bm bc] 45)).alloc (.cells #[.string ⟨#[120]⟩, .int .i64 ak, .int .i64 an, .string at', .slice ap am ac] 50)).alloc (.cells #[.string ⟨#[117, 115, 101, 114]⟩, .string ⟨#[117]⟩, .slice (some ⟨wr.heap.size + 1, 0, none⟩) 1 1] 53)).alloc (.cells #[.slice (some ⟨wr.heap.size + 1 + 1, 0, none⟩) 1 1] 25)).alloc (.cells #[.int .i64 bk, .int .i64 bn, .string bt, .slice bp bm bc] 43)).alloc (.cells #[.int .i64 op, .string ⟨#[117, 115, 101, 114]⟩, .string ⟨#[120]⟩, .slice (some ⟨wr.heap.size + 1 + 1 + 1 + 1, 0, none⟩) 1 1, .slice none 0 0] 29))) := Lib.hid (by repeat (first | exact Beyond.refl _ | apply Beyond.alloc))
    have o1 := Lib.hid (((((Own.new wr #[.int .i64 ak, .int .i64 an, .string at', .slice ap am ac, .int .i64 bk, .int .i64 bn, .string bt, .slice bp bm bc] 45).alloc (.cells #[.string ⟨#[120]⟩, .int .i64 ak, .int .i64 an, .string at', .slice ap am ac] 50)).alloc (.cells #[.string ⟨#[117, 115, 101, 114]⟩, .string ⟨#[117]⟩, .slice (some ⟨wr.heap.size + 1, 0, none⟩) 1 1] 53)).alloc (.cells #[.slice (some ⟨wr.heap.size + 1 + 1, 0, none⟩) 1 1] 25)).alloc (.cells #[.int .i64 bk, .int .i64 bn, .string bt, .slice bp bm bc] 43) |>.alloc (.cells #[.int .i64 op, .string ⟨#[117, 115, 101, 114]⟩, .string ⟨#[120]⟩, .slice (some ⟨wr.heap.size + 1 + 1 + 1 + 1, 0, none⟩) 1 1, .slice none 0 0] 29))
    have o2 := Lib.hid ((((Own.new' (w := wr.alloc (.cells #[.int .i64 ak, .int .i64 an, .string at', .slice ap am ac, .int .i64 bk, .int .i64 bn, .string bt, .slice bp bm bc] 45)) (n := wr.heap.size + 1) (A := #[.string ⟨#[120]⟩, .int .i64 ak, .int .i64 an, .string at', .slice ap am ac]) (t := 50) (by simp)).alloc (.cells #[.string ⟨#[117, 115, 101, 114]⟩, .string ⟨#[117]⟩, .slice (some ⟨wr.heap.size + 1, 0, none⟩) 1 1] 53)).alloc (.cells #[.slice (some ⟨wr.heap.size + 1 + 1, 0, none⟩) 1 1] 25)).alloc (.cells #[.int .i64 bk, .int .i64 bn, .string bt, .slice bp bm bc] 43) |>.alloc (.cells #[.int .i64 op, .string ⟨#[117, 115, 101, 114]⟩, .string ⟨#[120]⟩, .slice (some ⟨wr.heap.size + 1 + 1 + 1 + 1, 0, none⟩) 1 1, .slice none 0 0] 29))
    have o3 := Lib.hid (((Own.new' (w := (wr.alloc (.cells #[.int .i64 ak, .int .i64 an, .string at', .slice ap am ac, .int .i64 bk, .int .i64 bn, .string bt, .slice bp bm bc] 45)).alloc (.cells #[.string ⟨#[120]⟩, .int .i64 ak, .int .i64 an, .string at', .slice ap am ac] 50)) (n := wr.heap.size + 1 + 1) (A := #[.string ⟨#[117, 115, 101, 114]⟩, .string ⟨#[117]⟩, .slice (some ⟨wr.heap.size + 1, 0, none⟩) 1 1]) (t := 53) (by simp)).alloc (.cells #[.slice (some ⟨wr.heap.size + 1 + 1, 0, none⟩) 1 1] 25)).alloc (.cells #[.int .i64 bk, .int .i64 bn, .string bt, .slice bp bm bc] 43) |>.alloc (.cells #[.int .i64 op, .string ⟨#[117, 115, 101, 114]⟩, .string ⟨#[120]⟩, .slice (some ⟨wr.heap.size + 1 + 1 + 1 + 1, 0, none⟩) 1 1, .slice none 0 0] 29))
    have o4 := Lib.hid ((Own.new' (w := ((wr.alloc (.cells #[.int .i64 ak, .int .i64 an, .string at', .slice ap am ac, .int .i64 bk, .int .i64 bn, .string bt, .slice bp bm bc] 45)).alloc (.cells #[.string ⟨#[120]⟩, .int .i64 ak, .int .i64 an, .string at', .slice ap am ac] 50)).alloc (.cells #[.string ⟨#[117, 115, 101, 114]⟩, .string ⟨#[117]⟩, .slice (some ⟨wr.heap.size + 1, 0, none⟩) 1 1] 53)) (n := wr.heap.size + 1 + 1 + 1) (A := #[.slice (some ⟨wr.heap.size + 1 + 1, 0, none⟩) 1 1]) (t := 25) (by simp)).alloc (.cells #[.int .i64 bk, .int .i64 bn, .string bt, .slice bp bm bc] 43) |>.alloc (.cells #[.int .i64 op, .string ⟨#[117, 115, 101, 114]⟩, .string ⟨#[120]⟩, .slice (some ⟨wr.heap.size + 1 + 1 + 1 + 1, 0, none⟩) 1 1, .slice none 0 0] 29))
    have o5 := Lib.hid (Own.new' (w := (((wr.alloc (.cells #[.int .i64 ak, .int .i64 an, .string at', .slice ap am ac, .int .i64 bk, .int .i64 bn, .string bt, .slice bp bm bc] 45)).alloc (.cells #[.string ⟨#[120]⟩, .int .i64 ak, .int .i64 an, .string at', .slice ap am ac] 50)).alloc (.cells #[.string ⟨#[117, 115, 101, 114]⟩, .string ⟨#[117]⟩, .slice (some ⟨wr.heap.size + 1, 0, none⟩) 1 1] 53)).alloc (.cells #[.slice (some ⟨wr.heap.size + 1 + 1, 0, none⟩) 1 1] 25)) (n := wr.heap.size + 1 + 1 + 1 + 1) (A := #[.int .i64 bk, .int .i64 bn, .string bt, .slice bp bm bc]) (t := 43) (by simp) |>.alloc (.cells #[.int .i64 op, .string ⟨#[117, 115, 101, 114]⟩, .string ⟨#[120]⟩, .slice (some ⟨wr.heap.size + 1 + 1 + 1 + 1, 0, none⟩) 1 1, .slice none 0 0] 29))
    have o6 := Lib.hid (Own.new' (w := ((((wr.alloc (.cells #[.int .i64 ak, .int .i64 an, .string at', .slice ap am ac, .int .i64 bk, .int .i64 bn, .string bt, .slice bp bm bc] 45)).alloc (.cells #[.string ⟨#[120]⟩, .int .i64 ak, .int .i64 an, .string at', .slice ap am ac] 50)).alloc (.cells #[.string ⟨#[117, 115, 101, 114]⟩, .string ⟨#[117]⟩, .slice (some ⟨wr.heap.size + 1, 0, none⟩) 1 1] 53)).alloc (.cells #[.slice (some ⟨wr.heap.size + 1 + 1, 0, none⟩) 1 1] 25)).alloc (.cells #[.int .i64 bk, .int .i64 bn, .string bt, .slice bp bm bc] 43)) (n := wr.heap.size + 1 + 1 + 1 + 1 + 1) (A := #[.int .i64 op, .string ⟨#[117, 115, 101, 114]⟩, .string ⟨#[120]⟩, .slice (some ⟨wr.heap.size + 1 + 1 + 1 + 1, 0, none⟩) 1 1, .slice none 0 0]) (t := 29) (by simp))
    clear a0 a1 a2 a3 a4 a5 a6 a7 hO'
    go_wp2_with fail
    generalize ((((((wr.alloc (.cells #[.int .i64 ak, .int .i64 an, .string at', .slice ap am ac, .int .i64 bk, .int .i64 bn, .string bt, .slice bp bm bc] 45)).alloc (.cells #[.string ⟨#[120]⟩, .int .i64 ak, .int .i64 an, .string at', .slice ap am ac] 50)).alloc (.cells #[.string ⟨#[117, 115, 101, 114]⟩, .string ⟨#[117]⟩, .slice (some ⟨wr.heap.size + 1, 0, none⟩) 1 1] 53)).alloc (.cells #[.slice (some ⟨wr.heap.size + 1 + 1, 0, none⟩) 1 1] 25)).alloc (.cells #[.int .i64 bk, .int .i64 bn, .string bt, .slice bp bm bc] 43)).alloc (.cells #[.int .i64 op, .string ⟨#[117, 115, 101, 114]⟩, .string ⟨#[120]⟩, .slice (some ⟨wr.heap.size + 1 + 1 + 1 + 1, 0, none⟩) 1 1, .slice none 0 0] 29)) = wi at hyr o1 o2 o3 o4 o5 o6 ⊢
    obtain ⟨H, hH⟩ : ∃ g : Nat, Hid (g = wr.heap.size) := ⟨_, Lib.hid rfl⟩
    rw [← hH.out] at o1 o2 o3 o4 o5 o6 ⊢
    clear f0 f1 f2 f3 f4 f5 f6 f7 hfl
    have hKi := Lib.hid (show OW wb wi H ak an at' ap am ac bk bn bt bp bm bc op (.slice (some ⟨H + 1 + 1 + 1 + 1, 0, none⟩) 1 1) from ⟨Beyond.next hyr.out hy.out, o1.out, o2.out, o3.out, o4.out, o6.out, by rw [hH.out]; exact hy.out.size⟩)
    clear o1 o2 o3 o4 o6 hyr hy

    obtain ⟨j0, hi, hz0, hz1, hz2⟩ := info_parts info43
    have hSb := Lib.hid (hKi.out.sub hLa.out)
    have hVs := Lib.hid (rows_of_own o5.out 4 [VD.row ⟨bk, bn, bt, bp, bm, bc, bls⟩] (by simp [VD.row]) rfl 1 (by simp) (by decide))
    have hLs := Lib.hid (fun (v : VD) (hv : v ∈ [(⟨bk, bn, bt, bp, bm, bc, bls⟩ : VD)]) => (show LAt wi.cell? v by obtain rfl := List.mem_singleton.1 hv; exact hLb.out.mono (sub_of_below hKi.out.low)))
    have hTi := Lib.hid (hTb.out.below hKi.out.low)
    have cP := Lib.hid (fun (dq : Nat) (os : Array Obj) => Calls.regrown_of (clTest_any [opCt H ak an at' ap am ac als] (some ⟨H + 1 + 1, 0, none⟩) 1 1 op ⟨#[117, 115, 101, 114]⟩ ⟨#[120]⟩ (some ⟨H + 1 + 1 + 1 + 1, 0, none⟩) 1 1 none 0 0 [⟨bk, bn, bt, bp, bm, bc, bls⟩] (Sort.grow (redrawn wi dq) os) (hSb.out.mono (sub_of_below (below_regrown wi dq os))) (hVs.out.mono (sub_of_below (below_regrown wi dq os))) (fun v hv => (hLs.out v hv).mono (sub_of_below (below_regrown wi dq os))) (hTi.out.below (below_regrown wi dq os))))
    have cR := Lib.hid (fun (dq : Nat) (os : Array Obj) => Calls.regrown_of (clTest_ref [opCt H ak an at' ap am ac als] (some ⟨H + 1 + 1, 0, none⟩) 1 1 op ⟨#[117, 115, 101, 114]⟩ ⟨#[120]⟩ (some ⟨H + 1 + 1 + 1 + 1, 0, none⟩) 1 1 none 0 0 [⟨bk, bn, bt, bp, bm, bc, bls⟩] (Sort.grow (redrawn wi dq) os) (hSb.out.mono (sub_of_below (below_regrown wi dq os))) (hVs.out.mono (sub_of_below (below_regrown wi dq os))) (fun v hv => (hLs.out v hv).mono (sub_of_below (below_regrown wi dq os))) (hTi.out.below (below_regrown wi dq os))))
    generalize testS [opCt H ak an at' ap am ac als] op ⟨#[117, 115, 101, 114]⟩ ⟨#[120]⟩ [⟨bk, bn, bt, bp, bm, bc, bls⟩] = bb at cP cR
    have s0 := hKi.out.sb.cell 0
    simp only [List.getElem?_toArray, List.getElem?_cons_zero] at s0
    obtain ⟨e0, e1, e2, e3, e4⟩ := own5z hKi.out.ex
    have k0 := cell_regrown s0
    have k1 := cell_regrown e0
    have k2 := cell_regrown e1
    have k3 := cell_regrown e2
    have k4 := cell_regrown e3
    have k5 := cell_regrown e4
    clear s0 e0 e1 e2 e3 e4 hSb hVs hLs hTi
    go_wp2_with fail
    refine wp_region_quiet_below (by kernel_rfl) (by kernel_rfl) ?_
    repeat (go_big_quiet_step (first | (with_reducible exact cP.out _ _) | (with_reducible exact cR.out _ _)))
    refine wpQuiet_nil ?_
    intro _ hw'
    obtain ⟨⟨dq, osq⟩, hw''⟩ := hw'
    subst hw''
    have hKz := Lib.hid (hKi.out.next (below_regrown wi dq osq))
    have o5z := Lib.hid (o5.out.below (below_regrown wi dq osq) o5.out.lt)
    clear cP cR k0 k1 k2 k3 k4 k5 o5 hKi
    generalize Sort.grow (redrawn wi dq) osq = wz at hKz o5z ⊢
    have hrow := Lib.hid (show wz.ownsRow H 43 4 (.slice (some ⟨H + 1 + 1 + 1 + 1, 0, none⟩) 1 1) 1 [.int .i64 bk, .int .i64 bn, .string bt, .slice bp bm bc] from ⟨by simp, .inr ⟨H + 1 + 1 + 1 + 1, 1, #[.int .i64 bk, .int .i64 bn, .string bt, .slice bp bm bc], rfl, by omega, o5z.out, Nat.le_refl _, by decide, rfl, rfl⟩⟩)
    have hHz : H + 1 + 1 + 1 + 1 + 1 < wz.heap.size := hKz.out.ex.lt
    have hpl : H < wz.heap.size := by omega
    obtain ⟨e0, e1, e2, e3, e4⟩ := own5z hKz.out.ex
    have p0 := hKz.out.pr.cell 0
    have p1 := hKz.out.pr.cell 1
    have p2 := hKz.out.pr.cell 2
    have p3 := hKz.out.pr.cell 3
    simp only [List.getElem?_toArray, List.getElem?_cons_zero, List.getElem?_cons_succ] at p0 p1 p2 p3
    clear o5z
    cases bb
    all_goals
      go_wp2_with (at_builtin; refine wpList_append_lies _ rfl _ _ 26 rfl H 43 j0 (.agg #[.int .i64 0, .int .i64 0, .string ⟨#[]⟩, .slice none 0 0]) 4 56 Tryz.underlying26 hi hz0 hz1 hz2 rfl (by decide) (.slice (some ⟨H + 1 + 1 + 1 + 1, 0, none⟩) 1 1) 1 [.int .i64 bk, .int .i64 bn, .string bt, .slice bp bm bc] rfl (hrow.out.alloc _) ⟨wz.heap.size, 0, none⟩ 1 1 [.int .i64 ak, .int .i64 an, .string at', .slice ap am ac] rfl rfl (World.news_of_block (cs := #[.int .i64 ak, .int .i64 an, .string at', .slice ap am ac]) (t := 43) (fr := (0, 0)) (Own.new' rfl)) (by simp [Value.oneCell']) (by omega) (by unfold maxLen; omega) (by omega) (by simp; omega) (wz.heap.size + 1) (by simp) ?_; intro g cap w6 hown6 hgrow6 hat6 hgl6; have hK6 := Lib.hid ((hKz.out.next (Beyond.alloc (Beyond.refl wz) (.cells #[.int .i64 ak, .int .i64 an, .string at', .slice ap am ac] 43))).grow hgrow6); replace hown6 := Lib.hid hown6; replace hat6 := Lib.hid hat6; clear hgrow6; have q3 := hK6.out.ex.cell 3; have z3 := hK6.out.ex.free 3; have hHw : H + 1 + 1 + 1 + 1 + 1 < w6.heap.size := hK6.out.ex.lt; simp only [List.getElem?_toArray, List.getElem?_cons_zero, List.getElem?_cons_succ] at q3)
      have hKj := Lib.hid (hK6.out.setV (.slice (some ⟨g, 0, none⟩) 2 cap))
      have hgne : g ≠ H + 1 + 1 + 1 + 1 + 1 := by
        rcases hat6.out with h | h
        · have e : H + 1 + 1 + 1 + 1 = g := by simpa [Value.ownBlock] using h
          omega
        · omega
      have hrj := Lib.hid (rows_of_owns (owns_put hown6.out (p := ⟨H + 1 + 1 + 1 + 1 + 1, 3, none⟩) hgne (.slice (some ⟨g, 0, none⟩) 2 cap)) [VD.row ⟨bk, bn, bt, bp, bm, bc, bls⟩, VD.row ⟨ak, an, at', ap, am, ac, als⟩] rfl (by simp [VD.row]) rfl)
      have hSb := Lib.hid (hKj.out.sub hLa.out)
      have hLs := Lib.hid (fun (u : World) (hb : Beyond (w6.setCell ⟨H + 1 + 1 + 1 + 1 + 1, 3, none⟩ (.slice (some ⟨g, 0, none⟩) 2 cap)) u) (v : VD) (hv : v ∈ [(⟨bk, bn, bt, bp, bm, bc, bls⟩ : VD), ⟨ak, an, at', ap, am, ac, als⟩]) => (show LAt u.cell? v by
        rcases List.mem_cons.1 hv with rfl | hv
        · exact hLb.out.mono (sub_of_below (Beyond.next hb hKj.out.low))
        · obtain rfl := List.mem_singleton.1 hv
          exact hLa.out.mono (sub_of_below (Beyond.next hb hKj.out.low))))
      have hTj := Lib.hid (hTb.out.below hKj.out.low)
      clear hK6 hown6 hat6 p0 p1 p2 p3 e0 e1 e2 e3 e4 hKz hrow
      have sj := hKj.out.sb.cell 0
      simp only [List.getElem?_toArray, List.getElem?_cons_zero] at sj
      obtain ⟨e0, e1, e2, e3, e4⟩ := own5z hKj.out.ex
      go_wp2_with fail
      generalize w6.setCell ⟨H + 1 + 1 + 1 + 1 + 1, 3, none⟩ (.slice (some ⟨g, 0, none⟩) 2 cap) = wj at hKj hrj hSb hLs hTj sj e0 e1 e2 e3 e4 ⊢
      have cP := Lib.hid (fun (dq : Nat) (os : Array Obj) => Calls.regrown_of (clTest_any [opCt H ak an at' ap am ac als] (some ⟨H + 1 + 1, 0, none⟩) 1 1 op ⟨#[117, 115, 101, 114]⟩ ⟨#[120]⟩ (some ⟨g, 0, none⟩) 2 cap none 0 0 [⟨bk, bn, bt, bp, bm, bc, bls⟩, ⟨ak, an, at', ap, am, ac, als⟩] (Sort.grow (redrawn wj dq) os) (hSb.out.mono (sub_of_below (below_regrown wj dq os))) (hrj.out.mono (sub_of_below (below_regrown wj dq os))) (fun v hv => hLs.out _ (below_regrown wj dq os) v hv) (hTj.out.below (below_regrown wj dq os))))
      have cR := Lib.hid (fun (dq : Nat) (os : Array Obj) => Calls.regrown_of (clTest_ref [opCt H ak an at' ap am ac als] (some ⟨H + 1 + 1, 0, none⟩) 1 1 op ⟨#[117, 115, 101, 114]⟩ ⟨#[120]⟩ (some ⟨g, 0, none⟩) 2 cap none 0 0 [⟨bk, bn, bt, bp, bm, bc, bls⟩, ⟨ak, an, at', ap, am, ac, als⟩] (Sort.grow (redrawn wj dq) os) (hSb.out.mono (sub_of_below (below_regrown wj dq os))) (hrj.out.mono (sub_of_below (below_regrown wj dq os))) (fun v hv => hLs.out _ (below_regrown wj dq os) v hv) (hTj.out.below (below_regrown wj dq os))))
      generalize testS [opCt H ak an at' ap am ac als] op ⟨#[117, 115, 101, 114]⟩ ⟨#[120]⟩ [⟨bk, bn, bt, bp, bm, bc, bls⟩, ⟨ak, an, at', ap, am, ac, als⟩] = b2 at cP cR
      have k0 := cell_regrown sj
      have k1 := cell_regrown e0
      have k2 := cell_regrown e1
      have k3 := cell_regrown e2
      have k4 := cell_regrown e3
      have k5 := cell_regrown e4
      clear sj e0 e1 e2 e3 e4 hSb hLs hTj hrj
      refine wp_region_quiet_below (by kernel_rfl) (by kernel_rfl) ?_
      repeat (go_big_quiet_step (first | (with_reducible exact cP.out _ _) | (with_reducible exact cR.out _ _)))
      refine wpQuiet_nil ?_
      intro _ hw'
      obtain ⟨⟨dq, osq⟩, hw''⟩ := hw'
      subst hw''
      have hyn := Lib.hid (Beyond.next (below_regrown wj dq osq) hKj.out.low)
      clear cP cR k0 k1 k2 k3 k4 k5 hKj
      generalize Sort.grow (redrawn wj dq) osq = wn at hyn ⊢
      cases b2
      all_goals
        go_wp2
        go_roundw
        case rel => exact ⟨k + 1, by omega, by go_num, hyn⟩
        case measure => simp [intOf]; omega

end Go.Proofs.YtlohdmghaeabjaaGreatDoor.clause

