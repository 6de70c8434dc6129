/- What the value of events is by a metric, said plainly; the program's Value. -/
import Derived.Test.YtnghpjijfdpmkaaDoorMetX
import Derived.Test.YtnghpjijfdpmkaaDoorMetD
import Derived.Test.YtnghpjijfdpmkaaDoorMetT
import Derived.Deep.RegionHeld3
import Derived.Deep.DeepCutAuto
import Derived.IntWalk
namespace Go.Proofs.YtnghpjijfdpmkaaDoor.metric
open Go.RowKit Go.Proofs.YtnghpjijfdpmkaaDoor Go.Proofs.YtnghpjijfdpmkaaDoor.text

/-- What an event adds. -/
def addM (m : MV) (e : EV) : Int := if e.name.data.toList = m.name ∧ m.least ≤ e.value then (if m.k = 1 ∨ m.k = 4 then e.value else 1) else 0
def belM (m : MV) (e : EV) : Int := if m.k = 4 ∧ e.name.data.toList = m.below then e.value else 0
def tot (f : EV → Int) (E : List EV) : Int := E.foldl (fun a e => a + f e) 0
theorem tot_snoc (f : EV → Int) (E : List EV) (e : EV) : tot f (E ++ [e]) = tot f E + f e := by unfold tot; rw [List.foldl_append]; rfl
def Small (E : List EV) : Prop := ∀ e ∈ E, -1099511627776 ≤ e.value ∧ e.value ≤ 1099511627776
theorem tot_bd (f : EV → Int) (B : Int) : ∀ (E : List EV), (∀ e ∈ E, -B ≤ f e ∧ f e ≤ B) → -(B * E.length) ≤ tot f E ∧ tot f E ≤ B * E.length := by
  intro E
  suffices h : ∀ (E : List EV) (a : Int), (∀ e ∈ E, -B ≤ f e ∧ f e ≤ B) → a - B * E.length ≤ E.foldl (fun a e => a + f e) a ∧ E.foldl (fun a e => a + f e) a ≤ a + B * E.length by
    intro hE
    have := h E 0 hE
    unfold tot
    omega
  intro E
  induction E with
  | nil => intro a _; simp
  | cons e r ih =>
    intro a hE
    have h1 := hE e (by simp)
    have h2 := ih (a + f e) (fun x hx => hE x (by simp [hx]))
    simp only [List.foldl_cons, List.length_cons]
    have h3 : B * ((r.length + 1 : Nat) : Int) = B * r.length + B := by
      rw [Int.natCast_add, Int.mul_add]; simp
    rw [h3]
    omega
theorem addM_bd (m : MV) (e : EV) (h : -1099511627776 ≤ e.value ∧ e.value ≤ 1099511627776) : -1099511627776 ≤ addM m e ∧ addM m e ≤ 1099511627776 := by
  unfold addM; split
  · split <;> omega
  · omega
theorem belM_bd (m : MV) (e : EV) (h : -1099511627776 ≤ e.value ∧ e.value ≤ 1099511627776) : -1099511627776 ≤ belM m e ∧ belM m e ≤ 1099511627776 := by
  unfold belM; split <;> omega
theorem tot_small (f : EV → Int) (E : List EV) (hl : E.length ≤ 100000) (h : ∀ e ∈ E, -1099511627776 ≤ f e ∧ f e ≤ 1099511627776) : -200000000000000000 ≤ tot f E ∧ tot f E ≤ 200000000000000000 := by
  have h1 := tot_bd f 1099511627776 E h
  have h2 : (E.length : Int) ≤ 100000 := by omega
  have h3 : (0 : Int) ≤ (E.length : Int) := Int.natCast_nonneg _
  omega
def limI (n cap : Int) : Int := max 0 (min n cap)
def msE (E : List EV) : List EV := E.filter fun e => decide (e.kind = 2)
theorem keepL_row (E : List EV) : keepL (rowF E) E.length = msE E := by
  unfold keepL msE
  congr 1
  apply List.ext_getElem
  · simp
  · intro i h1 h2
    simp only [List.getElem_map, List.getElem_range]
    unfold rowF
    rw [List.getD_eq_getElem?_getD, List.getElem?_eq_getElem h2]
    rfl
def valM (m : MV) (E : List EV) : Value := if chkM m = 0 then .tuple #[.int .i64 (limI (tot (addM m) (msE E)) m.cap), .int .i64 (limI (tot (belM m) (msE E)) m.cap)] else .tuple #[.int .i64 0, .int .i64 0]

theorem lim_any (n cap : Int) (b : Nat) (u : World) (h : u.cell? ⟨b, 4, none⟩ = some (.int .i64 cap)) : Calls Tryd.prog 50 #[.int .i64 n, .pointer (some ⟨b, 0, none⟩)] u fun r u' => r = .returned (.int .i64 (limI n cap)) ∧ u' = u := by
  go_enter Tryd.func50, Tryd.ntmps50
  go_wp2
  go_ret
  exact ⟨rfl, rfl⟩
theorem sum_fn (e : EV) (u : World) : Calls Tryd.prog 64 #[evV e] u fun r u' => r = .returned (.int .i64 e.value) ∧ Below u.heap.size u u' := by
  go_enter Tryd.func64, Tryd.ntmps64
  go_wp2
  go_ret
  exact ⟨rfl, (Below.refl _ _).alloc (Nat.le_refl _) _⟩
theorem one_fn (e : EV) (u : World) : Calls Tryd.prog 65 #[evV e] u fun r u' => r = .returned (.int .i64 1) ∧ Below u.heap.size u u' := by
  go_enter Tryd.func65, Tryd.ntmps65
  go_wp2
  go_ret
  first
    | exact ⟨rfl, Below.refl _ _⟩
    | exact ⟨rfl, (Below.refl _ _).alloc (Nat.le_refl _) _⟩
set_option maxRecDepth 100000 in
theorem delete_nil (u : World) : Calls Tryd.prog 47 #[.slice none 0 0, .func (.func 49) #[] #[]] u fun r u' => r = .returned (.slice none 0 0) ∧ u' = u := by
  have hI : Calls Tryd.prog 69 #[.slice none 0 0, .func (.func 49) #[] #[]] u fun r u' => r = .returned (.int .i64 (-1)) ∧ u' = u := by
    go_enter Tryd.func69, Tryd.ntmps69
    go_wp2
    go_loopw [8] (fun s8 wr => s8 = .int .i64 0 ∧ wr = u) (fun _ _ => 0)
    case atStart => exact ⟨rfl, rfl⟩
    case round =>
      obtain ⟨rfl, rfl⟩ := hrel
      go_wp2
      go_ret
      exact ⟨rfl, rfl⟩
  go_enter Tryd.func47, Tryd.ntmps47
  go_wp2_with fail
  refine hI.mono ?_
  rintro e w1 ⟨rfl, rfl⟩
  go_wp2
  go_ret
  exact ⟨rfl, rfl⟩
/-- The measures among events, as the program keeps them. -/
def KeptIs (E : List EV) (u : World) (r : Ending) (u' : World) : Prop := ∃ a c, r = .returned (.slice a (msE E).length c) ∧ EvsAt u'.cell? a (msE E) ∧ Below u.heap.size u u'

/-- The events that stay are read one by one: the cells of the k-th. -/
theorem EvsAt.cells {u : World} {a : Option Addr} {E : List EV} (h : EvsAt u.cell? a E) {k : Nat} {e : EV} (hk : E[k]? = some e) : ∃ blk off, a = some ⟨blk, off, none⟩ ∧ blk < u.heap.size ∧
    u.cell? ⟨blk, off + k * 10, none⟩ = some (.string e.client) ∧ u.cell? ⟨blk, off + k * 10 + 1, none⟩ = some (.int .i64 e.seq) ∧ u.cell? ⟨blk, off + k * 10 + 2, none⟩ = some (.int .i64 e.kind) ∧ u.cell? ⟨blk, off + k * 10 + 3, none⟩ = some (.int .i64 e.time) ∧ u.cell? ⟨blk, off + k * 10 + 4, none⟩ = some (.string e.id) ∧
    u.cell? ⟨blk, off + k * 10 + 5, none⟩ = some (.string e.name) ∧ u.cell? ⟨blk, off + k * 10 + 6, none⟩ = some (.string e.other) ∧ u.cell? ⟨blk, off + k * 10 + 7, none⟩ = some (.int .i64 e.version) ∧ u.cell? ⟨blk, off + k * 10 + 8, none⟩ = some (.int .i64 e.arm) ∧ u.cell? ⟨blk, off + k * 10 + 9, none⟩ = some (.int .i64 e.value) := by
  rcases h with rfl | ⟨blk, off, ha, hc⟩
  · cases hk
  · have h1 := hc k e hk
    have h0 : u.cell? ⟨blk, off + k * 10, none⟩ = some (.string e.client) := h1 0 (by omega)
    exact ⟨blk, off, ha, World.block_lt_of_cell? u _ h0, h0, h1 1 (by omega), h1 2 (by omega), h1 3 (by omega), h1 4 (by omega), h1 5 (by omega), h1 6 (by omega), h1 7 (by omega), h1 8 (by omega), h1 9 (by omega)⟩
theorem EvsAt.below {u v : World} {a : Option Addr} {E : List EV} (h : EvsAt u.cell? a E) (hb : Below u.heap.size u v) : EvsAt v.cell? a E := by
  rcases h with h | ⟨blk, off, ha, hc⟩
  · exact Or.inl h
  · refine Or.inr ⟨blk, off, ha, fun i e he j hj => ?_⟩
    have h1 := hc i e he j hj
    have h2 : j < (evA e).size := hj
    rw [Array.getElem?_eq_getElem h2] at h1 ⊢
    exact sub_of_below hb _ _ h1
theorem take_at (E : List EV) {k : Nat} (hk : k < E.length) : E.take (k + 1) = E.take k ++ [E[k]] := by
  rw [List.take_succ_eq_append_getElem hk]
/-- What holds at the head of a round of the sum. -/
structure VSum (m : MV) (w wr : World) (a : Option Addr) (F : List EV) (k : Nat) (s t : ByteArray) (x y : Int) : Prop where
  box : Own wr w.heap.size #[.int .i64 m.k, .string s, .string t, .int .i64 m.win, .int .i64 m.cap, .int .i64 m.least, .int .i64 m.before] 29
  below : Below w.heap.size w wr
  evs : EvsAt wr.cell? a F
  x : x = tot (addM m) (F.take k)
  y : y = tot (belM m) (F.take k)
theorem VSum.world {m : MV} {w wr wv : World} {a : Option Addr} {F : List EV} {k : Nat} {s t : ByteArray} {x y : Int} (h : VSum m w wr a F k s t x y) (hb : Below wr.heap.size wr wv) : VSum m w wv a F k s t x y :=
  ⟨h.box.below hb h.box.lt, h.below.trans (hb.mono h.below.size), h.evs.below hb, h.x, h.y⟩
theorem VSum.next {m : MV} {w wr : World} {a : Option Addr} {F : List EV} {k : Nat} {s t : ByteArray} {x y x' y' : Int} (h : VSum m w wr a F k s t x y) (hk : k < F.length) (hx : x' = x + addM m F[k]) (hy : y' = y + belM m F[k]) : VSum m w wr a F (k + 1) s t x' y' :=
  ⟨h.box, h.below, h.evs, by rw [take_at F hk, tot_snoc, ← h.x]; exact hx, by rw [take_at F hk, tot_snoc, ← h.y]; exact hy⟩
theorem VSum.bds {m : MV} {w wr : World} {a : Option Addr} {F : List EV} {k : Nat} {s t : ByteArray} {x y : Int} (h : VSum m w wr a F k s t x y) (hl : F.length ≤ 100000) (hs : Small F) :
    (-200000000000000000 ≤ x ∧ x ≤ 200000000000000000) ∧ -200000000000000000 ≤ y ∧ y ≤ 200000000000000000 := by
  have hl2 : (F.take k).length ≤ 100000 := by rw [List.length_take]; omega
  rw [h.x, h.y]
  exact ⟨tot_small _ _ hl2 fun e he => addM_bd m e (hs e (List.mem_of_mem_take he)), tot_small _ _ hl2 fun e he => belM_bd m e (hs e (List.mem_of_mem_take he))⟩
theorem msE_small {E : List EV} (h : Small E) : Small (msE E) := fun e he => h e (List.mem_filter.1 he).1
theorem msE_len (E : List EV) : (msE E).length ≤ E.length := List.length_filter_le _ _

set_option maxRecDepth 100000 in
theorem field_fn (x : ByteArray) (F : FuncId) (W : World) : (Instr.field 76 (.agg #[.string x, .func (Fn.func F) #[] #[]]) 1).run Tryd.prog W = .ok (.func (Fn.func F) #[] #[]) W := by
  simp [Instr.field, run_underlying Tryd.underlying76]
  rfl
theorem kind_fn {k : Int} (h : 1 ≤ k ∧ k ≤ 4) : ((k = 1 ∨ k = 4) ∧ ∃ nm, lookV k = .agg #[.string nm, .func (Fn.func 64) #[] #[]]) ∨ (¬ (k = 1 ∨ k = 4) ∧ ∃ nm, lookV k = .agg #[.string nm, .func (Fn.func 65) #[] #[]]) := by
  rcases (show k = 1 ∨ k = 2 ∨ k = 3 ∨ k = 4 by omega) with rfl | rfl | rfl | rfl
  · exact Or.inl ⟨by omega, _, rfl⟩
  · exact Or.inr ⟨by omega, _, rfl⟩
  · exact Or.inr ⟨by omega, _, rfl⟩
  · exact Or.inl ⟨by omega, _, rfl⟩
theorem blw_drewN {B : Nat} {a w : World} (h : Below B a w) (q : Nat) : Below B a (w.drewN q) := ⟨h.os, h.tape, h.output, h.size, h.block⟩
theorem cells11 {u : World} {b eb : Nat} {A : Array Value} {t t' : TypeId} {v : Value} {x0 x1 x2 x3 x4 x5 x6 x7 x8 x9 : Value} (h : Own u b A t) (hX : Own u eb #[x0, x1, x2, x3, x4, x5, x6, x7, x8, x9] t') (hv : A[0]? = some v) :
    u.cell? ⟨b, 0, none⟩ = some v ∧ u.cell? ⟨eb, 0, none⟩ = some x0 ∧ u.cell? ⟨eb, 1, none⟩ = some x1 ∧ u.cell? ⟨eb, 2, none⟩ = some x2 ∧ u.cell? ⟨eb, 3, none⟩ = some x3 ∧ u.cell? ⟨eb, 4, none⟩ = some x4 ∧ u.cell? ⟨eb, 5, none⟩ = some x5 ∧ u.cell? ⟨eb, 6, none⟩ = some x6 ∧ u.cell? ⟨eb, 7, none⟩ = some x7 ∧ u.cell? ⟨eb, 8, none⟩ = some x8 ∧ u.cell? ⟨eb, 9, none⟩ = some x9 :=
  ⟨(h.cell 0).trans hv, hX.cell 0, hX.cell 1, hX.cell 2, hX.cell 3, hX.cell 4, hX.cell 5, hX.cell 6, hX.cell 7, hX.cell 8, hX.cell 9⟩
theorem ret2 {a b : Value} (h : a = b) : Ending.returned a = Ending.returned b := by rw [h]

set_option maxRecDepth 100000 in
set_option maxHeartbeats 40000000 in
theorem value_p (m : MV) (s t : ByteArray) (a : Option Addr) (c : Nat) (E : List EV) (w : World) (hs : s.data.toList = m.name) (ht : t.data.toList = m.below) (hE : EvsAt w.cell? a E) (hn : E.length ≤ 100000) (ha : a = none → E = []) (hc : a = none → c = 0) (hsm : Small E) (hT : NTabs w) :
    Calls Tryd.prog 19 #[.agg #[.int .i64 m.k, .string s, .string t, .int .i64 m.win, .int .i64 m.cap, .int .i64 m.least, .int .i64 m.before], .slice a E.length c] w fun e w' => e = .returned (valM m E) ∧ Below w.heap.size w w' := by
  replace hT := Lib.hid hT
  have hO := Lib.hid (Own.new w #[.int .i64 m.k, .string s, .string t, .int .i64 m.win, .int .i64 m.cap, .int .i64 m.least, .int .i64 m.before] 29)
  have hB := Lib.hid (show Below w.heap.size w (w.alloc (.cells #[.int .i64 m.k, .string s, .string t, .int .i64 m.win, .int .i64 m.cap, .int .i64 m.least, .int .i64 m.before] 29)) from (Below.refl _ _).alloc (Nat.le_refl _) _)
  replace hs := Lib.hid hs
  replace ht := Lib.hid ht
  replace hE := Lib.hid hE
  replace hsm := Lib.hid hsm
  replace ha := Lib.hid ha
  replace hc := Lib.hid hc
  go_enter Tryd.func19, Tryd.ntmps19
  go_wp2_with fail
  refine (check_m m s t _ hs.out ht.out (hT.out.below hB.out)).mono ?_
  rintro e w1 ⟨rfl, hb1⟩
  have hO1 := Lib.hid (hO.out.below hb1 hO.out.lt)
  have hB1 := Lib.hid (hB.out.trans (hb1.mono hB.out.size))
  clear hb1 hO hB
  by_cases ea : chkM m = 0
  case neg =>
    have hQ := Lib.hid (show valM m E = .tuple #[.int .i64 0, .int .i64 0] by unfold valM; rw [if_neg ea])
    have e1 : (chkM m != 0) = true := by simp [ea]
    clear ea
    generalize chkM m = ck at e1 hQ ⊢
    go_wp2
    go_ret2
    exact ⟨ret2 hQ.out.symm, hB1.out⟩
  have hM := Lib.hid (mok ea)
  have hPV := Lib.hid (show valM m E = .tuple #[.int .i64 (limI (tot (addM m) (msE E)) m.cap), .int .i64 (limI (tot (belM m) (msE E)) m.cap)] by unfold valM; rw [if_pos ea])
  rw [ea]
  clear ea
  go_wp2_with fail
  refine (clone_any a c E w1 (hE.out.below hB1.out) hn ha.out hc.out).mono ?_
  rintro e w2 ⟨hb2, hcl⟩
  have hO2 := Lib.hid (hO1.out.below hb2 hO1.out.lt)
  have hB2 := Lib.hid (hB1.out.trans (hb2.mono hB1.out.size))
  have hz2 := Lib.hid hb2.size
  have hKept : ∀ v, e = .returned v → Calls Tryd.prog 47 #[v, .func (.func 49) #[] #[]] w2 (fun r u' => ∃ a' c', r = .returned (.slice a' (msE E).length c') ∧ VSum m w u' a' (msE E) 0 s t 0 0) := by
    intro v hv
    rcases hcl with ⟨h1, h2⟩ | ⟨g, cap, h1, h2, h3⟩
    · rw [h1] at hv
      injection hv with hv
      subst hv
      refine (delete_nil w2).mono ?_
      rintro r u' ⟨rfl, rfl⟩
      refine ⟨none, 0, by rw [h2]; rfl, hO2.out, hB2.out, by rw [h2]; exact Or.inl rfl, by rw [List.take_zero]; rfl, by rw [List.take_zero]; rfl⟩
    · rw [h1] at hv
      injection hv with hv
      subst hv
      refine (delete_any g cap E.length (rowF E) w2 h3).mono ?_
      rintro r u' ⟨rfl, h5, h6⟩
      rw [keepL_row] at h5 ⊢
      have hlt := hO1.out.lt
      have hBs := hB1.out.size
      exact ⟨some ⟨g, 0, none⟩, cap, rfl, hO2.out.below h6 (by omega), hB2.out.trans (h6.mono (by omega)), h5, by rw [List.take_zero]; rfl, by rw [List.take_zero]; rfl⟩
  obtain ⟨v2, rfl⟩ : ∃ v2, e = .returned v2 := by
    rcases hcl with ⟨h1, -⟩ | ⟨g, cap, h1, -⟩
    · exact ⟨_, h1⟩
    · exact ⟨_, h1⟩
  have hKept2 := Lib.hid (hKept v2 rfl)
  clear hKept hcl hb2 hO1 hB1
  go_wp2_with fail
  refine hKept2.out.mono ?_
  rintro e w3 ⟨a3, c3, rfl, hV⟩
  clear hKept2 hO2 hB2 hz2
  replace hV := Lib.hid hV
  have hl3 : (msE E).length ≤ 100000 := Nat.le_trans (msE_len E) hn
  have hs3 := Lib.hid (msE_small hsm.out)
  clear hE hn ha hc hsm
  generalize msE E = F at hV hl3 hs3 hPV ⊢
  go_wp2_with fail
  go_loopw [7, 8, 20] (fun s7 s8 s20 wr => ∃ (k : Nat) (x y : Int), k ≤ F.length ∧ s20 = .int .i64 k ∧ s7 = .int .i64 x ∧ s8 = .int .i64 y ∧ Hid (VSum m w wr a3 F k s t x y)) (fun _ _ s20 _ => F.length - (intOf s20).toNat)
  case atStart => exact ⟨0, 0, 0, Nat.zero_le _, rfl, rfl, rfl, hV⟩
  case round =>
    obtain ⟨k, x, y, hk, rfl, rfl, rfl, hV'⟩ := hrel
    clear hV
    by_cases hlt : k < F.length
    · obtain ⟨e0, he0⟩ : ∃ e0, Hid (e0 = F[k]) := ⟨_, Lib.hid rfl⟩
      have hke : F[k]? = some e0 := by rw [he0.out]; exact List.getElem?_eq_getElem hlt
      obtain ⟨blk, off, rfl, hblk, c0, c1, c2, c3', c4, c5, c6, c7, c8, c9⟩ := hV'.out.evs.cells hke
      obtain ⟨⟨x1, x2⟩, y1, y2⟩ := hV'.out.bds hl3 hs3.out
      have hev : -1099511627776 ≤ e0.value ∧ e0.value ≤ 1099511627776 := by rw [he0.out]; exact hs3.out _ (List.getElem_mem _)
      obtain ⟨v1, v2⟩ := hev
      clear hke
      have m0 : (0 : Int) ≤ (k : Int) := Int.natCast_nonneg _
      have m1 : (k : Int) < (F.length : Int) := by omega
      have hV1 := Lib.hid (hV'.out.world (wv := wr.alloc (.cells (evA e0) 40)) ((Below.refl _ _).alloc (Nat.le_refl _) _))
      have hX := Lib.hid (Own.new wr (evA e0) 40)
      have hwr := hV'.out.below.size
      obtain ⟨p0, p1, p2, p3, p4, p5, p6⟩ := box7 hV'.out.box
      have hbl := hV'.out.box.lt
      go_upto_region 8 with fail
      clear c0 c1 c2 c3' c4 c5 c6 c7 c8 c9 p0 p1 p2 p3 p4 p5 p6 hV'
      have hebl := Lib.hid (show wr.heap.size < (wr.alloc (.cells (evA e0) 40)).heap.size by simp)
      unfold evA at hV1 hX hebl
      generalize wr.alloc (.cells _ 40) = wx at hV1 hX hebl ⊢
      have hne : w.heap.size < wr.heap.size := hbl
      generalize wr.heap.size = eb at hX hebl hblk hwr hne ⊢
      clear hbl hblk hwr
      obtain ⟨p0, p1, p2, p3, p4, p5, p6⟩ := box7 hV1.out.box
      have x0 := hX.out.cell 0
      have x1' := hX.out.cell 1
      have x2' := hX.out.cell 2
      have x3 := hX.out.cell 3
      have x4 := hX.out.cell 4
      have x5 := hX.out.cell 5
      have x6 := hX.out.cell 6
      have x7 := hX.out.cell 7
      have x8 := hX.out.cell 8
      have x9 := hX.out.cell 9
      simp only [List.getElem?_toArray, List.getElem?_cons_zero, List.getElem?_cons_succ] at x0 x1' x2' x3 x4 x5 x6 x7 x8 x9
      have hxl : eb < wx.heap.size := hebl.out
      have hbx : w.heap.size < wx.heap.size := hV1.out.box.lt
      go_cut [35] (fun s35 wy => s35 = .bool (decide (e0.name = s ∧ m.least ≤ e0.value)) ∧ wy = wx)
      case first =>
        by_cases h1 : e0.name = s
        · have h2 := bytes_eqB h1
          by_cases h3 : m.least ≤ e0.value
          · have h4 := Lib.hid (show decide (e0.name = s ∧ m.least ≤ e0.value) = true from decide_eq_true ⟨h1, h3⟩)
            have h5 : decide (m.least ≤ e0.value) = true := by simpa using h3
            clear h1
            go_wp2
            go_meet
            exact ⟨congrArg Value.bool h4.out.symm, rfl⟩
          · have h4 := Lib.hid (show decide (e0.name = s ∧ m.least ≤ e0.value) = false from decide_eq_false (fun h => h3 h.2))
            have h5 : decide (m.least ≤ e0.value) = false := by simpa using h3
            clear h1
            go_wp2
            go_meet
            exact ⟨congrArg Value.bool h4.out.symm, rfl⟩
        · have h2 := bytes_neB h1
          have h4 := Lib.hid (show decide (e0.name = s ∧ m.least ≤ e0.value) = false from decide_eq_false (fun h => h1 h.1))
          clear h1
          go_wp2
          go_meet
          exact ⟨congrArg Value.bool h4.out.symm, rfl⟩
      obtain ⟨rfl, hwc⟩ := hcut
      subst hwc
      go_upto_if 35 with fail
      go_cut [7] (fun s7 wy => s7 = .int .i64 (x + addM m e0) ∧ Hid (VSum m w wy (some ⟨blk, off, none⟩) F k s t x y) ∧ Hid (Own wy eb #[.string e0.client, .int .i64 e0.seq, .int .i64 e0.kind, .int .i64 e0.time, .string e0.id, .string e0.name, .string e0.other, .int .i64 e0.version, .int .i64 e0.arm, .int .i64 e0.value] 40))
      case first =>
        by_cases hq : e0.name = s ∧ m.least ≤ e0.value
        · have hadd := Lib.hid (show addM m e0 = if m.k = 1 ∨ m.k = 4 then e0.value else 1 by unfold addM; rw [if_pos ⟨by rw [hq.1, hs.out], hq.2⟩])
          rw [decide_eq_true hq]
          clear hq
          go_upto_region 9 with fail
          rcases kind_fn hM.out.k with ⟨hk, nm, hF⟩ | ⟨hk, nm, hF⟩
          · have hadd2 := Lib.hid (show addM m e0 = e0.value by rw [hadd.out, if_pos hk])
            have hlk := Lib.hid (show (Instr.lookup 72 (.map (some wc.heap.size)) (.int .i64 m.k) false).run Tryd.prog (wc.alloc (.map kinds4 4)).drew = .ok (.agg #[.string nm, .func (Fn.func 64) #[] #[]]) (wc.alloc (.map kinds4 4)).drew by
              have := look_kind m.k (wc.alloc (.map kinds4 4)).drew wc.heap.size false (heap_alloc_new wc _)
              rw [this, hF]; rfl)
            have hfd := field_fn nm 64
            have hV3 := Lib.hid (show VSum m w (wc.alloc (.map kinds4 4)).drew (some ⟨blk, off, none⟩) F k s t x y from hV1.out.world (blw_drewN ((Below.refl _ _).alloc (Nat.le_refl _) _) 1))
            have hX3 := Lib.hid (show Own (wc.alloc (.map kinds4 4)).drew eb #[.string e0.client, .int .i64 e0.seq, .int .i64 e0.kind, .int .i64 e0.time, .string e0.id, .string e0.name, .string e0.other, .int .i64 e0.version, .int .i64 e0.arm, .int .i64 e0.value] 40 from (hX.out.alloc _).drew)
            clear hF hk hadd
            go_region_held3 (fun w' => w'.cell? ⟨w.heap.size, 0, none⟩ = some (.int .i64 m.k) ∧ w'.cell? ⟨eb, 0, none⟩ = some (.string e0.client) ∧ w'.cell? ⟨eb, 1, none⟩ = some (.int .i64 e0.seq) ∧ w'.cell? ⟨eb, 2, none⟩ = some (.int .i64 e0.kind) ∧ w'.cell? ⟨eb, 3, none⟩ = some (.int .i64 e0.time) ∧ w'.cell? ⟨eb, 4, none⟩ = some (.string e0.id) ∧ w'.cell? ⟨eb, 5, none⟩ = some (.string e0.name) ∧ w'.cell? ⟨eb, 6, none⟩ = some (.string e0.other) ∧ w'.cell? ⟨eb, 7, none⟩ = some (.int .i64 e0.version) ∧ w'.cell? ⟨eb, 8, none⟩ = some (.int .i64 e0.arm) ∧ w'.cell? ⟨eb, 9, none⟩ = some (.int .i64 e0.value)) (first | go_keep | exact cells11 hV4.out.box hX4.out rfl)
              (first
                | (go_at_call 36; refine (kinds_any _).mono ?_; rintro e u1 ⟨rfl, rfl⟩; have hlk1 := hlk.out)
                | (go_at_call 64; refine (sum_fn e0 _).mono ?_; rintro e u2 ⟨rfl, hb2⟩; have hV4 := Lib.hid (hV3.out.world hb2); have hX4 := Lib.hid (hX3.out.below hb2 hX3.out.lt); clear hb2))
            all_goals
              go_wp2_with fail
              go_meet
              exact ⟨by rw [hadd2.out]; exact congrArg (Value.int .i64) (IntWalk.i64_in _ (by omega)), hV4, hX4⟩
          · have hadd2 := Lib.hid (show addM m e0 = 1 by rw [hadd.out, if_neg hk])
            have hlk := Lib.hid (show (Instr.lookup 72 (.map (some wc.heap.size)) (.int .i64 m.k) false).run Tryd.prog (wc.alloc (.map kinds4 4)).drew = .ok (.agg #[.string nm, .func (Fn.func 65) #[] #[]]) (wc.alloc (.map kinds4 4)).drew by
              have := look_kind m.k (wc.alloc (.map kinds4 4)).drew wc.heap.size false (heap_alloc_new wc _)
              rw [this, hF]; rfl)
            have hfd := field_fn nm 65
            have hV3 := Lib.hid (show VSum m w (wc.alloc (.map kinds4 4)).drew (some ⟨blk, off, none⟩) F k s t x y from hV1.out.world (blw_drewN ((Below.refl _ _).alloc (Nat.le_refl _) _) 1))
            have hX3 := Lib.hid (show Own (wc.alloc (.map kinds4 4)).drew eb #[.string e0.client, .int .i64 e0.seq, .int .i64 e0.kind, .int .i64 e0.time, .string e0.id, .string e0.name, .string e0.other, .int .i64 e0.version, .int .i64 e0.arm, .int .i64 e0.value] 40 from (hX.out.alloc _).drew)
            clear hF hk hadd
            go_region_held3 (fun w' => w'.cell? ⟨w.heap.size, 0, none⟩ = some (.int .i64 m.k) ∧ w'.cell? ⟨eb, 0, none⟩ = some (.string e0.client) ∧ w'.cell? ⟨eb, 1, none⟩ = some (.int .i64 e0.seq) ∧ w'.cell? ⟨eb, 2, none⟩ = some (.int .i64 e0.kind) ∧ w'.cell? ⟨eb, 3, none⟩ = some (.int .i64 e0.time) ∧ w'.cell? ⟨eb, 4, none⟩ = some (.string e0.id) ∧ w'.cell? ⟨eb, 5, none⟩ = some (.string e0.name) ∧ w'.cell? ⟨eb, 6, none⟩ = some (.string e0.other) ∧ w'.cell? ⟨eb, 7, none⟩ = some (.int .i64 e0.version) ∧ w'.cell? ⟨eb, 8, none⟩ = some (.int .i64 e0.arm) ∧ w'.cell? ⟨eb, 9, none⟩ = some (.int .i64 e0.value)) (first | go_keep | exact cells11 hV4.out.box hX4.out rfl)
              (first
                | (go_at_call 36; refine (kinds_any _).mono ?_; rintro e u1 ⟨rfl, rfl⟩; have hlk1 := hlk.out)
                | (go_at_call 65; refine (one_fn e0 _).mono ?_; rintro e u2 ⟨rfl, hb2⟩; have hV4 := Lib.hid (hV3.out.world hb2); have hX4 := Lib.hid (hX3.out.below hb2 hX3.out.lt); clear hb2))
            all_goals
              go_wp2_with fail
              go_meet
              exact ⟨by rw [hadd2.out]; exact congrArg (Value.int .i64) (IntWalk.i64_in _ (by omega)), hV4, hX4⟩
        · have hadd := Lib.hid (show addM m e0 = 0 by unfold addM; rw [if_neg (fun h => hq ⟨ba_ext (by rw [h.1, hs.out]), h.2⟩)])
          rw [decide_eq_false hq]
          clear hq
          go_wp2
          go_meet
          exact ⟨by rw [hadd.out, Int.add_zero], hV1, hX⟩
      clear hV1 hX p0 p1 p2 p3 p4 p5 p6 x0 x1' x2' x3 x4 x5 x6 x7 x8 x9
      obtain ⟨rfl, hV2, hX2⟩ := hcut
      obtain ⟨p0, p1, p2, p3, p4, p5, p6⟩ := box7 hV2.out.box
      have x0 := hX2.out.cell 0
      have x5 := hX2.out.cell 5
      have x9 := hX2.out.cell 9
      simp only [List.getElem?_toArray, List.getElem?_cons_zero, List.getElem?_cons_succ] at x0 x5 x9
      have hxe : addM m e0 = addM m F[k] := by rw [he0.out]
      have hways : ((m.k == 4) = false ∧ Hid (belM m F[k] = 0)) ∨ ((m.k == 4) = true ∧ (e0.name.toList == t.toList) = false ∧ Hid (belM m F[k] = 0)) ∨ ((m.k == 4) = true ∧ (e0.name.toList == t.toList) = true ∧ Hid (belM m F[k] = e0.value)) := by
        rw [← he0.out]
        by_cases h1 : m.k = 4
        · by_cases h2 : e0.name = t
          · refine Or.inr (Or.inr ⟨by simpa using h1, bytes_eqB h2, Lib.hid ?_⟩)
            unfold belM
            rw [if_pos ⟨h1, by rw [h2, ht.out]⟩]
          · refine Or.inr (Or.inl ⟨by simpa using h1, bytes_neB h2, Lib.hid ?_⟩)
            unfold belM
            rw [if_neg (fun h => h2 (ba_ext (by rw [h.2, ht.out])))]
        · refine Or.inl ⟨by simpa using h1, Lib.hid ?_⟩
          unfold belM
          rw [if_neg (fun h => h1 h.1)]
      replace hxe := Lib.hid hxe
      rcases hways with ⟨h1, hb⟩ | ⟨h1, h2, hb⟩ | ⟨h1, h2, hb⟩
      · go_wp2
        go_roundw
        case rel => exact ⟨k + 1, _, _, by omega, by go_num, rfl, rfl, Lib.hid (hV2.out.next hlt (by rw [hxe.out]) (by rw [hb.out, Int.add_zero]))⟩
        case measure => (first | (simp [intOf]; omega) | simp [intOf])
      · go_wp2
        go_roundw
        case rel => exact ⟨k + 1, _, _, by omega, by go_num, rfl, rfl, Lib.hid (hV2.out.next hlt (by rw [hxe.out]) (by rw [hb.out, Int.add_zero]))⟩
        case measure => (first | (simp [intOf]; omega) | simp [intOf])
      · go_wp2
        go_roundw
        case rel => exact ⟨k + 1, _, _, by omega, by go_num, rfl, rfl, Lib.hid (hV2.out.next hlt (by rw [hxe.out]) (by rw [hb.out]))⟩
        case measure => (first | (simp [intOf]; omega) | simp [intOf])
    · obtain rfl : k = F.length := by omega
      have hx := Lib.hid hV'.out.x
      have hy := Lib.hid hV'.out.y
      have p4 := (box7 hV'.out.box).2.2.2.2.1
      have hbl := hV'.out.box.lt
      go_wp2_with fail
      refine (lim_any x m.cap w.heap.size _ p4).mono ?_
      rintro e w4 ⟨rfl, rfl⟩
      go_wp2_with fail
      refine (lim_any y m.cap w.heap.size _ p4).mono ?_
      rintro e w5 ⟨rfl, rfl⟩
      go_wp2
      go_ret2
      refine ⟨ret2 ?_, hV'.out.below⟩
      rw [hPV.out, hx.out, hy.out, List.take_length]
      rfl

end Go.Proofs.YtnghpjijfdpmkaaDoor.metric

