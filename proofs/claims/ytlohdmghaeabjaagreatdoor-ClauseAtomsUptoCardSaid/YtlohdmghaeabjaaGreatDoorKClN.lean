/- Negations pushed down to the atoms: the law's negate. -/
import Derived.Test.YtlohdmghaeabjaaGreatDoorKClP
import Derived.Test.YtlohdmghaeabjaaGreatDoorKDrawA
import Derived.Deep.CutBlock
import Derived.Deep.DeepCutAuto
namespace Go.Proofs.YtlohdmghaeabjaaGreatDoor.clause
open Go.RowKit Go.Proofs.YtlohdmghaeabjaaGreatDoor Go.Proofs.YtlohdmghaeabjaaGreatDoor.schema Go.Proofs.YtlohdmghaeabjaaGreatDoor.value Go.Proofs.YtlohdmghaeabjaaGreatDoor.text Go.Proofs.YtlohdmghaeabjaaGreatDoor.draw

attribute [local go_sem ↓] Go.wp_at_zero Go.wp_at_succ

/-- A condition that a call has made out of parts that lie in the memory M. -/
def MadeE (M : Mem) (w : World) (d : ED) (e : Ending) (w' : World) : Prop :=
  (∃ (M' : Mem) (op : Int) (kind name : ByteArray) (va : Option Addr) (vn vc : Nat) (ka : Option Addr) (kn kc : Nat), e = .returned (.agg #[.int .i64 op, .string kind, .string name, .slice va vn vc, .slice ka kn kc]) ∧
    Ext M M' w.heap.size ∧ Sub M' w'.cell? ∧ EAt M' d [.int .i64 op, .string kind, .string name, .slice va vn vc, .slice ka kn kc]) ∧ Below w.heap.size w w'
theorem madeE_of {M : Mem} {w u : World} {d : ED} {op : Int} {kind name : ByteArray} {va : Option Addr} {vn vc : Nat} {ka : Option Addr} {kn kc : Nat}
    (h : ∃ M' : Mem, Ext M M' w.heap.size ∧ Sub M' u.cell? ∧ EAt M' d [.int .i64 op, .string kind, .string name, .slice va vn vc, .slice ka kn kc]) (hB : Below w.heap.size w u) :
    MadeE M w d (.returned (.agg #[.int .i64 op, .string kind, .string name, .slice va vn vc, .slice ka kn kc])) u :=
  let ⟨M', h1, h2, h3⟩ := h
  ⟨⟨M', _, _, _, _, _, _, _, _, _, rfl, h1, h2, h3⟩, hB⟩
def NegOk (m : Mem) (d : ED) (r : List Value) : Prop := smallE 200 d → ∀ (b : Bool) (M : Mem) (w : World), Sub m M → Sub M w.cell? → Calls Tryz.prog 29 #[.agg r.toArray, .bool b] w (MadeE M w (negS b d))

/-- What is known while a condition is made. -/
structure NX (w u : World) (op : Int) (kind name : ByteArray) (vs ks : Value) (opx : Int) (kx : Value) (M0 M : Mem) : Prop where
  low : Below w.heap.size w u
  box : Own u w.heap.size #[.int .i64 op, .string kind, .string name, vs, ks] 29
  res : Own u (w.heap.size + 1) zeroE 29
  xb : Own u (w.heap.size + 2) #[.int .i64 opx, .string ⟨#[]⟩, .string ⟨#[]⟩, .slice none 0 0, kx] 29
  sub0 : Sub M0 w.cell?
  ext : Ext M0 M (w.heap.size + 3)
  sub : Sub M u.cell?
section
variable {w u x : World} {op : Int} {kind name : ByteArray} {vs ks : Value} {opx : Int} {kx : Value} {M0 M M' : Mem}
theorem NX.size (h : NX w u op kind name vs ks opx kx M0 M) : w.heap.size + 3 ≤ u.heap.size := h.xb.lt
theorem NX.offs (h : NX w u op kind name vs ks opx kx M0 M) {k : Nat} (h1 : w.heap.size ≤ k) (h2 : k < w.heap.size + 3) : Off k M := (off_new h.sub0 h1).ext h.ext h2
theorem NX.drew (h : NX w u op kind name vs ks opx kx M0 M) : NX w u.drew op kind name vs ks opx kx M0 M :=
  ⟨h.low.grown (grown_drew u none) (by have := h.size; omega) (fun k e => by cases e), h.box, h.res, h.xb, h.sub0, h.ext, h.sub⟩
theorem NX.call (h : NX w u op kind name vs ks opx kx M0 M) (hb : Below u.heap.size u x) (he : Ext M M' u.heap.size) (hs : Sub M' x.cell?) : NX w x op kind name vs ks opx kx M0 M' := by
  have hz := h.size
  exact ⟨h.low.trans (hb.mono (by omega)), h.box.below hb (by omega), h.res.below hb (by omega), h.xb.below hb (by omega), h.sub0, h.ext.trans he hz, hs⟩
theorem NX.alloc (h : NX w u op kind name vs ks opx kx M0 M) (o : Obj) : NX w (u.alloc o) op kind name vs ks opx kx M0 M :=
  h.call ((Below.refl _ _).alloc (Nat.le_refl _) _) (Ext.refl _ _) (sub_alloc h.sub o)
theorem NX.app {ty : TypeId} {sz m : Nat} {v2 : Value} {xs : List Value} (h : NX w u op kind name vs ks opx kx M0 M) (ho : u.ownsRow (w.heap.size + 3) ty sz v2 m xs) (hg : u.grownBy x v2.ownBlock) (hO : ∀ k, v2.ownBlock = some k → Off k M) : NX w x op kind name vs ks opx kx M0 M := by
  have hz := h.size
  exact ⟨h.low.grown hg (by omega) (fun k e => by have := (ho.lt k e).1; omega), own_past ho h.box hg (by omega), own_past ho h.res hg (by omega), own_past ho h.xb hg (by omega), h.sub0, h.ext, sub_grow h.sub hg hO⟩
theorem NX.setK (h : NX w u op kind name vs ks opx kx M0 M) (v : Value) : NX w (u.setCell ⟨w.heap.size + 2, 4, none⟩ v) op kind name vs ks opx v M0 M := by
  have hz := h.size
  exact ⟨h.low.setCell (by simp) _, h.box.setOther (by simp) _, h.res.setOther (by simp) _, h.xb.set 4 v, h.sub0, h.ext, sub_setCell h.sub (h.offs (by simp) (by simp)) _⟩
end

/-- The loop over the parts: L is what they become. -/
def RelN (w wr : World) (op : Int) (kind name : ByteArray) (vs ks : Value) (opx : Int) (M0 : Mem) (L : List ED) (i : Nat) : Prop :=
  ∃ (M : Mem) (xa : Option Addr) (xc : Nat) (rows : List (List Value)), NX w wr op kind name vs ks opx (.slice xa i xc) M0 M ∧ wr.ownsRow (w.heap.size + 3) 29 5 (.slice xa i xc) i rows.flatten ∧ rows.length = i ∧ (∀ r ∈ rows, r.length = 5) ∧
    (∀ (j : Nat) (r : List Value) (d : ED), rows[j]? = some r → L[j]? = some d → EAt M d r) ∧ ∀ j, (Value.slice xa i xc).ownBlock = some j → Off j M
theorem relN_next {w w5 w6 : World} {op : Int} {kind name : ByteArray} {vs ks : Value} {opx : Int} {M0 M : Mem} {L : List ED} {i : Nat} {v : Value} {rows : List (List Value)} {r5 : List Value} {d5 : ED} {gg cap : Nat} {o : Obj}
    (hN : NX w w5 op kind name vs ks opx v M0 M) (hown : w5.ownsRow (w.heap.size + 3) 29 5 v i rows.flatten) (hl : rows.length = i) (h5 : ∀ r ∈ rows, r.length = 5)
    (hE : ∀ (j : Nat) (r : List Value) (d : ED), rows[j]? = some r → L[j]? = some d → EAt M d r) (hO : ∀ j, v.ownBlock = some j → Off j M) (hr5 : r5.length = 5) (hd : L[i]? = some d5) (hE5 : EAt M d5 r5)
    (hat : v.ownBlock = some gg ∨ gg = w5.heap.size + 1) (hg : (w5.alloc o).grownBy w6 v.ownBlock) (hown6 : w6.ownsRow (w.heap.size + 3) 29 5 (.slice (some ⟨gg, 0, none⟩) (i + 1) cap) (i + 1) (rows.flatten ++ r5)) :
    RelN w (w6.setCell ⟨w.heap.size + 2, 4, none⟩ (.slice (some ⟨gg, 0, none⟩) (i + 1) cap)) op kind name vs ks opx M0 L (i + 1) := by
  refine ⟨M, some ⟨gg, 0, none⟩, cap, rows ++ [r5], ((hN.alloc o).app (hown.alloc o) hg hO).setK _, ?_, by simp [hl], ?_, ?_, ?_⟩
  · have e : (rows ++ [r5]).flatten = rows.flatten ++ r5 := by simp
    rw [e]
    exact ownsRow_setCell_below hown6 (by simp) _
  · intro r hr
    rcases List.mem_append.1 hr with hr | hr
    · exact h5 r hr
    · rw [List.mem_singleton.1 hr]; exact hr5
  · intro j r d h1 h2
    rcases Nat.lt_or_ge j i with hj | hj
    · rw [List.getElem?_append_left (by omega)] at h1
      exact hE j r d h1 h2
    · rw [List.getElem?_append_right (by omega), List.getElem?_singleton] at h1
      by_cases hji : j - rows.length = 0
      · rw [if_pos hji] at h1
        obtain rfl := Option.some.inj h1
        have : j = i := by omega
        subst this
        obtain rfl := Option.some.inj (hd.symm.trans h2)
        exact hE5
      · rw [if_neg hji] at h1; cases h1
  · intro j hj
    have e : gg = j := by simpa [Value.ownBlock] using hj
    subst e
    rcases hat with hat | hat
    · exact hO _ hat
    · exact off_new hN.sub (by omega)
/-- What the loop ends with, as data. -/
theorem relN_done {w wr u : World} {op : Int} {kind name : ByteArray} {vs ks : Value} {opx : Int} {M0 M : Mem} {L : List ED} {n : Nat} {xa : Option Addr} {xc : Nat} {rows : List (List Value)}
    (hN : NX w wr op kind name vs ks opx (.slice xa n xc) M0 M) (hown : wr.ownsRow (w.heap.size + 3) 29 5 (.slice xa n xc) n rows.flatten) (hl : rows.length = n) (h5 : ∀ r ∈ rows, r.length = 5)
    (hE : ∀ (j : Nat) (r : List Value) (d : ED), rows[j]? = some r → L[j]? = some d → EAt M d r) (hO : ∀ j, (Value.slice xa n xc).ownBlock = some j → Off j M) (hL : L.length = n)
    (hu : ∀ M' : Mem, Off (w.heap.size + 1) M' → Sub M' wr.cell? → Sub M' u.cell?) :
    ∃ M' : Mem, Ext M0 M' w.heap.size ∧ Sub M' u.cell? ∧ EAt M' (.mk opx ⟨#[]⟩ ⟨#[]⟩ [] L) [.int .i64 opx, .string ⟨#[]⟩, .string ⟨#[]⟩, .slice none 0 0, .slice xa n xc] := by
  have hoff := hN.offs (k := w.heap.size + 1) (by omega) (by omega)
  have hrows := rows_of_owns hown rows hl.symm h5 rfl
  rcases Nat.eq_zero_or_pos n with h0 | h0
  · subst h0
    obtain rfl : rows = [] := List.eq_nil_of_length_eq_zero hl
    obtain rfl : L = [] := List.eq_nil_of_length_eq_zero hL
    obtain ⟨a', c', e1, e2, e3, -⟩ := hrows
    refine ⟨M, hN.ext.low (by omega), hu M hoff hN.sub, eat_list ⟨a', c', e1, e2, e3, Or.inl rfl⟩ rfl (fun i r k hi => by simp at hi)⟩
  · obtain ⟨g, cap, e, hg⟩ := own_row hown h0
    injection e with e1 e2 e3
    subst e1 e3
    have hOg := hO g rfl
    refine ⟨addB M g wr, hN.ext.low (by omega) |>.trans (addB_ext hOg (B := w.heap.size) (by omega)) (Nat.le_refl _), hu _ (addB_off hoff (by omega)) (addB_sub hN.sub), ?_⟩
    exact eat_list (addB_rows hrows) (by rw [hl, hL]) (fun i r k h1 h2 => (hE i r k h1 h2).mono (addB_ext hOg (B := w.heap.size) (by omega)).sub)
theorem negL_get (b : Bool) : ∀ (l : List ED) (i : Nat) (k : ED), l[i]? = some k → (negL b l)[i]? = some (negS b k)
  | [], _, _, h => by simp at h
  | x :: r, 0, k, h => by simp at h; subst h; rfl
  | x :: r, i + 1, k, h => by rw [negL]; simpa using negL_get b r i k (by simpa using h)
theorem negL_len (b : Bool) : ∀ l : List ED, (negL b l).length = l.length
  | [] => rfl
  | x :: r => by rw [negL, List.length_cons, List.length_cons, negL_len b r]

set_option maxRecDepth 100000 in
set_option maxHeartbeats 16000000 in
theorem neg_step (m : Mem) (op : Int) (kind name : ByteArray) (vals : List VD) (kids : List ED) (vs ks : Value) (rows0 : List (List Value)) (hv : RowsAt m 4 vs (vals.map VD.row)) (hk : RowsAt m 5 ks rows0) (hl0 : rows0.length = kids.length) (hL : ∀ v ∈ vals, LAt m v)
    (hE : ∀ (i : Nat) (r : List Value) (k : ED), rows0[i]? = some r → kids[i]? = some k → EAt m k r)
    (ih : ∀ (j : Nat) (r : List Value) (k : ED), rows0[j]? = some r → kids[j]? = some k → NegOk m k r) :
    NegOk m (.mk op kind name vals kids) [.int .i64 op, .string kind, .string name, vs, ks] := by
  intro hsm b M0 w hm hM
  obtain ⟨hs1, hs2, hs3, hs4⟩ := hsm
  obtain ⟨va, vn, vc, rfl⟩ : ∃ a n c, vs = .slice a n c := by obtain ⟨a, c, h, -⟩ := hv; exact ⟨_, _, _, h⟩
  obtain ⟨ka, kn, kc, rfl⟩ : ∃ a n c, ks = .slice a n c := by obtain ⟨a, c, h, -⟩ := hk; exact ⟨_, _, _, h⟩
  have hkn := (len_of hk).1
  have hkm := (len_of hk).2
  rw [hl0] at hkn
  subst hkn
  have hself := Lib.hid (show EAt M0 (.mk op kind name vals kids) [.int .i64 op, .string kind, .string name, .slice va vn vc, .slice ka kids.length kc] from EAt.mk rows0 (hv.mono hm) (hk.mono hm) hl0 (fun v h => (hL v h).mono hm) (fun i r k h1 h2 => (hE i r k h1 h2).mono hm))
  obtain ⟨i0, hi, hz0, hz1, hz2⟩ := info_parts info26
  have hQ := Lib.hid (negS.eq_1 b op kind name vals kids)
  replace hv := Lib.hid hv
  replace hk := Lib.hid hk
  replace hl0 := Lib.hid hl0
  replace hL := Lib.hid hL
  replace hE := Lib.hid hE
  replace ih := Lib.hid ih
  replace hm := Lib.hid hm
  replace hM := Lib.hid hM
  replace hs3 := Lib.hid hs3
  replace hs4 := Lib.hid hs4
  by_cases h4 : op = 4
  · subst h4
    have hne := hs3.out rfl
    obtain ⟨k0, kr, rfl⟩ : ∃ k r, kids = k :: r := by cases kids with | nil => simp at hne | cons k r => exact ⟨k, r, rfl⟩
    have hQ2 := Lib.hid (show negS b (.mk 4 kind name vals (k0 :: kr)) = negS (!b) k0 by rw [hQ.out, if_pos rfl]; rfl)
    have hB1 : Below w.heap.size w ((w.alloc (.cells #[.int .i64 4, .string kind, .string name, .slice va vn vc, .slice ka (k0 :: kr).length kc] 29)).alloc (.cells zeroE 29)) := ((Below.refl _ _).alloc (Nat.le_refl _) _).alloc (by simp) _
    have hS1 := hM.out.trans (sub_of_below hB1)
    have hR1 := Own.new (w.alloc (.cells #[.int .i64 4, .string kind, .string name, .slice va vn vc, .slice ka (k0 :: kr).length kc] 29)) zeroE 29
    rw [World.size_alloc] at hR1
    obtain ⟨blk, off, op', kind', name', va', vn', vc', ka', kn', kc', rfl, c0, c1, c2, c3, c4, hr⟩ := kid_at (k := 0) (hk.out.mono (hm.out.trans hM.out)) hl0.out (fun j r k h1 h2 => hE.out j r k h1 h2) (by simp)
    simp only [Nat.zero_mul, Nat.add_zero] at c0 c1 c2 c3 c4
    have hbl : blk < w.heap.size := World.block_lt_of_cell? w _ c0
    have hgo := Lib.hid (fun (u : World) (hu : Sub M0 u.cell?) => ih.out 0 _ k0 hr rfl hs4.out.1 (!b) M0 u hm.out hu)
    have hp : (0 : Int) < ((kr.length : Int) + 1) := by omega
    replace hB1 := Lib.hid hB1
    replace hS1 := Lib.hid hS1
    replace hR1 := Lib.hid hR1
    clear hr hself hs1 hs2 hv hk hl0 hL hE ih
    go_enter Tryz.func29, Tryz.ntmps29
    go_wp2_with fail
    refine (hgo.out _ hS1.out).mono ?_
    rintro e w5 ⟨⟨M5, op5, kind5, name5, va5, vn5, vc5, ka5, kn5, kc5, rfl, hX5, hS5, hE5⟩, hb5⟩
    have hR5 := hR1.out.below hb5 (by simp)
    have hB5 := Lib.hid (hB1.out.trans (hb5.mono hB1.out.size))
    have hz5 : w.heap.size + 2 ≤ w5.heap.size := by have := hb5.size; simpa using this
    have hX5' := Lib.hid (hX5.low (B := w.heap.size) (by simp; omega))
    have hO5 := Lib.hid ((off_new hM.out (k := w.heap.size + 1) (by omega)).ext hX5 (by simp))
    unfold zeroE at hR5
    obtain ⟨z0, z1, z2, z3, z4, g0, g1, g2, g3, g4⟩ := own5f hR5
    replace hS5 := Lib.hid hS5
    replace hE5 := Lib.hid hE5
    clear hR5 hb5 hX5 hgo hS1 hR1 hB1 c0 c1 c2 c3 c4
    have hrl : w.heap.size + 1 < w5.heap.size := by omega
    go_wp2
    refine bodyPost_ret (v := .agg #[.int .i64 op5, .string kind5, .string name5, .slice va5 vn5 vc5, .slice ka5 kn5 kc5]) (by simp [results, Tryz.results29, go_sem, z0, z1, z2, z3, z4]) rfl ?_
    refine ⟨⟨M5, op5, kind5, name5, va5, vn5, vc5, ka5, kn5, kc5, rfl, hX5'.out, ?_, by rw [hQ2.out]; exact hE5.out⟩, ?_⟩
    · exact sub_setCell (sub_setCell (sub_setCell (sub_setCell (sub_setCell hS5.out hO5.out _) hO5.out _) hO5.out _) hO5.out _) hO5.out _
    · exact (((((hB5.out.setCell (by simp) _).setCell (by simp) _).setCell (by simp) _).setCell (by simp) _).setCell (by simp) _)
  by_cases h23 : op = 2 ∨ op = 3
  · rcases h23 with rfl | rfl
    · cases b with
      | true =>
        have hQ2 := Lib.hid (show negS true (.mk 2 kind name vals kids) = .mk 3 ⟨#[]⟩ ⟨#[]⟩ [] (negL true kids) by rw [hQ.out, if_neg (by decide), if_pos (by decide), if_pos rfl]; try rfl)
        have hN0 := Lib.hid (show NX w (((w.alloc (.cells #[.int .i64 2, .string kind, .string name, .slice va vn vc, .slice ka kids.length kc] 29)).alloc (.cells zeroE 29)).alloc (.cells #[.int .i64 3, .string ⟨#[]⟩, .string ⟨#[]⟩, .slice none 0 0, .slice none 0 0] 29)) 2 kind name (.slice va vn vc) (.slice ka kids.length kc) 3 (.slice none 0 0) M0 M0 from
          ⟨(((Below.refl _ _).alloc (Nat.le_refl _) _).alloc (by simp) _).alloc (by simp; omega) _, ((Own.new w _ _).alloc _).alloc _, (Own.new' (by simp)).alloc _, Own.new' (by simp), hM.out, Ext.refl _ _, sub_alloc (sub_alloc (sub_alloc hM.out _) _) _⟩)
        clear hself
        go_enter Tryz.func29, Tryz.ntmps29
        go_wp2_with fail
        have hS := Lib.hid (show RelN w _ 2 kind name (.slice va vn vc) (.slice ka kids.length kc) 3 M0 (negL true kids) 0 from ⟨M0, none, 0, [], hN0.out, World.ownsRow_nil _ _ _ _, rfl, (fun r hr => by cases hr), (fun j r d h1 => by simp at h1), (fun j hj => by cases hj)⟩)
        clear hN0
        unfold zeroE at hS
        generalize ((w.alloc (.cells #[.int .i64 2, .string kind, .string name, .slice va vn vc, .slice ka kids.length kc] 29)).alloc (.cells _ 29)).alloc (.cells #[.int .i64 3, .string ⟨#[]⟩, .string ⟨#[]⟩, .slice none 0 0, .slice none 0 0] 29) = w3 at hS ⊢
        go_loopw [6] (fun s6 wr => ∃ i : Nat, i ≤ kids.length ∧ s6 = .int .i64 i ∧ Hid (RelN w wr 2 kind name (.slice va vn vc) (.slice ka kids.length kc) 3 M0 (negL true kids) i)) (fun s6 _ => kids.length - (intOf s6).toNat)
        case atStart => exact ⟨0, by omega, rfl, hS⟩
        case round =>
          clear hS
          obtain ⟨i, hi8, rfl, hR⟩ := hrel
          obtain ⟨M, xa, xc, rows, hN, hown, hrl, hr5, hEr, hO⟩ := hR.out
          obtain ⟨x0, x1, x2, x3, x4⟩ := own5z hN.xb
          obtain ⟨y0, y1, y2, y3, y4⟩ := own5z hN.box
          have hwz := hN.size
          by_cases hil : i < kids.length
          case neg =>
            obtain rfl : i = kids.length := by omega
            have hR' := hN.res
            unfold zeroE at hR'
            obtain ⟨z0, z1, z2, z3, z4, g0, g1, g2, g3, g4⟩ := own5f hR'
            clear hR'
            have hlow := Lib.hid hN.low
            have hdone := Lib.hid (fun (u : World) (hu : ∀ M' : Mem, Off (w.heap.size + 1) M' → Sub M' wr.cell? → Sub M' u.cell?) => relN_done hN hown hrl hr5 hEr hO (negL_len true kids) hu)
            clear hN hown hrl hr5 hEr hO hR
            go_wp2
            refine bodyPost_ret (v := .agg #[.int .i64 3, .string ⟨#[]⟩, .string ⟨#[]⟩, .slice none 0 0, .slice xa kids.length xc]) (by simp [results, Tryz.results29, go_sem, z0, z1, z2, z3, z4]) rfl ?_
            rw [hQ2.out]
            exact madeE_of (hdone.out _ (fun M' hO hs => sub_setCell (sub_setCell (sub_setCell (sub_setCell (sub_setCell hs hO _) hO _) hO _) hO _) hO _)) (((((hlow.out.setCell (by simp) _).setCell (by simp) _).setCell (by simp) _).setCell (by simp) _).setCell (by simp) _)
          have hmM : Sub m M := hm.out.trans hN.ext.sub
          obtain ⟨blk, off, op', kind', name', va', vn', vc', ka', kn', kc', rfl, c0, c1, c2, c3, c4, hr⟩ := kid_at (hk.out.mono (hmM.trans hN.sub)) hl0.out (fun j r k h1 h2 => hE.out j r k h1 h2) hil
          have n0 : (0 : Int) ≤ (i : Int) := by omega
          have n1 : (i : Int) < (kids.length : Int) := by omega
          have hbl : blk < wr.heap.size := World.block_lt_of_cell? wr _ c0
          have hgo := Lib.hid (ih.out i _ kids[i] hr (List.getElem?_eq_getElem hil) (small_get kids i _ (List.getElem?_eq_getElem hil) hs4.out) true M wr.drew hmM hN.sub)
          have hd5 := Lib.hid (negL_get true kids i _ (List.getElem?_eq_getElem hil))
          have f4 := hN.xb.free 4
          have hxl : w.heap.size + 2 < wr.heap.size := by omega
          generalize kids[i] = kd at hgo hd5
          replace hN := Lib.hid hN
          replace hown := Lib.hid hown
          replace hrl := Lib.hid hrl
          replace hr5 := Lib.hid hr5
          replace hEr := Lib.hid hEr
          replace hO := Lib.hid hO
          clear hr hR hmM
          go_wp2_with fail
          go_region_law
            ((first
              | (refine step_append_lies _ (by rfl) _ _ _ (by rfl) (w.heap.size + 3) 29 i0 _ 5 88 Tryz.underlying27 hi hz0 hz1 hz2 rfl (by omega) (.slice xa i xc) i rows.flatten (by rfl) (hown5.out.alloc _) ⟨w5.heap.size, 0, none⟩ 1 1 [.int .i64 op5, .string kind5, .string name5, .slice va5 vn5 vc5, .slice ka5 kn5 kc5] (by rfl) (by rfl) (World.news_of_block (cs := #[.int .i64 op5, .string kind5, .string name5, .slice va5 vn5 vc5, .slice ka5 kn5 kc5]) (t := 29) (fr := (0, 0)) (heap_alloc_new w5 _)) (by simp [Value.oneCell']) (by omega) (by unfold maxLen; omega) (by omega) (by simp; omega) (w5.heap.size + 1) (by simp) ?_; intro gg cap w6 hown6 hgrow6 hat hlt6; have hE6 := own_past (hown5.out.alloc _) (hN5.out.xb.alloc _) hgrow6 (show w.heap.size + 2 < w.heap.size + 3 by omega); have y4' := hE6.cell 4; have z4' := hE6.free 4; simp only [List.getElem?_toArray, List.getElem?_cons_zero, List.getElem?_cons_succ] at y4')
              | (go_simp; go_at_call 29; refine hgo.out.mono ?_; rintro e w5 ⟨⟨M5, op5, kind5, name5, va5, vn5, vc5, ka5, kn5, kc5, rfl, hX5, hS5, hE5⟩, hb5⟩; have hN5 := Lib.hid (hN.out.drew.call hb5 hX5 hS5); have hlj := fun j hj => (hown.out.lt j hj).2; have hO5 := Lib.hid (fun j hj => (hO.out j hj).ext hX5 (hlj j hj)); have hEr5 := Lib.hid (fun j r d h1 h2 => (hEr.out j r d h1 h2).mono hX5.sub); have hown5 := Lib.hid (owns_kept (owns_drew hown.out) (grown_of_below hb5 (some 0)) (by omega)); have hE5' := Lib.hid hE5; obtain ⟨p0, p1, p2, p3, p4⟩ := own5z hN5.out.xb; obtain ⟨q0, q1, q2, q3, q4⟩ := own5z hN5.out.box; have hxl5 : w.heap.size + 2 < w5.heap.size := hN5.out.xb.lt; have f5 := hN5.out.xb.free 4; clear hb5 hX5 hS5 hE5 hlj)))
          all_goals
            have hNx := Lib.hid (relN_next hN5.out hown5.out hrl.out hr5.out hEr5.out hO5.out rfl hd5.out hE5'.out hat hgrow6 hown6)
            clear hgrow6 hown6 hat
            go_wp2
            go_roundw
            case rel => exact ⟨i + 1, by omega, by go_num, hNx⟩
            case measure => simp [intOf]; omega
      | false =>
        have hQ2 := Lib.hid (show negS false (.mk 2 kind name vals kids) = .mk 2 ⟨#[]⟩ ⟨#[]⟩ [] (negL false kids) by rw [hQ.out, if_neg (by decide), if_pos (by decide), if_neg (by decide)]; try rfl)
        have hN0 := Lib.hid (show NX w (((w.alloc (.cells #[.int .i64 2, .string kind, .string name, .slice va vn vc, .slice ka kids.length kc] 29)).alloc (.cells zeroE 29)).alloc (.cells #[.int .i64 2, .string ⟨#[]⟩, .string ⟨#[]⟩, .slice none 0 0, .slice none 0 0] 29)) 2 kind name (.slice va vn vc) (.slice ka kids.length kc) 2 (.slice none 0 0) M0 M0 from
          ⟨(((Below.refl _ _).alloc (Nat.le_refl _) _).alloc (by simp) _).alloc (by simp; omega) _, ((Own.new w _ _).alloc _).alloc _, (Own.new' (by simp)).alloc _, Own.new' (by simp), hM.out, Ext.refl _ _, sub_alloc (sub_alloc (sub_alloc hM.out _) _) _⟩)
        clear hself
        go_enter Tryz.func29, Tryz.ntmps29
        go_wp2_with fail
        have hS := Lib.hid (show RelN w _ 2 kind name (.slice va vn vc) (.slice ka kids.length kc) 2 M0 (negL false kids) 0 from ⟨M0, none, 0, [], hN0.out, World.ownsRow_nil _ _ _ _, rfl, (fun r hr => by cases hr), (fun j r d h1 => by simp at h1), (fun j hj => by cases hj)⟩)
        clear hN0
        unfold zeroE at hS
        generalize ((w.alloc (.cells #[.int .i64 2, .string kind, .string name, .slice va vn vc, .slice ka kids.length kc] 29)).alloc (.cells _ 29)).alloc (.cells #[.int .i64 2, .string ⟨#[]⟩, .string ⟨#[]⟩, .slice none 0 0, .slice none 0 0] 29) = w3 at hS ⊢
        go_loopw [6] (fun s6 wr => ∃ i : Nat, i ≤ kids.length ∧ s6 = .int .i64 i ∧ Hid (RelN w wr 2 kind name (.slice va vn vc) (.slice ka kids.length kc) 2 M0 (negL false kids) i)) (fun s6 _ => kids.length - (intOf s6).toNat)
        case atStart => exact ⟨0, by omega, rfl, hS⟩
        case round =>
          clear hS
          obtain ⟨i, hi8, rfl, hR⟩ := hrel
          obtain ⟨M, xa, xc, rows, hN, hown, hrl, hr5, hEr, hO⟩ := hR.out
          obtain ⟨x0, x1, x2, x3, x4⟩ := own5z hN.xb
          obtain ⟨y0, y1, y2, y3, y4⟩ := own5z hN.box
          have hwz := hN.size
          by_cases hil : i < kids.length
          case neg =>
            obtain rfl : i = kids.length := by omega
            have hR' := hN.res
            unfold zeroE at hR'
            obtain ⟨z0, z1, z2, z3, z4, g0, g1, g2, g3, g4⟩ := own5f hR'
            clear hR'
            have hlow := Lib.hid hN.low
            have hdone := Lib.hid (fun (u : World) (hu : ∀ M' : Mem, Off (w.heap.size + 1) M' → Sub M' wr.cell? → Sub M' u.cell?) => relN_done hN hown hrl hr5 hEr hO (negL_len false kids) hu)
            clear hN hown hrl hr5 hEr hO hR
            go_wp2
            refine bodyPost_ret (v := .agg #[.int .i64 2, .string ⟨#[]⟩, .string ⟨#[]⟩, .slice none 0 0, .slice xa kids.length xc]) (by simp [results, Tryz.results29, go_sem, z0, z1, z2, z3, z4]) rfl ?_
            rw [hQ2.out]
            exact madeE_of (hdone.out _ (fun M' hO hs => sub_setCell (sub_setCell (sub_setCell (sub_setCell (sub_setCell hs hO _) hO _) hO _) hO _) hO _)) (((((hlow.out.setCell (by simp) _).setCell (by simp) _).setCell (by simp) _).setCell (by simp) _).setCell (by simp) _)
          have hmM : Sub m M := hm.out.trans hN.ext.sub
          obtain ⟨blk, off, op', kind', name', va', vn', vc', ka', kn', kc', rfl, c0, c1, c2, c3, c4, hr⟩ := kid_at (hk.out.mono (hmM.trans hN.sub)) hl0.out (fun j r k h1 h2 => hE.out j r k h1 h2) hil
          have n0 : (0 : Int) ≤ (i : Int) := by omega
          have n1 : (i : Int) < (kids.length : Int) := by omega
          have hbl : blk < wr.heap.size := World.block_lt_of_cell? wr _ c0
          have hgo := Lib.hid (ih.out i _ kids[i] hr (List.getElem?_eq_getElem hil) (small_get kids i _ (List.getElem?_eq_getElem hil) hs4.out) false M wr.drew hmM hN.sub)
          have hd5 := Lib.hid (negL_get false kids i _ (List.getElem?_eq_getElem hil))
          have f4 := hN.xb.free 4
          have hxl : w.heap.size + 2 < wr.heap.size := by omega
          generalize kids[i] = kd at hgo hd5
          replace hN := Lib.hid hN
          replace hown := Lib.hid hown
          replace hrl := Lib.hid hrl
          replace hr5 := Lib.hid hr5
          replace hEr := Lib.hid hEr
          replace hO := Lib.hid hO
          clear hr hR hmM
          go_wp2_with fail
          go_region_law
            ((first
              | (refine step_append_lies _ (by rfl) _ _ _ (by rfl) (w.heap.size + 3) 29 i0 _ 5 88 Tryz.underlying27 hi hz0 hz1 hz2 rfl (by omega) (.slice xa i xc) i rows.flatten (by rfl) (hown5.out.alloc _) ⟨w5.heap.size, 0, none⟩ 1 1 [.int .i64 op5, .string kind5, .string name5, .slice va5 vn5 vc5, .slice ka5 kn5 kc5] (by rfl) (by rfl) (World.news_of_block (cs := #[.int .i64 op5, .string kind5, .string name5, .slice va5 vn5 vc5, .slice ka5 kn5 kc5]) (t := 29) (fr := (0, 0)) (heap_alloc_new w5 _)) (by simp [Value.oneCell']) (by omega) (by unfold maxLen; omega) (by omega) (by simp; omega) (w5.heap.size + 1) (by simp) ?_; intro gg cap w6 hown6 hgrow6 hat hlt6; have hE6 := own_past (hown5.out.alloc _) (hN5.out.xb.alloc _) hgrow6 (show w.heap.size + 2 < w.heap.size + 3 by omega); have y4' := hE6.cell 4; have z4' := hE6.free 4; simp only [List.getElem?_toArray, List.getElem?_cons_zero, List.getElem?_cons_succ] at y4')
              | (go_simp; go_at_call 29; refine hgo.out.mono ?_; rintro e w5 ⟨⟨M5, op5, kind5, name5, va5, vn5, vc5, ka5, kn5, kc5, rfl, hX5, hS5, hE5⟩, hb5⟩; have hN5 := Lib.hid (hN.out.drew.call hb5 hX5 hS5); have hlj := fun j hj => (hown.out.lt j hj).2; have hO5 := Lib.hid (fun j hj => (hO.out j hj).ext hX5 (hlj j hj)); have hEr5 := Lib.hid (fun j r d h1 h2 => (hEr.out j r d h1 h2).mono hX5.sub); have hown5 := Lib.hid (owns_kept (owns_drew hown.out) (grown_of_below hb5 (some 0)) (by omega)); have hE5' := Lib.hid hE5; obtain ⟨p0, p1, p2, p3, p4⟩ := own5z hN5.out.xb; obtain ⟨q0, q1, q2, q3, q4⟩ := own5z hN5.out.box; have hxl5 : w.heap.size + 2 < w5.heap.size := hN5.out.xb.lt; have f5 := hN5.out.xb.free 4; clear hb5 hX5 hS5 hE5 hlj)))
          all_goals
            have hNx := Lib.hid (relN_next hN5.out hown5.out hrl.out hr5.out hEr5.out hO5.out rfl hd5.out hE5'.out hat hgrow6 hown6)
            clear hgrow6 hown6 hat
            go_wp2
            go_roundw
            case rel => exact ⟨i + 1, by omega, by go_num, hNx⟩
            case measure => simp [intOf]; omega
    · cases b with
      | true =>
        have hQ2 := Lib.hid (show negS true (.mk 3 kind name vals kids) = .mk 2 ⟨#[]⟩ ⟨#[]⟩ [] (negL true kids) by rw [hQ.out, if_neg (by decide), if_pos (by decide), if_pos rfl]; try rfl)
        have hN0 := Lib.hid (show NX w (((w.alloc (.cells #[.int .i64 3, .string kind, .string name, .slice va vn vc, .slice ka kids.length kc] 29)).alloc (.cells zeroE 29)).alloc (.cells #[.int .i64 2, .string ⟨#[]⟩, .string ⟨#[]⟩, .slice none 0 0, .slice none 0 0] 29)) 3 kind name (.slice va vn vc) (.slice ka kids.length kc) 2 (.slice none 0 0) M0 M0 from
          ⟨(((Below.refl _ _).alloc (Nat.le_refl _) _).alloc (by simp) _).alloc (by simp; omega) _, ((Own.new w _ _).alloc _).alloc _, (Own.new' (by simp)).alloc _, Own.new' (by simp), hM.out, Ext.refl _ _, sub_alloc (sub_alloc (sub_alloc hM.out _) _) _⟩)
        clear hself
        go_enter Tryz.func29, Tryz.ntmps29
        go_wp2_with fail
        have hS := Lib.hid (show RelN w _ 3 kind name (.slice va vn vc) (.slice ka kids.length kc) 2 M0 (negL true kids) 0 from ⟨M0, none, 0, [], hN0.out, World.ownsRow_nil _ _ _ _, rfl, (fun r hr => by cases hr), (fun j r d h1 => by simp at h1), (fun j hj => by cases hj)⟩)
        clear hN0
        unfold zeroE at hS
        generalize ((w.alloc (.cells #[.int .i64 3, .string kind, .string name, .slice va vn vc, .slice ka kids.length kc] 29)).alloc (.cells _ 29)).alloc (.cells #[.int .i64 2, .string ⟨#[]⟩, .string ⟨#[]⟩, .slice none 0 0, .slice none 0 0] 29) = w3 at hS ⊢
        go_loopw [6] (fun s6 wr => ∃ i : Nat, i ≤ kids.length ∧ s6 = .int .i64 i ∧ Hid (RelN w wr 3 kind name (.slice va vn vc) (.slice ka kids.length kc) 2 M0 (negL true kids) i)) (fun s6 _ => kids.length - (intOf s6).toNat)
        case atStart => exact ⟨0, by omega, rfl, hS⟩
        case round =>
          clear hS
          obtain ⟨i, hi8, rfl, hR⟩ := hrel
          obtain ⟨M, xa, xc, rows, hN, hown, hrl, hr5, hEr, hO⟩ := hR.out
          obtain ⟨x0, x1, x2, x3, x4⟩ := own5z hN.xb
          obtain ⟨y0, y1, y2, y3, y4⟩ := own5z hN.box
          have hwz := hN.size
          by_cases hil : i < kids.length
          case neg =>
            obtain rfl : i = kids.length := by omega
            have hR' := hN.res
            unfold zeroE at hR'
            obtain ⟨z0, z1, z2, z3, z4, g0, g1, g2, g3, g4⟩ := own5f hR'
            clear hR'
            have hlow := Lib.hid hN.low
            have hdone := Lib.hid (fun (u : World) (hu : ∀ M' : Mem, Off (w.heap.size + 1) M' → Sub M' wr.cell? → Sub M' u.cell?) => relN_done hN hown hrl hr5 hEr hO (negL_len true kids) hu)
            clear hN hown hrl hr5 hEr hO hR
            go_wp2
            refine bodyPost_ret (v := .agg #[.int .i64 2, .string ⟨#[]⟩, .string ⟨#[]⟩, .slice none 0 0, .slice xa kids.length xc]) (by simp [results, Tryz.results29, go_sem, z0, z1, z2, z3, z4]) rfl ?_
            rw [hQ2.out]
            exact madeE_of (hdone.out _ (fun M' hO hs => sub_setCell (sub_setCell (sub_setCell (sub_setCell (sub_setCell hs hO _) hO _) hO _) hO _) hO _)) (((((hlow.out.setCell (by simp) _).setCell (by simp) _).setCell (by simp) _).setCell (by simp) _).setCell (by simp) _)
          have hmM : Sub m M := hm.out.trans hN.ext.sub
          obtain ⟨blk, off, op', kind', name', va', vn', vc', ka', kn', kc', rfl, c0, c1, c2, c3, c4, hr⟩ := kid_at (hk.out.mono (hmM.trans hN.sub)) hl0.out (fun j r k h1 h2 => hE.out j r k h1 h2) hil
          have n0 : (0 : Int) ≤ (i : Int) := by omega
          have n1 : (i : Int) < (kids.length : Int) := by omega
          have hbl : blk < wr.heap.size := World.block_lt_of_cell? wr _ c0
          have hgo := Lib.hid (ih.out i _ kids[i] hr (List.getElem?_eq_getElem hil) (small_get kids i _ (List.getElem?_eq_getElem hil) hs4.out) true M wr.drew hmM hN.sub)
          have hd5 := Lib.hid (negL_get true kids i _ (List.getElem?_eq_getElem hil))
          have f4 := hN.xb.free 4
          have hxl : w.heap.size + 2 < wr.heap.size := by omega
          generalize kids[i] = kd at hgo hd5
          replace hN := Lib.hid hN
          replace hown := Lib.hid hown
          replace hrl := Lib.hid hrl
          replace hr5 := Lib.hid hr5
          replace hEr := Lib.hid hEr
          replace hO := Lib.hid hO
          clear hr hR hmM
          go_wp2_with fail
          go_region_law
            ((first
              | (refine step_append_lies _ (by rfl) _ _ _ (by rfl) (w.heap.size + 3) 29 i0 _ 5 88 Tryz.underlying27 hi hz0 hz1 hz2 rfl (by omega) (.slice xa i xc) i rows.flatten (by rfl) (hown5.out.alloc _) ⟨w5.heap.size, 0, none⟩ 1 1 [.int .i64 op5, .string kind5, .string name5, .slice va5 vn5 vc5, .slice ka5 kn5 kc5] (by rfl) (by rfl) (World.news_of_block (cs := #[.int .i64 op5, .string kind5, .string name5, .slice va5 vn5 vc5, .slice ka5 kn5 kc5]) (t := 29) (fr := (0, 0)) (heap_alloc_new w5 _)) (by simp [Value.oneCell']) (by omega) (by unfold maxLen; omega) (by omega) (by simp; omega) (w5.heap.size + 1) (by simp) ?_; intro gg cap w6 hown6 hgrow6 hat hlt6; have hE6 := own_past (hown5.out.alloc _) (hN5.out.xb.alloc _) hgrow6 (show w.heap.size + 2 < w.heap.size + 3 by omega); have y4' := hE6.cell 4; have z4' := hE6.free 4; simp only [List.getElem?_toArray, List.getElem?_cons_zero, List.getElem?_cons_succ] at y4')
              | (go_simp; go_at_call 29; refine hgo.out.mono ?_; rintro e w5 ⟨⟨M5, op5, kind5, name5, va5, vn5, vc5, ka5, kn5, kc5, rfl, hX5, hS5, hE5⟩, hb5⟩; have hN5 := Lib.hid (hN.out.drew.call hb5 hX5 hS5); have hlj := fun j hj => (hown.out.lt j hj).2; have hO5 := Lib.hid (fun j hj => (hO.out j hj).ext hX5 (hlj j hj)); have hEr5 := Lib.hid (fun j r d h1 h2 => (hEr.out j r d h1 h2).mono hX5.sub); have hown5 := Lib.hid (owns_kept (owns_drew hown.out) (grown_of_below hb5 (some 0)) (by omega)); have hE5' := Lib.hid hE5; obtain ⟨p0, p1, p2, p3, p4⟩ := own5z hN5.out.xb; obtain ⟨q0, q1, q2, q3, q4⟩ := own5z hN5.out.box; have hxl5 : w.heap.size + 2 < w5.heap.size := hN5.out.xb.lt; have f5 := hN5.out.xb.free 4; clear hb5 hX5 hS5 hE5 hlj)))
          all_goals
            have hNx := Lib.hid (relN_next hN5.out hown5.out hrl.out hr5.out hEr5.out hO5.out rfl hd5.out hE5'.out hat hgrow6 hown6)
            clear hgrow6 hown6 hat
            go_wp2
            go_roundw
            case rel => exact ⟨i + 1, by omega, by go_num, hNx⟩
            case measure => simp [intOf]; omega
      | false =>
        have hQ2 := Lib.hid (show negS false (.mk 3 kind name vals kids) = .mk 3 ⟨#[]⟩ ⟨#[]⟩ [] (negL false kids) by rw [hQ.out, if_neg (by decide), if_pos (by decide), if_neg (by decide)]; try rfl)
        have hN0 := Lib.hid (show NX w (((w.alloc (.cells #[.int .i64 3, .string kind, .string name, .slice va vn vc, .slice ka kids.length kc] 29)).alloc (.cells zeroE 29)).alloc (.cells #[.int .i64 3, .string ⟨#[]⟩, .string ⟨#[]⟩, .slice none 0 0, .slice none 0 0] 29)) 3 kind name (.slice va vn vc) (.slice ka kids.length kc) 3 (.slice none 0 0) M0 M0 from
          ⟨(((Below.refl _ _).alloc (Nat.le_refl _) _).alloc (by simp) _).alloc (by simp; omega) _, ((Own.new w _ _).alloc _).alloc _, (Own.new' (by simp)).alloc _, Own.new' (by simp), hM.out, Ext.refl _ _, sub_alloc (sub_alloc (sub_alloc hM.out _) _) _⟩)
        clear hself
        go_enter Tryz.func29, Tryz.ntmps29
        go_wp2_with fail
        have hS := Lib.hid (show RelN w _ 3 kind name (.slice va vn vc) (.slice ka kids.length kc) 3 M0 (negL false kids) 0 from ⟨M0, none, 0, [], hN0.out, World.ownsRow_nil _ _ _ _, rfl, (fun r hr => by cases hr), (fun j r d h1 => by simp at h1), (fun j hj => by cases hj)⟩)
        clear hN0
        unfold zeroE at hS
        generalize ((w.alloc (.cells #[.int .i64 3, .string kind, .string name, .slice va vn vc, .slice ka kids.length kc] 29)).alloc (.cells _ 29)).alloc (.cells #[.int .i64 3, .string ⟨#[]⟩, .string ⟨#[]⟩, .slice none 0 0, .slice none 0 0] 29) = w3 at hS ⊢
        go_loopw [6] (fun s6 wr => ∃ i : Nat, i ≤ kids.length ∧ s6 = .int .i64 i ∧ Hid (RelN w wr 3 kind name (.slice va vn vc) (.slice ka kids.length kc) 3 M0 (negL false kids) i)) (fun s6 _ => kids.length - (intOf s6).toNat)
        case atStart => exact ⟨0, by omega, rfl, hS⟩
        case round =>
          clear hS
          obtain ⟨i, hi8, rfl, hR⟩ := hrel
          obtain ⟨M, xa, xc, rows, hN, hown, hrl, hr5, hEr, hO⟩ := hR.out
          obtain ⟨x0, x1, x2, x3, x4⟩ := own5z hN.xb
          obtain ⟨y0, y1, y2, y3, y4⟩ := own5z hN.box
          have hwz := hN.size
          by_cases hil : i < kids.length
          case neg =>
            obtain rfl : i = kids.length := by omega
            have hR' := hN.res
            unfold zeroE at hR'
            obtain ⟨z0, z1, z2, z3, z4, g0, g1, g2, g3, g4⟩ := own5f hR'
            clear hR'
            have hlow := Lib.hid hN.low
            have hdone := Lib.hid (fun (u : World) (hu : ∀ M' : Mem, Off (w.heap.size + 1) M' → Sub M' wr.cell? → Sub M' u.cell?) => relN_done hN hown hrl hr5 hEr hO (negL_len false kids) hu)
            clear hN hown hrl hr5 hEr hO hR
            go_wp2
            refine bodyPost_ret (v := .agg #[.int .i64 3, .string ⟨#[]⟩, .string ⟨#[]⟩, .slice none 0 0, .slice xa kids.length xc]) (by simp [results, Tryz.results29, go_sem, z0, z1, z2, z3, z4]) rfl ?_
            rw [hQ2.out]
            exact madeE_of (hdone.out _ (fun M' hO hs => sub_setCell (sub_setCell (sub_setCell (sub_setCell (sub_setCell hs hO _) hO _) hO _) hO _) hO _)) (((((hlow.out.setCell (by simp) _).setCell (by simp) _).setCell (by simp) _).setCell (by simp) _).setCell (by simp) _)
          have hmM : Sub m M := hm.out.trans hN.ext.sub
          obtain ⟨blk, off, op', kind', name', va', vn', vc', ka', kn', kc', rfl, c0, c1, c2, c3, c4, hr⟩ := kid_at (hk.out.mono (hmM.trans hN.sub)) hl0.out (fun j r k h1 h2 => hE.out j r k h1 h2) hil
          have n0 : (0 : Int) ≤ (i : Int) := by omega
          have n1 : (i : Int) < (kids.length : Int) := by omega
          have hbl : blk < wr.heap.size := World.block_lt_of_cell? wr _ c0
          have hgo := Lib.hid (ih.out i _ kids[i] hr (List.getElem?_eq_getElem hil) (small_get kids i _ (List.getElem?_eq_getElem hil) hs4.out) false M wr.drew hmM hN.sub)
          have hd5 := Lib.hid (negL_get false kids i _ (List.getElem?_eq_getElem hil))
          have f4 := hN.xb.free 4
          have hxl : w.heap.size + 2 < wr.heap.size := by omega
          generalize kids[i] = kd at hgo hd5
          replace hN := Lib.hid hN
          replace hown := Lib.hid hown
          replace hrl := Lib.hid hrl
          replace hr5 := Lib.hid hr5
          replace hEr := Lib.hid hEr
          replace hO := Lib.hid hO
          clear hr hR hmM
          go_wp2_with fail
          go_region_law
            ((first
              | (refine step_append_lies _ (by rfl) _ _ _ (by rfl) (w.heap.size + 3) 29 i0 _ 5 88 Tryz.underlying27 hi hz0 hz1 hz2 rfl (by omega) (.slice xa i xc) i rows.flatten (by rfl) (hown5.out.alloc _) ⟨w5.heap.size, 0, none⟩ 1 1 [.int .i64 op5, .string kind5, .string name5, .slice va5 vn5 vc5, .slice ka5 kn5 kc5] (by rfl) (by rfl) (World.news_of_block (cs := #[.int .i64 op5, .string kind5, .string name5, .slice va5 vn5 vc5, .slice ka5 kn5 kc5]) (t := 29) (fr := (0, 0)) (heap_alloc_new w5 _)) (by simp [Value.oneCell']) (by omega) (by unfold maxLen; omega) (by omega) (by simp; omega) (w5.heap.size + 1) (by simp) ?_; intro gg cap w6 hown6 hgrow6 hat hlt6; have hE6 := own_past (hown5.out.alloc _) (hN5.out.xb.alloc _) hgrow6 (show w.heap.size + 2 < w.heap.size + 3 by omega); have y4' := hE6.cell 4; have z4' := hE6.free 4; simp only [List.getElem?_toArray, List.getElem?_cons_zero, List.getElem?_cons_succ] at y4')
              | (go_simp; go_at_call 29; refine hgo.out.mono ?_; rintro e w5 ⟨⟨M5, op5, kind5, name5, va5, vn5, vc5, ka5, kn5, kc5, rfl, hX5, hS5, hE5⟩, hb5⟩; have hN5 := Lib.hid (hN.out.drew.call hb5 hX5 hS5); have hlj := fun j hj => (hown.out.lt j hj).2; have hO5 := Lib.hid (fun j hj => (hO.out j hj).ext hX5 (hlj j hj)); have hEr5 := Lib.hid (fun j r d h1 h2 => (hEr.out j r d h1 h2).mono hX5.sub); have hown5 := Lib.hid (owns_kept (owns_drew hown.out) (grown_of_below hb5 (some 0)) (by omega)); have hE5' := Lib.hid hE5; obtain ⟨p0, p1, p2, p3, p4⟩ := own5z hN5.out.xb; obtain ⟨q0, q1, q2, q3, q4⟩ := own5z hN5.out.box; have hxl5 : w.heap.size + 2 < w5.heap.size := hN5.out.xb.lt; have f5 := hN5.out.xb.free 4; clear hb5 hX5 hS5 hE5 hlj)))
          all_goals
            have hNx := Lib.hid (relN_next hN5.out hown5.out hrl.out hr5.out hEr5.out hO5.out rfl hd5.out hE5'.out hat hgrow6 hown6)
            clear hgrow6 hown6 hat
            go_wp2
            go_roundw
            case rel => exact ⟨i + 1, by omega, by go_num, hNx⟩
            case measure => simp [intOf]; omega
  have e4 : (op == 4) = false := by simpa using h4
  have e2 : (op == 2) = false := by simp; omega
  have e3 : (op == 3) = false := by simp; omega
  clear hv hk hl0 hL hE ih hs1 hs2 hs3 hs4 hm hi hz0 hz1 hz2
  cases b with
  | false =>
    have hQ2 := Lib.hid (show negS false (.mk op kind name vals kids) = .mk op kind name vals kids by rw [hQ.out, if_neg h4, if_neg h23, if_neg (by decide)])
    have hB1 := Lib.hid (show Below w.heap.size w ((w.alloc (.cells #[.int .i64 op, .string kind, .string name, .slice va vn vc, .slice ka kids.length kc] 29)).alloc (.cells #[.int .i64 op, .string kind, .string name, .slice va vn vc, .slice ka kids.length kc] 29)) from ((Below.refl _ _).alloc (Nat.le_refl _) _).alloc (by simp) _)
    clear h4 h23
    go_enter Tryz.func29, Tryz.ntmps29
    go_wp2
    refine bodyPost_ret (v := .agg #[.int .i64 op, .string kind, .string name, .slice va vn vc, .slice ka kids.length kc]) (by simp [results, Tryz.results29, go_sem]) rfl ?_
    exact ⟨⟨M0, _, _, _, _, _, _, _, _, _, rfl, Ext.refl _ _, hM.out.trans (sub_of_below hB1.out), by rw [hQ2.out]; exact hself.out⟩, hB1.out⟩
  | true =>
    have hQ2 := Lib.hid (show negS true (.mk op kind name vals kids) = .mk 4 ⟨#[]⟩ ⟨#[]⟩ [] [.mk op kind name vals kids] by rw [hQ.out, if_neg h4, if_neg h23, if_pos rfl])
    have hU : ∀ u : World, u = (((w.alloc (.cells #[.int .i64 op, .string kind, .string name, .slice va vn vc, .slice ka kids.length kc] 29)).alloc (.cells #[.int .i64 4, .string ⟨#[]⟩, .string ⟨#[]⟩, .slice none 0 0, .slice (some ⟨w.heap.size + 2, 0, none⟩) 1 1] 29)).alloc (.cells #[.int .i64 op, .string kind, .string name, .slice va vn vc, .slice ka kids.length kc] 29)) →
        Below w.heap.size w u ∧ Own u (w.heap.size + 2) #[.int .i64 op, .string kind, .string name, .slice va vn vc, .slice ka kids.length kc] 29 := by
      rintro u rfl
      exact ⟨(((Below.refl _ _).alloc (Nat.le_refl _) _).alloc (by simp) _).alloc (by simp; omega) _, Own.new' (by simp)⟩
    replace hU := Lib.hid hU
    clear h4 h23
    go_enter Tryz.func29, Tryz.ntmps29
    go_wp2
    refine bodyPost_ret (v := .agg #[.int .i64 4, .string ⟨#[]⟩, .string ⟨#[]⟩, .slice none 0 0, .slice (some ⟨w.heap.size + 2, 0, none⟩) 1 1]) (by simp [results, Tryz.results29, go_sem]) rfl ?_
    obtain ⟨hB, hOw⟩ := hU.out _ rfl
    have hoff : Off (w.heap.size + 2) M0 := off_new hM.out (by omega)
    have hS := hM.out.trans (sub_of_below hB)
    refine ⟨⟨addB M0 (w.heap.size + 2) _, _, _, _, _, _, _, _, _, _, rfl, addB_ext hoff (by omega), addB_sub hS, ?_⟩, hB⟩
    rw [hQ2.out]
    exact eat_not (addB_rows (rows_of_own hOw 5 [[.int .i64 op, .string kind, .string name, .slice va vn vc, .slice ka kids.length kc]] (by simp) rfl 1 (by simp) (by decide))) (hself.out.mono (addB_ext hoff (Nat.le_refl _)).sub)

/-- The law's negate. -/
theorem neg_any (m : Mem) (d : ED) (r : List Value) (h : EAt m d r) : NegOk m d r := by
  induction h with
  | mk rows hv hk hl hL hE ih => exact neg_step m _ _ _ _ _ _ _ rows hv hk hl hL hE ih

end Go.Proofs.YtlohdmghaeabjaaGreatDoor.clause

