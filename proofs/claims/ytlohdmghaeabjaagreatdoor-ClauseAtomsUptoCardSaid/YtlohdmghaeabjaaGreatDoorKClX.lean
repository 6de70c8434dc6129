/- Copies: conditions. -/
import Derived.Test.YtlohdmghaeabjaaGreatDoorKClC
import Derived.Test.YtlohdmghaeabjaaGreatDoorKJ7
import Derived.Test.YtlohdmghaeabjaaGreatDoorKDrawC
import Derived.Test.YtlohdmghaeabjaaGreatDoorKClE
namespace Go.Proofs.YtlohdmghaeabjaaGreatDoor.clause
open Go.RowKit Go.Proofs.YtlohdmghaeabjaaGreatDoor Go.Proofs.YtlohdmghaeabjaaGreatDoor.schema Go.Proofs.YtlohdmghaeabjaaGreatDoor.value Go.Proofs.YtlohdmghaeabjaaGreatDoor.text Go.Proofs.YtlohdmghaeabjaaGreatDoor.draw

/- Two conditions of one content. -/
mutual
def SameE : ED → ED → Prop
  | .mk op k n v ks, .mk op' k' n' v' ks' => op = op' ∧ k = k' ∧ n = n' ∧ SameL v v' ∧ SameEL ks ks'
def SameEL : List ED → List ED → Prop
  | [], [] => True
  | a :: r, b :: s => SameE a b ∧ SameEL r s
  | _, _ => False
end
theorem SameEL.snoc : ∀ {l' l : List ED} {a b : ED}, SameEL l' l → SameE a b → SameEL (l' ++ [a]) (l ++ [b])
  | [], [], _, _, _, h => ⟨h, trivial⟩
  | [], _ :: _, _, _, h, _ => by simp [SameEL] at h
  | _ :: _, [], _, _, h, _ => by simp [SameEL] at h
  | _ :: _, _ :: _, _, _, h, h2 => ⟨h.1, h.2.snoc h2⟩
theorem SameEL.len : ∀ {l' l : List ED}, SameEL l' l → l'.length = l.length
  | [], [], _ => rfl
  | [], _ :: _, h => by simp [SameEL] at h
  | _ :: _, [], h => by simp [SameEL] at h
  | _ :: _, _ :: _, h => by simp [h.2.len]

theorem fewL_get {N : Nat} : ∀ {l : List ED} {i : Nat} {k : ED}, fewL N l → l[i]? = some k → fewE N k
  | [], _, _, _, h => by simp at h
  | x :: r, 0, _, h, hi => by simp at hi; rw [← hi]; exact h.1
  | x :: r, i + 1, _, h, hi => fewL_get (l := r) (i := i) h.2 (by simpa using hi)

/-- What a copy of a condition is. -/
def CloneIs (w : World) (d : ED) (e : Ending) (w' : World) : Prop :=
  (∃ (d' : ED) (op : Int) (kind name : ByteArray) (va : Option Addr) (vn vc : Nat) (ka : Option Addr) (kn kc : Nat), e = .returned (.agg #[.int .i64 op, .string kind, .string name, .slice va vn vc, .slice ka kn kc]) ∧ SameE d' d ∧
    EAt (newM w.heap.size 0 w') d' [.int .i64 op, .string kind, .string name, .slice va vn vc, .slice ka kn kc]) ∧ Below w.heap.size w w'

/-- What the copying loop holds. -/
structure RelX (w wr : World) (l : List ED) (k : Nat) (ka : Option Addr) (kc : Nat) (rows : List (List Value)) (acc : List ED) : Prop where
  low : Below w.heap.size w wr
  own : wr.ownsRow w.heap.size 29 5 (.slice ka k kc) k rows.flatten
  len : rows.length = k
  five : ∀ r ∈ rows, r.length = 5
  ats : ∀ (i : Nat) (r : List Value) (d : ED), rows[i]? = some r → acc[i]? = some d → EAt (newG w.heap.size 0 (Value.slice ka k kc).ownBlock wr) d r
  same : SameEL acc (l.take k)

set_option maxRecDepth 100000 in
set_option maxHeartbeats 4000000 in
theorem eachE (kids : List ED) (rows : List (List Value)) (a : Option Addr) (n c : Nat) (w : World) (h : RowsAt w.cell? 5 (.slice a n c) rows) (hl : rows.length = kids.length)
    (hE : ∀ (i : Nat) (r : List Value) (k : ED), rows[i]? = some r → kids[i]? = some k → EAt w.cell? k r) (hn : kids.length ≤ 1099511627776) (h0 : 0 < w.heap.size)
    (hcl : ∀ (i : Nat) (r : List Value) (k : ED) (w' : World), rows[i]? = some r → kids[i]? = some k → Below w.heap.size w w' → Calls Tryz.prog 60 #[.agg r.toArray] w' (CloneIs w' k)) :
    Calls Tryz.prog 58 #[.slice a n c, .func (.func 60) #[] #[]] w fun e w' => (∃ a' c' kids' rows', e = .returned (.slice a' kids.length c') ∧ SameEL kids' kids ∧ rows'.length = kids'.length ∧ RowsAt (newM w.heap.size 0 w') 5 (.slice a' kids.length c') rows' ∧
      ∀ (i : Nat) (r : List Value) (k : ED), rows'[i]? = some r → kids'[i]? = some k → EAt (newM w.heap.size 0 w') k r) ∧ Below w.heap.size w w' := by
  have hln := (len_of h).1
  rw [hl] at hln
  subst hln
  have hR := Lib.hid h
  replace hE := Lib.hid hE
  replace hcl := Lib.hid hcl
  replace hl := Lib.hid hl
  clear h
  obtain ⟨i0, hi, hz0, hz1, hz2⟩ := info_parts info26
  go_enter Tryz.func58, Tryz.ntmps58
  go_wp2_with (at_make; refine wpList_make_own _ rfl _ _ 27 rfl w.heap.size 29 i0 (.agg #[.int .i64 0, .string ⟨#[]⟩, .string ⟨#[]⟩, .slice none 0 0, .slice none 0 0]) 5 Tryz.underlying27 hi hz0 hz1 _ _ _ kids.length rfl rfl rfl ?b2 ?b3 (Nat.le_refl _) ?_)
  case b2 => rw [hz2]; omega
  case b3 => unfold maxLen; omega
  intro w0 hown0 hgrow0
  have hb0 : Below w.heap.size w w0 := ⟨hgrow0.os, hgrow0.tape, hgrow0.output, hgrow0.size, fun k hk => hgrow0.block k hk (by simp)⟩
  have hS := Lib.hid (show RelX w w0 kids 0 (some ⟨w.heap.size, 0, none⟩) kids.length [] [] from ⟨hb0, hown0, rfl, (fun r hr => by cases hr), (fun i r d hi => by simp at hi), trivial⟩)
  clear hown0 hgrow0 hb0
  go_wp2
  go_loopw [5, 13] (fun s5 s13 wr => ∃ (k : Nat) (ka : Option Addr) (kc : Nat) (rs : List (List Value)) (acc : List ED), k ≤ kids.length ∧ s13 = .int .i64 k ∧ s5 = .slice ka k kc ∧ Hid (RelX w wr kids k ka kc rs acc)) (fun _ s13 _ => kids.length - (intOf s13).toNat)
  case atStart => exact ⟨0, some ⟨w.heap.size, 0, none⟩, kids.length, [], [], by omega, rfl, rfl, hS⟩
  case round =>
    clear hS
    obtain ⟨k, ka, kc, rs, acc, hk, rfl, rfl, hK⟩ := hrel
    by_cases hlt : k < kids.length
    case neg =>
      obtain rfl : k = kids.length := by omega
      go_wp2
      go_ret
      have hsm := hK.out.same
      rw [List.take_length] at hsm
      have hacc := hsm.len
      refine ⟨⟨ka, kc, acc, rs, rfl, hsm, by rw [hK.out.len, hacc], ?_, fun i r d h1 h2 => (hK.out.ats i r d h1 h2).mono (newG_none _ _ _ _)⟩, hK.out.low⟩
      exact rows_of_owns_new hK.out.own (Nat.le_refl _) h0 rs hK.out.len.symm hK.out.five rfl
    obtain ⟨blk, off, op, kind, name, va, vn, vc, xa, xn, xc, rfl, c0, c1, c2, c3, c4, hr⟩ := kid_at (hR.out.mono (sub_of_below hK.out.low)) hl.out (fun j r k h1 h2 => hE.out j r k h1 h2) hlt
    have n0 : (0 : Int) ≤ (k : Int) := by omega
    have n1 : (k : Int) < (kids.length : Int) := by omega
    have hbl : blk < wr.heap.size := World.block_lt_of_cell? wr _ c0
    have hb1 : Below wr.heap.size wr (wr.alloc (.cells #[.int .i64 op, .string kind, .string name, .slice va vn vc, .slice xa xn xc] 29)) := (Below.refl _ _).alloc (Nat.le_refl _) _
    have hwr : w.heap.size ≤ wr.heap.size := hK.out.low.size
    have hgo := Lib.hid (hcl.out k _ kids[k] _ hr (List.getElem?_eq_getElem hlt) (hK.out.low.trans (hb1.mono hwr)))
    replace hb1 := Lib.hid hb1
    have htk := Lib.hid (show kids.take (k + 1) = kids.take k ++ [kids[k]] by rw [List.take_succ_eq_append_getElem hlt])
    generalize kids[k] = kd at hgo htk
    clear hr
    go_wp2_with fail
    refine hgo.out.mono ?_
    rintro e w4 ⟨⟨d', op', kind', name', va', vn', vc', ka', kn', kc', rfl, hsv, hEd⟩, hb4⟩
    have hbb := hb1.out.trans (hb4.mono hb1.out.size)
    have hsz4 : wr.heap.size + 1 ≤ w4.heap.size := by have := hb4.size; simpa using this
    have hltO : ∀ j, (Value.slice ka k kc).ownBlock = some j → j < wr.heap.size := fun j hj => (hK.out.own.lt j hj).2
    have hown5 := Lib.hid ((owns_kept hK.out.own (grown_of_below hbb (some 0)) h0).alloc (.cells #[.int .i64 op', .string kind', .string name', .slice va' vn' vc', .slice ka' kn' kc'] 29))
    have hEd4 := Lib.hid (hEd.mono (newM_newG (B := w.heap.size) (g := (Value.slice ka k kc).ownBlock) (by simp; omega) (fun j hj => by have := hltO j hj; simp; omega) w4))
    have hats4 := Lib.hid (fun (i : Nat) (r : List Value) (d : ED) (h1 : rs[i]? = some r) (h2 : acc[i]? = some d) => (hK.out.ats i r d h1 h2).mono (newG_grown (grown_of_below hbb (some 0))))
    have hB4 := Lib.hid (hK.out.low.trans (hbb.mono hwr))
    have hB4s : w.heap.size ≤ w4.heap.size := by omega
    have hsm := Lib.hid (show SameEL (acc ++ [d']) (kids.take (k + 1)) by rw [htk.out]; exact hK.out.same.snoc hsv)
    have hlen := hK.out.len
    have hfive := Lib.hid hK.out.five
    have hal := Lib.hid (show acc.length = k by have := hK.out.same.len; rw [List.length_take, Nat.min_eq_left (by omega)] at this; exact this)
    clear hbb hb4 hEd hb1 hgo htk hltO c0 c1 c2 c3 c4 hsv hK
    go_wp2_with (at_builtin; refine wpList_append_lies _ rfl _ _ 27 rfl w.heap.size 29 i0 (.agg #[.int .i64 0, .string ⟨#[]⟩, .string ⟨#[]⟩, .slice none 0 0, .slice none 0 0]) 5 88 Tryz.underlying27 hi hz0 hz1 hz2 rfl (by decide) (.slice ka k kc) k rs.flatten rfl hown5.out ⟨w4.heap.size, 0, none⟩ 1 1 [.int .i64 op', .string kind', .string name', .slice va' vn' vc', .slice ka' kn' kc'] rfl rfl (World.news_of_block (cs := #[.int .i64 op', .string kind', .string name', .slice va' vn' vc', .slice ka' kn' kc']) (t := 29) (fr := (0, 0)) (Own.new' rfl)) (by simp [Value.oneCell']) (by omega) (by unfold maxLen; omega) (by omega) (by simp; omega) (w4.heap.size + 1) (by simp) ?_; intro g cap w6 hown6 hgrow6 hat6 hgl6; replace hown6 := Lib.hid hown6; replace hat6 := Lib.hid hat6; replace hgrow6 := Lib.hid hgrow6)
    have hat : (Value.slice ka k kc).ownBlock = some g ∨ g = (w4.alloc (.cells #[.int .i64 op', .string kind', .string name', .slice va' vn' vc', .slice ka' kn' kc'] 29)).heap.size := hat6.out.imp id (fun e => by rw [e]; simp)
    have mX : Sub (newG w.heap.size 0 (Value.slice ka k kc).ownBlock w4) (newG w.heap.size 0 (some g) w6) := (newG_grown (World.grownBy_alloc w4 _ _)).trans (newG_app hgrow6.out hat)
    have hK6 := Lib.hid (show RelX w w6 kids (k + 1) (some ⟨g, 0, none⟩) cap (rs ++ [[.int .i64 op', .string kind', .string name', .slice va' vn' vc', .slice ka' kn' kc']]) (acc ++ [d']) from
      ⟨(hB4.out.alloc hB4s _).grown hgrow6.out (by simp; omega) (fun j hj => (hown5.out.lt j hj).1), by simpa using hown6.out, by simp [hlen], (fun r hr => by
          rcases List.mem_append.1 hr with hr | hr
          · exact hfive.out r hr
          · rw [List.mem_singleton.1 hr]; rfl), (fun i r d h1 h2 => by
          rcases Nat.lt_or_ge i k with hi | hi
          · rw [List.getElem?_append_left (by omega)] at h1
            rw [List.getElem?_append_left (by have := hal.out; omega)] at h2
            exact (hats4.out i r d h1 h2).mono mX
          · rw [List.getElem?_append_right (by omega), List.getElem?_singleton] at h1
            rw [List.getElem?_append_right (by have := hal.out; omega), List.getElem?_singleton] at h2
            have h3 := hal.out
            by_cases hik : i - k = 0
            · rw [if_pos (by omega)] at h1 h2
              obtain rfl := Option.some.inj h1
              obtain rfl := Option.some.inj h2
              exact hEd4.out.mono mX
            · rw [if_neg (by omega)] at h1
              cases h1), hsm.out⟩)
    clear hat mX hown6 hgrow6 hat6 hown5 hB4 hsm hEd4 hats4 hal hfive
    go_wp2
    go_roundw
    case rel => exact ⟨k + 1, _, _, _, _, by omega, by go_num, rfl, hK6⟩
    case measure => simp [intOf]; omega

def CloneOk (m : Mem) (d : ED) (r : List Value) : Prop := fewE 1099511627776 d → ∀ w : World, Sub m w.cell? → Calls Tryz.prog 60 #[.agg r.toArray] w (CloneIs w d)
theorem own5f {w : World} {n : Nat} {x0 x1 x2 x3 x4 : Value} {t : TypeId} (h : Own w n #[x0, x1, x2, x3, x4] t) :
    w.cell? ⟨n, 0, none⟩ = some x0 ∧ w.cell? ⟨n, 1, none⟩ = some x1 ∧ w.cell? ⟨n, 2, none⟩ = some x2 ∧ w.cell? ⟨n, 3, none⟩ = some x3 ∧ w.cell? ⟨n, 4, none⟩ = some x4 ∧
    w.frozen? ⟨n, 0, none⟩ = false ∧ w.frozen? ⟨n, 1, none⟩ = false ∧ w.frozen? ⟨n, 2, none⟩ = false ∧ w.frozen? ⟨n, 3, none⟩ = false ∧ w.frozen? ⟨n, 4, none⟩ = false :=
  ⟨h.cell 0, h.cell 1, h.cell 2, h.cell 3, h.cell 4, h.free 0, h.free 1, h.free 2, h.free 3, h.free 4⟩

theorem EAtSet {B b : Nat} {w : World} {q : Addr} {d : ED} {r : List Value} (h : EAt (newM B b w) d r) (hq : q.block < B) (x : Value) : EAt (newM B b (w.setCell q x)) d r := h.mono (newM_set hq x)

set_option maxRecDepth 100000 in
set_option maxHeartbeats 4000000 in
theorem clone_step (m : Mem) (op : Int) (kind name : ByteArray) (vals : List VD) (kids : List ED) (vs ks : Value) (rows : List (List Value)) (hv : RowsAt m 4 vs (vals.map VD.row)) (hk : RowsAt m 5 ks rows) (hl : rows.length = kids.length) (hL : ∀ v ∈ vals, LAt m v)
    (hE : ∀ (i : Nat) (r : List Value) (k : ED), rows[i]? = some r → kids[i]? = some k → EAt m k r)
    (ih : ∀ (j : Nat) (r : List Value) (k : ED), rows[j]? = some r → kids[j]? = some k → CloneOk m k r) :
    CloneOk m (.mk op kind name vals kids) [.int .i64 op, .string kind, .string name, vs, ks] := by
  intro hfew w hs
  obtain ⟨hf1, hf2, hf3⟩ := hfew
  obtain ⟨va, vn, vc, rfl⟩ : ∃ a n c, vs = .slice a n c := by obtain ⟨a, c, h, -⟩ := hv; exact ⟨_, _, _, h⟩
  obtain ⟨ka, kn, kc, rfl⟩ : ∃ a n c, ks = .slice a n c := by obtain ⟨a, c, h, -⟩ := hk; exact ⟨_, _, _, h⟩
  have hB : Below w.heap.size w ((w.alloc (.cells #[.int .i64 op, .string kind, .string name, .slice va vn vc, .slice ka kn kc] 29)).alloc (.cells #[.int .i64 0, .string ⟨#[]⟩, .string ⟨#[]⟩, .slice none 0 0, .slice none 0 0] 29)) := ((Below.refl _ _).alloc (Nat.le_refl _) _).alloc (by simp) _
  have hX := (Own.new w #[.int .i64 op, .string kind, .string name, .slice va vn vc, .slice ka kn kc] 29).alloc (.cells #[.int .i64 0, .string ⟨#[]⟩, .string ⟨#[]⟩, .slice none 0 0, .slice none 0 0] 29)
  have hZ := Own.new (w.alloc (.cells #[.int .i64 op, .string kind, .string name, .slice va vn vc, .slice ka kn kc] 29)) #[.int .i64 0, .string ⟨#[]⟩, .string ⟨#[]⟩, .slice none 0 0, .slice none 0 0] 29
  rw [World.size_alloc] at hZ
  have hsz1 : ((w.alloc (.cells #[.int .i64 op, .string kind, .string name, .slice va vn vc, .slice ka kn kc] 29)).alloc (.cells #[.int .i64 0, .string ⟨#[]⟩, .string ⟨#[]⟩, .slice none 0 0, .slice none 0 0] 29)).heap.size = w.heap.size + 2 := by simp
  have hs1 := hs.trans (sub_of_below hB)
  have hgo := Lib.hid (eachV vals va vn vc _ (hv.mono hs1) (fun v hm => (hL v hm).mono hs1) hf1 (by simp))
  replace hs := Lib.hid hs
  replace hk := Lib.hid hk
  replace hE := Lib.hid hE
  replace ih := Lib.hid ih
  replace hf3 := Lib.hid hf3
  replace hl := Lib.hid hl
  replace hB := Lib.hid hB
  replace hX := Lib.hid hX
  replace hZ := Lib.hid hZ
  clear hv hL hs1
  go_enter Tryz.func60, Tryz.ntmps60
  go_wp2_with fail
  refine hgo.out.mono ?_
  rintro e w2 ⟨⟨a', c', l', rfl, hsame, hrows, hlat⟩, hb2⟩
  have hX2 := hX.out.below hb2 (by simp; omega)
  have hZ2 := hZ.out.below hb2 (by simp)
  have hB2 := hB.out.trans (hb2.mono hB.out.size)
  rw [hsz1] at hrows hlat
  have hw2 : w.heap.size + 2 ≤ w2.heap.size := by have := hb2.size; rw [hsz1] at this; exact this
  have hX3 := hX2.set 3 (.slice a' vals.length c')
  have hZ3 := hZ2.setOther (p := ⟨w.heap.size, 3, none⟩) (by simp) (.slice a' vals.length c')
  have hB3 := hB2.setCell (p := ⟨w.heap.size, 3, none⟩) (by simp) (.slice a' vals.length c')
  have hx2l : w.heap.size < w2.heap.size := by omega
  obtain ⟨x0, x1, x2, x3, x4, f0, f1, f2, f3, f4⟩ := own5f hX2
  have hsm3 : (w2.setCell ⟨w.heap.size, 3, none⟩ (.slice a' vals.length c')).heap.size = w2.heap.size := by simp
  have hs3 := hs.out.trans (sub_of_below hB3)
  have hgo2 := Lib.hid (eachE kids rows ka kn kc _ (hk.out.mono hs3) hl.out (fun i r k h1 h2 => (hE.out i r k h1 h2).mono hs3) hf2 (by rw [hsm3]; omega) (fun i r k w' h1 h2 hb => ih.out i r k h1 h2 (fewL_get hf3.out h2) w' (hs3.trans (sub_of_below hb))))
  have hm3 : Sub (newM (w.heap.size + 2) 0 w2) (newM (w.heap.size + 2) 0 (w2.setCell ⟨w.heap.size, 3, none⟩ (.slice a' vals.length c'))) := newM_set (by simp) _
  have hrows3 := Lib.hid (hrows.mono hm3)
  have hlat3 := Lib.hid (fun u hu => (hlat u hu).mono hm3)
  replace hsame := Lib.hid hsame
  replace hX3 := Lib.hid hX3
  replace hZ3 := Lib.hid hZ3
  replace hB3 := Lib.hid hB3
  clear hgo hb2 hX2 hZ2 hB2 hs3 hm3 hrows hlat hX hZ hB
  go_wp2_with fail
  refine hgo2.out.mono ?_
  rintro e w4 ⟨⟨a2, c2, kids', rows', rfl, hsk, hlr, hr4, hE4⟩, hb4⟩
  rw [hsm3] at hr4 hE4
  have hX4 := hX3.out.below hb4 (by rw [hsm3]; omega)
  have hZ4 := hZ3.out.below hb4 (by rw [hsm3]; omega)
  have hB4 := Lib.hid (hB3.out.trans (hb4.mono hB3.out.size))
  have hw4 : w.heap.size + 2 ≤ w4.heap.size := by have := hb4.size; rw [hsm3] at this; omega
  have hm4 : Sub (newM (w.heap.size + 2) 0 (w2.setCell ⟨w.heap.size, 3, none⟩ (.slice a' vals.length c'))) (newM (w.heap.size + 2) 0 w4) := newM_grown (grown_of_below hb4 (some 0))
  have hrows4 := Lib.hid (hrows3.out.mono hm4)
  have hlat4 := Lib.hid (fun u hu => (hlat3.out u hu).mono hm4)
  have hr4' := Lib.hid (hr4.mono (newM_mono (B := w.heap.size + 2) hw2 0 w4))
  have hE4' := Lib.hid (fun i r k h1 h2 => (hE4 i r k h1 h2).mono (newM_mono (B := w.heap.size + 2) hw2 0 w4))
  obtain ⟨x0, x1, x2, x3, x4, f0, f1, f2, f3, f4⟩ := own5f hX4
  obtain ⟨z0, z1, z2, z3, z4, g0, g1, g2, g3, g4⟩ := own5f hZ4
  have hx4l : w.heap.size < w4.heap.size := by omega
  have hz4l : w.heap.size + 1 < w4.heap.size := by omega
  clear hgo2 hb4 hX3 hZ3 hB3 hm4 hrows3 hlat3 hr4 hE4 hX4 hZ4 hs hk hE ih hf3
  go_wp2
  refine bodyPost_ret (v := .agg #[.int .i64 op, .string kind, .string name, .slice a' vals.length c', .slice a2 kids.length c2]) (by simp [results, Tryz.results60, go_sem, z0, z1, z2, z3, z4]) rfl ?_
  have hl' := hsame.out.1
  have hk' := hsk.len
  refine ⟨⟨.mk op kind name l' kids', op, kind, name, a', vals.length, c', a2, kids.length, c2, rfl, ⟨rfl, rfl, rfl, hsame.out, hsk⟩, ?_⟩, ?_⟩
  · have hE5 : EAt (newM (w.heap.size + 2) 0 w4) (.mk op kind name l' kids') [.int .i64 op, .string kind, .string name, .slice a' vals.length c', .slice a2 kids.length c2] := EAt.mk rows' hrows4.out hr4'.out hlr hlat4.out hE4'.out
    exact EAt.mono (newM_mono (B := w.heap.size) (B' := w.heap.size + 2) (by omega) 0 _) (EAtSet (EAtSet (EAtSet (EAtSet (EAtSet (EAtSet hE5 (by simp) _) (by simp) _) (by simp) _) (by simp) _) (by simp) _) (by simp) _)
  · exact ((((((hB4.out.setCell (by simp) _).setCell (by simp) _).setCell (by simp) _).setCell (by simp) _).setCell (by simp) _).setCell (by simp) _)

/-- A condition is copied. -/
theorem clone_any (m : Mem) (d : ED) (r : List Value) (h : EAt m d r) : CloneOk m d r := by
  induction h with
  | mk rows hv hk hl hL hE ih => exact clone_step m _ _ _ _ _ _ _ rows hv hk hl hL hE ih

end Go.Proofs.YtlohdmghaeabjaaGreatDoor.clause

