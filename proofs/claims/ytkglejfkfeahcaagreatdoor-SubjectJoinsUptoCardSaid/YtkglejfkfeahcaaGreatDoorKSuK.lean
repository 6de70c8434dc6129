/- Copies of attributes, contexts and subjects. -/
import Derived.Test.YtkglejfkfeahcaaGreatDoorKClC
import Derived.Test.YtkglejfkfeahcaaGreatDoorKSuS
namespace Go.Proofs.YtkglejfkfeahcaaGreatDoor.subj
open Go.RowKit Go.Proofs.YtkglejfkfeahcaaGreatDoor Go.Proofs.YtkglejfkfeahcaaGreatDoor.schema Go.Proofs.YtkglejfkfeahcaaGreatDoor.value Go.Proofs.YtkglejfkfeahcaaGreatDoor.text Go.Proofs.YtkglejfkfeahcaaGreatDoor.clause Go.Proofs.YtkglejfkfeahcaaGreatDoor.draw

/-- Two lists that are alike element by element. -/
def Alike {α : Type} (R : α → α → Prop) (l' l : List α) : Prop := l'.length = l.length ∧ ∀ i (h' : i < l'.length) (h : i < l.length), R l'[i] l[i]
theorem Alike.snoc {α : Type} {R : α → α → Prop} {l' l : List α} {k : Nat} {d : α} (h : Alike R l' (l.take k)) (hk : k < l.length) (hd : R d l[k]) : Alike R (l' ++ [d]) (l.take (k + 1)) := by
  have hl := h.1
  rw [List.length_take, Nat.min_eq_left (by omega)] at hl
  refine ⟨by simp [hl]; omega, fun i h1 h2 => ?_⟩
  rw [List.length_append, List.length_singleton] at h1
  rcases Nat.lt_or_ge i k with hi | hi
  · rw [List.getElem_append_left (by omega), List.getElem_take]
    have := h.2 i (by omega) (by simp; omega)
    rw [List.getElem_take] at this
    exact this
  · obtain rfl : i = k := by omega
    rw [List.getElem_append_right (by omega), List.getElem_take]
    simp only [hl, Nat.sub_self, List.getElem_cons_zero]
    exact hd
def SameA (a' a : AD) : Prop := a'.name = a.name ∧ SameV a'.val a.val
def SameC (c' c : CT) : Prop := c'.kind = c.kind ∧ c'.key = c.key ∧ Alike SameA c'.attrs c.attrs
def AAt (m : Mem) (a : AD) : Prop := LAt m a.val
theorem AAt.mono {m m' : Mem} (hs : Sub m m') {a : AD} (h : AAt m a) : AAt m' a := LAt.mono hs h
theorem ad_one' (d : AD) : ∀ u ∈ d.row, u.oneCell' = true := by simp [AD.row, VD.row, Value.oneCell']
theorem ct_one' (d : CT) : ∀ u ∈ d.row, u.oneCell' = true := by simp [CT.row, Value.oneCell']
theorem info5 : (Tryz.prog.info? 55).map (fun i => (i.zero, i.size, i.bytes)) = some (some (.agg #[.string ⟨#[]⟩, .int .i64 0, .int .i64 0, .string ⟨#[]⟩, .slice none 0 0]), 5, 72) := by kernel_rfl
theorem info3 : (Tryz.prog.info? 41).map (fun i => (i.zero, i.size, i.bytes)) = some (some (.agg #[.string ⟨#[]⟩, .string ⟨#[]⟩, .slice none 0 0]), 3, 56) := by kernel_rfl

set_option maxHeartbeats 1000000 in
/-- An attribute is copied. -/
theorem clone_attr (d : AD) (w : World) (h : AAt w.cell? d) :
    Calls Tryz.prog 55 #[.agg #[.string d.name, .int .i64 d.val.kind, .int .i64 d.val.num, .string d.val.text, .slice d.val.ptr d.val.len d.val.cap]] w fun e w' => (∃ d' : AD, e = .returned (.agg #[.string d'.name, .int .i64 d'.val.kind, .int .i64 d'.val.num, .string d'.val.text, .slice d'.val.ptr d'.val.len d'.val.cap]) ∧ SameA d' d ∧ AAt (newM w.heap.size 0 w') d') ∧ Below w.heap.size w w' := by
  have hB : Below w.heap.size w ((w.alloc (.cells #[.string d.name, .int .i64 d.val.kind, .int .i64 d.val.num, .string d.val.text, .slice d.val.ptr d.val.len d.val.cap] 55)).alloc (.cells #[.string ⟨#[]⟩, .int .i64 0, .int .i64 0, .string ⟨#[]⟩, .slice none 0 0] 55)) := ((Below.refl _ _).alloc (Nat.le_refl _) _).alloc (by simp) _
  have hX := Lib.hid ((Own.new w #[.string d.name, .int .i64 d.val.kind, .int .i64 d.val.num, .string d.val.text, .slice d.val.ptr d.val.len d.val.cap] 55).alloc (.cells #[.string ⟨#[]⟩, .int .i64 0, .int .i64 0, .string ⟨#[]⟩, .slice none 0 0] 55))
  have hZ := Own.new (w.alloc (.cells #[.string d.name, .int .i64 d.val.kind, .int .i64 d.val.num, .string d.val.text, .slice d.val.ptr d.val.len d.val.cap] 55)) #[.string ⟨#[]⟩, .int .i64 0, .int .i64 0, .string ⟨#[]⟩, .slice none 0 0] 55
  rw [World.size_alloc] at hZ
  replace hZ := Lib.hid hZ
  have hL := Lib.hid (h.mono (sub_of_below hB))
  replace hB := Lib.hid hB
  clear h
  go_enter Tryz.func55, Tryz.ntmps55
  go_wp2_with fail
  refine (clone_value d.val _ hL.out).mono ?_
  rintro e w1 ⟨⟨v', rfl, hsv, hr⟩, hb⟩
  have hX1 := hX.out.below hb (by simp; omega)
  have hZ1 := hZ.out.below hb (by simp)
  obtain ⟨x0, x1, x2, x3, x4⟩ := own5z hX1
  obtain ⟨z0, z1, z2, z3, z4⟩ := own5z hZ1
  have f1 := hX1.free 1
  have f2 := hX1.free 2
  have f3 := hX1.free 3
  have f4 := hX1.free 4
  have hxl : w.heap.size < w1.heap.size := hX1.lt
  have hzl : w.heap.size + 1 < w1.heap.size := hZ1.lt
  have g0 := hZ1.free 0
  have g1 := hZ1.free 1
  have g2 := hZ1.free 2
  have g3 := hZ1.free 3
  have g4 := hZ1.free 4
  have hL1 := Lib.hid (show LAt (newM (w.heap.size + 2) 0 w1) v' by simpa using hr)
  have hB1 := Lib.hid (hB.out.trans (hb.mono hB.out.size))
  replace hsv := Lib.hid hsv
  clear hr hb hX1 hZ1
  go_wp2
  refine bodyPost_ret (v := .agg #[.string d.name, .int .i64 v'.kind, .int .i64 v'.num, .string v'.text, .slice v'.ptr v'.len v'.cap]) (by simp [results, Tryz.results55, go_sem, z0, z1, z2, z3, z4]) rfl ?_
  refine ⟨⟨⟨d.name, v'⟩, rfl, ⟨rfl, hsv.out⟩, ?_⟩, ?_⟩
  · exact (show LAt (newM w.heap.size 0 _) v' from LAtLow (B' := w.heap.size + 2) (LAtSet (LAtSet (LAtSet (LAtSet (LAtSet (LAtSet (LAtSet (LAtSet (LAtSet hL1.out (by simp) _) (by simp) _) (by simp) _) (by simp) _) (by simp) _) (by simp) _) (by simp) _) (by simp) _) (by simp) _) (by omega))
  · exact ((((((((hB1.out.setCell (by simp) _).setCell (by simp) _).setCell (by simp) _).setCell (by simp) _).setCell (by simp) _).setCell (by simp) _).setCell (by simp) _).setCell (by simp) _).setCell (by simp) _

/-- What the copying loop holds: so many copies in a row of the call's own, each with what it refers to in other new memory. -/
structure RelA (w wr : World) (l : List AD) (k : Nat) (va : Option Addr) (vc : Nat) (acc : List AD) : Prop where
  low : Below w.heap.size w wr
  own : wr.ownsRow w.heap.size 55 5 (.slice va k vc) k (acc.map AD.row).flatten
  lats : ∀ u ∈ acc, AAt (newG w.heap.size 0 (Value.slice va k vc).ownBlock wr) u
  same : Alike SameA acc (l.take k)

set_option maxRecDepth 100000 in
set_option maxHeartbeats 4000000 in
theorem eachA (l : List AD) (a : Option Addr) (n c : Nat) (w : World) (h : RowsAt w.cell? 5 (.slice a n c) (l.map AD.row)) (hL : ∀ v ∈ l, AAt w.cell? v) (hn : l.length ≤ 1099511627776) (h0 : 0 < w.heap.size) :
    Calls Tryz.prog 54 #[.slice a n c, .func (.func 55) #[] #[]] w fun e w' => (∃ a' c' l', e = .returned (.slice a' l.length c') ∧ Alike SameA l' l ∧ RowsAt (newM w.heap.size 0 w') 5 (.slice a' l.length c') (l'.map AD.row) ∧ ∀ u ∈ l', AAt (newM w.heap.size 0 w') u) ∧ Below w.heap.size w w' := by
  have hln := (len_of h).1
  simp only [List.length_map] at hln
  subst hln
  have hR := Lib.hid h
  replace hL := Lib.hid hL
  clear h
  obtain ⟨i0, hi, hz0, hz1, hz2⟩ := info_parts info5
  go_enter Tryz.func54, Tryz.ntmps54
  go_wp2_with (at_make; refine wpList_make_own _ rfl _ _ 39 rfl w.heap.size 55 i0 (.agg #[.string ⟨#[]⟩, .int .i64 0, .int .i64 0, .string ⟨#[]⟩, .slice none 0 0]) 5 Tryz.underlying39 hi hz0 hz1 _ _ _ l.length rfl rfl rfl ?b2 ?b3 (Nat.le_refl _) ?_)
  case b2 => rw [hz2]; omega
  case b3 => unfold maxLen; omega
  intro w0 hown0 hgrow0
  have hb0 : Below w.heap.size w w0 := ⟨hgrow0.os, hgrow0.tape, hgrow0.output, hgrow0.size, fun k hk => hgrow0.block k hk (by simp)⟩
  have hS := Lib.hid (show RelA w w0 l 0 (some ⟨w.heap.size, 0, none⟩) l.length [] from ⟨hb0, hown0, (fun u hu => by cases hu), ⟨by simp, (fun i h1 => by simp at h1)⟩⟩)
  clear hown0 hgrow0 hb0
  go_wp2
  go_loopw [5, 13] (fun s5 s13 wr => ∃ (k : Nat) (va : Option Addr) (vc : Nat) (acc : List AD), k ≤ l.length ∧ s13 = .int .i64 k ∧ s5 = .slice va k vc ∧ Hid (RelA w wr l k va vc acc)) (fun _ s13 _ => l.length - (intOf s13).toNat)
  case atStart => exact ⟨0, some ⟨w.heap.size, 0, none⟩, l.length, [], by omega, rfl, rfl, hS⟩
  case round =>
    clear hS
    obtain ⟨k, va, vc, acc, hk, rfl, rfl, hK⟩ := hrel
    by_cases hlt : k < l.length
    case neg =>
      obtain rfl : k = l.length := by omega
      go_wp2
      go_ret
      have hsm := hK.out.same
      rw [List.take_length] at hsm
      have hacc := hsm.1
      refine ⟨⟨va, vc, acc, rfl, hsm, ?_, fun u hu => (hK.out.lats u hu).mono (newG_none _ _ _ _)⟩, hK.out.low⟩
      exact RowsAt.mono (newM_mono (Nat.le_refl _) 0 wr) (rows_of_owns_new hK.out.own (Nat.le_refl _) h0 (acc.map AD.row) (by simp [hacc]) (by intro r hr; obtain ⟨d, -, rfl⟩ := List.mem_map.1 hr; rfl) rfl)
    obtain ⟨blk, off, rfl, v0, v1, v2, v3, v4⟩ := ad_at (hR.out.mono (sub_of_below hK.out.low)) hlt
    have hLk := (hL.out l[k] (List.getElem_mem hlt)).mono (sub_of_below hK.out.low)
    have n0 : (0 : Int) ≤ (k : Int) := by omega
    have n1 : (k : Int) < (l.length : Int) := by omega
    have hbl : blk < wr.heap.size := World.block_lt_of_cell? wr _ v0
    have hsn := Lib.hid (fun (d : AD) (hd : SameA d l[k]) => hK.out.same.snoc hlt hd)
    generalize l[k] = x at v0 v1 v2 v3 v4 hLk hsn
    have hb1 : Below wr.heap.size wr (wr.alloc (.cells #[.string x.name, .int .i64 x.val.kind, .int .i64 x.val.num, .string x.val.text, .slice x.val.ptr x.val.len x.val.cap] 55)) := (Below.refl _ _).alloc (Nat.le_refl _) _
    have hLk1 := Lib.hid (hLk.mono (sub_of_below hb1))
    have hwr : w.heap.size ≤ wr.heap.size := hK.out.low.size
    replace hb1 := Lib.hid hb1
    clear hLk
    go_wp2_with fail
    refine (clone_attr x _ hLk1.out).mono ?_
    rintro e w4 ⟨⟨d', rfl, hsv, hLd⟩, hb4⟩
    have hbb := hb1.out.trans (hb4.mono hb1.out.size)
    have hsz4 : wr.heap.size + 1 ≤ w4.heap.size := by have := hb4.size; simpa using this
    have hsm := Lib.hid (hsn.out d' hsv)
    have hltO : ∀ j, (Value.slice va k vc).ownBlock = some j → j < wr.heap.size := fun j hj => (hK.out.own.lt j hj).2
    have hown5 := Lib.hid ((owns_kept hK.out.own (grown_of_below hbb (some 0)) h0).alloc (.cells #[.string d'.name, .int .i64 d'.val.kind, .int .i64 d'.val.num, .string d'.val.text, .slice d'.val.ptr d'.val.len d'.val.cap] 55))
    have hLs4 : ∀ u ∈ acc ++ [d'], AAt (newG w.heap.size 0 (Value.slice va k vc).ownBlock w4) u := by
      intro u hu
      rcases List.mem_append.1 hu with hu | hu
      · exact (hK.out.lats u hu).mono (newG_grown (grown_of_below hbb (some 0)))
      · obtain rfl := List.mem_singleton.1 hu
        exact hLd.mono (newM_newG (by simp; omega) (fun j hj => by have := hltO j hj; simp; omega) w4)
    replace hLs4 := Lib.hid hLs4
    have hB4 := Lib.hid (hK.out.low.trans (hbb.mono hwr))
    have hB4s : w.heap.size ≤ w4.heap.size := by omega
    have hltO4 := Lib.hid hltO
    clear hbb hb4 hLd hb1 hsn hLk1 hltO v0 v1 v2 v3 v4
    go_wp2_with (at_builtin; refine wpList_append_lies _ rfl _ _ 39 rfl w.heap.size 55 i0 (.agg #[.string ⟨#[]⟩, .int .i64 0, .int .i64 0, .string ⟨#[]⟩, .slice none 0 0]) 5 72 Tryz.underlying39 hi hz0 hz1 hz2 rfl (by decide) (.slice va k vc) k (acc.map AD.row).flatten rfl hown5.out ⟨w4.heap.size, 0, none⟩ 1 1 [.string d'.name, .int .i64 d'.val.kind, .int .i64 d'.val.num, .string d'.val.text, .slice d'.val.ptr d'.val.len d'.val.cap] rfl rfl (World.news_of_block (cs := #[.string d'.name, .int .i64 d'.val.kind, .int .i64 d'.val.num, .string d'.val.text, .slice d'.val.ptr d'.val.len d'.val.cap]) (t := 55) (fr := (0, 0)) (Own.new' rfl)) (ad_one' d') (by omega) (by unfold maxLen; omega) (by omega) (by simp; omega) (w4.heap.size + 1) (by simp) ?_; intro g cap w6 hown6 hgrow6 hat6 hgl6; replace hown6 := Lib.hid hown6; replace hat6 := Lib.hid hat6; replace hgrow6 := Lib.hid hgrow6)
    have hat : (Value.slice va k vc).ownBlock = some g ∨ g = (w4.alloc (.cells #[.string d'.name, .int .i64 d'.val.kind, .int .i64 d'.val.num, .string d'.val.text, .slice d'.val.ptr d'.val.len d'.val.cap] 55)).heap.size := hat6.out.imp id (fun e => by rw [e]; simp)
    have mX : Sub (newG w.heap.size 0 (Value.slice va k vc).ownBlock w4) (newG w.heap.size 0 (some g) w6) := (newG_grown (World.grownBy_alloc w4 _ _)).trans (newG_app hgrow6.out hat)
    have hK6 := Lib.hid (show RelA w w6 l (k + 1) (some ⟨g, 0, none⟩) cap (acc ++ [d']) from ⟨(hB4.out.alloc hB4s _).grown hgrow6.out (by simp; omega) (fun j hj => (hown5.out.lt j hj).1), by simpa [AD.row, VD.row] using hown6.out, fun u hu => (hLs4.out u hu).mono mX, hsm.out⟩)
    clear hat mX hown6 hgrow6 hat6 hown5 hLs4 hB4 hsm hltO4
    go_wp2
    go_roundw
    case rel => exact ⟨k + 1, _, _, _, by omega, by go_num, rfl, hK6⟩
    case measure => simp [intOf]; omega

set_option maxHeartbeats 1000000 in
/-- A context is copied. -/
theorem clone_context (d : CT) (w : World) (h : CAt w.cell? d) (hs : d.attrs.length ≤ 1099511627776) :
    Calls Tryz.prog 39 #[.agg #[.string d.kind, .string d.key, .slice d.ptr d.len d.cap]] w fun e w' => (∃ d' : CT, e = .returned (.agg #[.string d'.kind, .string d'.key, .slice d'.ptr d'.len d'.cap]) ∧ SameC d' d ∧ CAt (newM w.heap.size 0 w') d') ∧ Below w.heap.size w w' := by
  have hB : Below w.heap.size w ((w.alloc (.cells #[.string d.kind, .string d.key, .slice d.ptr d.len d.cap] 41)).alloc (.cells #[.string ⟨#[]⟩, .string ⟨#[]⟩, .slice none 0 0] 41)) := ((Below.refl _ _).alloc (Nat.le_refl _) _).alloc (by simp) _
  have hX := Lib.hid ((Own.new w #[.string d.kind, .string d.key, .slice d.ptr d.len d.cap] 41).alloc (.cells #[.string ⟨#[]⟩, .string ⟨#[]⟩, .slice none 0 0] 41))
  have hZ := Own.new (w.alloc (.cells #[.string d.kind, .string d.key, .slice d.ptr d.len d.cap] 41)) #[.string ⟨#[]⟩, .string ⟨#[]⟩, .slice none 0 0] 41
  rw [World.size_alloc] at hZ
  replace hZ := Lib.hid hZ
  have hL := Lib.hid (h.mono (sub_of_below hB))
  replace hB := Lib.hid hB
  clear h
  go_enter Tryz.func39, Tryz.ntmps39
  go_wp2_with fail
  refine (eachA d.attrs d.ptr d.len d.cap _ hL.out.rows hL.out.each hs (by simp)).mono ?_
  rintro e w1 ⟨⟨a', c', l', rfl, hsv, hr, hE⟩, hb⟩
  have hX1 := hX.out.below hb (by simp; omega)
  have hZ1 := hZ.out.below hb (by simp)
  obtain ⟨x0, x1, x2⟩ := own3c hX1
  obtain ⟨z0, z1, z2⟩ := own3c hZ1
  have f2 := hX1.free 2
  have hxl : w.heap.size < w1.heap.size := hX1.lt
  have hzl : w.heap.size + 1 < w1.heap.size := hZ1.lt
  have g0 := hZ1.free 0
  have g1 := hZ1.free 1
  have g2 := hZ1.free 2
  have hL1 := Lib.hid (show CAt (newM (w.heap.size + 2) 0 w1) ⟨d.kind, d.key, a', d.attrs.length, c', l'⟩ from ⟨by simpa using hr, fun u hu => by have := hE u hu; rw [World.size_alloc, World.size_alloc] at this; exact this, hL.out.key⟩)
  have hB1 := Lib.hid (hB.out.trans (hb.mono hB.out.size))
  replace hsv := Lib.hid hsv
  clear hr hE hb hX1 hZ1
  go_wp2
  refine bodyPost_ret (v := .agg #[.string d.kind, .string d.key, .slice a' d.attrs.length c']) (by simp [results, Tryz.results39, go_sem, z0, z1, z2]) rfl ?_
  refine ⟨⟨⟨d.kind, d.key, a', d.attrs.length, c', l'⟩, rfl, ⟨rfl, rfl, hsv.out⟩, ?_⟩, ?_⟩
  · have hq : CAt (newM (w.heap.size + 2) 0 ((((w1.setCell ⟨w.heap.size, 2, none⟩ (.slice a' d.attrs.length c')).setCell ⟨w.heap.size + 1, 0, none⟩ (.string d.kind)).setCell ⟨w.heap.size + 1, 1, none⟩ (.string d.key)).setCell ⟨w.heap.size + 1, 2, none⟩ (.slice a' d.attrs.length c'))) ⟨d.kind, d.key, a', d.attrs.length, c', l'⟩ :=
      (((hL1.out.mono (newM_set (by simp) _)).mono (newM_set (by simp) _)).mono (newM_set (by simp) _)).mono (newM_set (by simp) _)
    exact hq.mono (newM_mono (by omega) 0 _)
  · exact (((hB1.out.setCell (by simp) _).setCell (by simp) _).setCell (by simp) _).setCell (by simp) _

/-- What the copying loop holds: so many copies in a row of the call's own, each with what it refers to in other new memory. -/
structure RelC (w wr : World) (l : List CT) (k : Nat) (va : Option Addr) (vc : Nat) (acc : List CT) : Prop where
  low : Below w.heap.size w wr
  own : wr.ownsRow w.heap.size 41 3 (.slice va k vc) k (acc.map CT.row).flatten
  lats : ∀ u ∈ acc, CAt (newG w.heap.size 0 (Value.slice va k vc).ownBlock wr) u
  same : Alike SameC acc (l.take k)

set_option maxRecDepth 100000 in
set_option maxHeartbeats 4000000 in
theorem eachC (l : List CT) (a : Option Addr) (n c : Nat) (w : World) (h : RowsAt w.cell? 3 (.slice a n c) (l.map CT.row)) (hL : ∀ v ∈ l, CAt w.cell? v) (hn : l.length ≤ 1099511627776) (h0 : 0 < w.heap.size) (hsmall : ∀ d ∈ l, d.attrs.length ≤ 1099511627776) :
    Calls Tryz.prog 38 #[.slice a n c, .func (.func 39) #[] #[]] w fun e w' => (∃ a' c' l', e = .returned (.slice a' l.length c') ∧ Alike SameC l' l ∧ RowsAt (newM w.heap.size 0 w') 3 (.slice a' l.length c') (l'.map CT.row) ∧ ∀ u ∈ l', CAt (newM w.heap.size 0 w') u) ∧ Below w.heap.size w w' := by
  have hln := (len_of h).1
  simp only [List.length_map] at hln
  subst hln
  have hR := Lib.hid h
  replace hL := Lib.hid hL
  clear h
  obtain ⟨i0, hi, hz0, hz1, hz2⟩ := info_parts info3
  go_enter Tryz.func38, Tryz.ntmps38
  go_wp2_with (at_make; refine wpList_make_own _ rfl _ _ 23 rfl w.heap.size 41 i0 (.agg #[.string ⟨#[]⟩, .string ⟨#[]⟩, .slice none 0 0]) 3 Tryz.underlying23 hi hz0 hz1 _ _ _ l.length rfl rfl rfl ?b2 ?b3 (Nat.le_refl _) ?_)
  case b2 => rw [hz2]; omega
  case b3 => unfold maxLen; omega
  intro w0 hown0 hgrow0
  have hb0 : Below w.heap.size w w0 := ⟨hgrow0.os, hgrow0.tape, hgrow0.output, hgrow0.size, fun k hk => hgrow0.block k hk (by simp)⟩
  have hS := Lib.hid (show RelC w w0 l 0 (some ⟨w.heap.size, 0, none⟩) l.length [] from ⟨hb0, hown0, (fun u hu => by cases hu), ⟨by simp, (fun i h1 => by simp at h1)⟩⟩)
  clear hown0 hgrow0 hb0
  go_wp2
  go_loopw [5, 13] (fun s5 s13 wr => ∃ (k : Nat) (va : Option Addr) (vc : Nat) (acc : List CT), k ≤ l.length ∧ s13 = .int .i64 k ∧ s5 = .slice va k vc ∧ Hid (RelC w wr l k va vc acc)) (fun _ s13 _ => l.length - (intOf s13).toNat)
  case atStart => exact ⟨0, some ⟨w.heap.size, 0, none⟩, l.length, [], by omega, rfl, rfl, hS⟩
  case round =>
    clear hS
    obtain ⟨k, va, vc, acc, hk, rfl, rfl, hK⟩ := hrel
    by_cases hlt : k < l.length
    case neg =>
      obtain rfl : k = l.length := by omega
      go_wp2
      go_ret
      have hsm := hK.out.same
      rw [List.take_length] at hsm
      have hacc := hsm.1
      refine ⟨⟨va, vc, acc, rfl, hsm, ?_, fun u hu => (hK.out.lats u hu).mono (newG_none _ _ _ _)⟩, hK.out.low⟩
      exact RowsAt.mono (newM_mono (Nat.le_refl _) 0 wr) (rows_of_owns_new hK.out.own (Nat.le_refl _) h0 (acc.map CT.row) (by simp [hacc]) (by intro r hr; obtain ⟨d, -, rfl⟩ := List.mem_map.1 hr; rfl) rfl)
    obtain ⟨blk, off, rfl, -, -, v0, v1, v2⟩ := ct_at (hR.out.mono (sub_of_below hK.out.low)) hlt
    have hLk := (hL.out l[k] (List.getElem_mem hlt)).mono (sub_of_below hK.out.low)
    have n0 : (0 : Int) ≤ (k : Int) := by omega
    have n1 : (k : Int) < (l.length : Int) := by omega
    have hbl : blk < wr.heap.size := World.block_lt_of_cell? wr _ v0
    have hsn := Lib.hid (fun (d : CT) (hd : SameC d l[k]) => hK.out.same.snoc hlt hd)
    have hSk := Lib.hid (hsmall l[k] (List.getElem_mem hlt))
    generalize l[k] = x at v0 v1 v2 hLk hsn hSk
    have hb1 : Below wr.heap.size wr (wr.alloc (.cells #[.string x.kind, .string x.key, .slice x.ptr x.len x.cap] 41)) := (Below.refl _ _).alloc (Nat.le_refl _) _
    have hLk1 := Lib.hid (hLk.mono (sub_of_below hb1))
    have hwr : w.heap.size ≤ wr.heap.size := hK.out.low.size
    replace hb1 := Lib.hid hb1
    clear hLk
    go_wp2_with fail
    refine (clone_context x _ hLk1.out hSk.out).mono ?_
    rintro e w4 ⟨⟨d', rfl, hsv, hLd⟩, hb4⟩
    have hbb := hb1.out.trans (hb4.mono hb1.out.size)
    have hsz4 : wr.heap.size + 1 ≤ w4.heap.size := by have := hb4.size; simpa using this
    have hsm := Lib.hid (hsn.out d' hsv)
    have hltO : ∀ j, (Value.slice va k vc).ownBlock = some j → j < wr.heap.size := fun j hj => (hK.out.own.lt j hj).2
    have hown5 := Lib.hid ((owns_kept hK.out.own (grown_of_below hbb (some 0)) h0).alloc (.cells #[.string d'.kind, .string d'.key, .slice d'.ptr d'.len d'.cap] 41))
    have hLs4 : ∀ u ∈ acc ++ [d'], CAt (newG w.heap.size 0 (Value.slice va k vc).ownBlock w4) u := by
      intro u hu
      rcases List.mem_append.1 hu with hu | hu
      · exact (hK.out.lats u hu).mono (newG_grown (grown_of_below hbb (some 0)))
      · obtain rfl := List.mem_singleton.1 hu
        exact hLd.mono (newM_newG (by simp; omega) (fun j hj => by have := hltO j hj; simp; omega) w4)
    replace hLs4 := Lib.hid hLs4
    have hB4 := Lib.hid (hK.out.low.trans (hbb.mono hwr))
    have hB4s : w.heap.size ≤ w4.heap.size := by omega
    have hltO4 := Lib.hid hltO
    clear hbb hb4 hLd hb1 hsn hLk1 hltO v0 v1 v2
    go_wp2_with (at_builtin; refine wpList_append_lies _ rfl _ _ 23 rfl w.heap.size 41 i0 (.agg #[.string ⟨#[]⟩, .string ⟨#[]⟩, .slice none 0 0]) 3 56 Tryz.underlying23 hi hz0 hz1 hz2 rfl (by decide) (.slice va k vc) k (acc.map CT.row).flatten rfl hown5.out ⟨w4.heap.size, 0, none⟩ 1 1 [.string d'.kind, .string d'.key, .slice d'.ptr d'.len d'.cap] rfl rfl (World.news_of_block (cs := #[.string d'.kind, .string d'.key, .slice d'.ptr d'.len d'.cap]) (t := 41) (fr := (0, 0)) (Own.new' rfl)) (ct_one' d') (by omega) (by unfold maxLen; omega) (by omega) (by simp; omega) (w4.heap.size + 1) (by simp) ?_; intro g cap w6 hown6 hgrow6 hat6 hgl6; replace hown6 := Lib.hid hown6; replace hat6 := Lib.hid hat6; replace hgrow6 := Lib.hid hgrow6)
    have hat : (Value.slice va k vc).ownBlock = some g ∨ g = (w4.alloc (.cells #[.string d'.kind, .string d'.key, .slice d'.ptr d'.len d'.cap] 41)).heap.size := hat6.out.imp id (fun e => by rw [e]; simp)
    have mX : Sub (newG w.heap.size 0 (Value.slice va k vc).ownBlock w4) (newG w.heap.size 0 (some g) w6) := (newG_grown (World.grownBy_alloc w4 _ _)).trans (newG_app hgrow6.out hat)
    have hK6 := Lib.hid (show RelC w w6 l (k + 1) (some ⟨g, 0, none⟩) cap (acc ++ [d']) from ⟨(hB4.out.alloc hB4s _).grown hgrow6.out (by simp; omega) (fun j hj => (hown5.out.lt j hj).1), by simpa [CT.row, VD.row] using hown6.out, fun u hu => (hLs4.out u hu).mono mX, hsm.out⟩)
    clear hat mX hown6 hgrow6 hat6 hown5 hLs4 hB4 hsm hltO4
    go_wp2
    go_roundw
    case rel => exact ⟨k + 1, _, _, _, by omega, by go_num, rfl, hK6⟩
    case measure => simp [intOf]; omega

set_option maxHeartbeats 1000000 in
/-- A subject is copied. -/
theorem clone_subject (l : List CT) (a : Option Addr) (n c : Nat) (w : World) (h : SAt w.cell? (.slice a n c) l) (hl : l.length ≤ 1099511627776) (hs : ∀ d ∈ l, d.attrs.length ≤ 1099511627776) :
    Calls Tryz.prog 21 #[.agg #[.slice a n c]] w fun e w' => (∃ a' c' l', e = .returned (.agg #[.slice a' l.length c']) ∧ Alike SameC l' l ∧ SAt (newM w.heap.size 0 w') (.slice a' l.length c') l') ∧ Below w.heap.size w w' := by
  have hB : Below w.heap.size w ((w.alloc (.cells #[.slice a n c] 25)).alloc (.cells #[.slice none 0 0] 25)) := ((Below.refl _ _).alloc (Nat.le_refl _) _).alloc (by simp) _
  have hX := Lib.hid ((Own.new w #[.slice a n c] 25).alloc (.cells #[.slice none 0 0] 25))
  have hZ := Own.new (w.alloc (.cells #[.slice a n c] 25)) #[.slice none 0 0] 25
  rw [World.size_alloc] at hZ
  replace hZ := Lib.hid hZ
  have hL := Lib.hid (h.mono (sub_of_below hB))
  replace hB := Lib.hid hB
  clear h
  go_enter Tryz.func21, Tryz.ntmps21
  go_wp2_with fail
  refine (eachC l a n c _ hL.out.rows hL.out.each hl (by simp) hs).mono ?_
  rintro e w1 ⟨⟨a', c', l', rfl, hsv, hr, hE⟩, hb⟩
  have hX1 := hX.out.below hb (by simp; omega)
  have hZ1 := hZ.out.below hb (by simp)
  have x0 := hX1.cell 0
  have z0 := hZ1.cell 0
  simp only [List.getElem?_toArray, List.getElem?_cons_zero] at x0 z0
  have f0 := hX1.free 0
  have g0 := hZ1.free 0
  have hxl : w.heap.size < w1.heap.size := hX1.lt
  have hzl : w.heap.size + 1 < w1.heap.size := hZ1.lt
  have hL1 := Lib.hid (show SAt (newM (w.heap.size + 2) 0 w1) (.slice a' l.length c') l' from ⟨by simpa using hr, fun u hu => by have := hE u hu; rw [World.size_alloc, World.size_alloc] at this; exact this⟩)
  have hB1 := Lib.hid (hB.out.trans (hb.mono hB.out.size))
  replace hsv := Lib.hid hsv
  clear hr hE hb hX1 hZ1
  go_wp2
  refine bodyPost_ret (v := .agg #[.slice a' l.length c']) (by simp [results, Tryz.results21, go_sem, z0]) rfl ?_
  refine ⟨⟨a', c', l', rfl, hsv.out, ?_⟩, ?_⟩
  · have hq : SAt (newM (w.heap.size + 2) 0 ((w1.setCell ⟨w.heap.size, 0, none⟩ (.slice a' l.length c')).setCell ⟨w.heap.size + 1, 0, none⟩ (.slice a' l.length c'))) (.slice a' l.length c') l' := (hL1.out.mono (newM_set (by simp) _)).mono (newM_set (by simp) _)
    exact hq.mono (newM_mono (by omega) 0 _)
  · exact (hB1.out.setCell (by simp) _).setCell (by simp) _

end Go.Proofs.YtkglejfkfeahcaaGreatDoor.subj

