/- Copies: a list of values, copied one by one. -/
import Derived.Test.YtlohdmghaeabjaaGreatDoorKClL
import Derived.Test.YtlohdmghaeabjaaGreatDoorKDraw5
import Derived.OwnWalk
namespace Go.Proofs.YtlohdmghaeabjaaGreatDoor.clause
open Go.RowKit Go.Proofs.YtlohdmghaeabjaaGreatDoor Go.Proofs.YtlohdmghaeabjaaGreatDoor.schema Go.Proofs.YtlohdmghaeabjaaGreatDoor.value Go.Proofs.YtlohdmghaeabjaaGreatDoor.text Go.Proofs.YtlohdmghaeabjaaGreatDoor.draw

/-- Two lists of one content. -/
def SameL (l' l : List VD) : Prop := l'.length = l.length ∧ ∀ i (h' : i < l'.length) (h : i < l.length), SameV l'[i] l[i]
theorem SameL.snoc {l' l : List VD} {k : Nat} {d : VD} (h : SameL l' (l.take k)) (hk : k < l.length) (hd : SameV d l[k]) : SameL (l' ++ [d]) (l.take (k + 1)) := by
  have hl := h.1
  rw [List.length_take, Nat.min_eq_left (by omega)] at hl
  refine ⟨by simp [hl]; omega, fun i h1 h2 => ?_⟩
  rw [List.length_append, List.length_singleton] at h1
  rcases Nat.lt_or_ge i k with hi | hi
  · rw [List.getElem_append_left (by omega), List.getElem_take]
    have := h.2 i (by omega) (by simp; omega)
    rw [List.getElem_take] at this
    exact this
  · obtain rfl : i = k := by omega
    rw [List.getElem_append_right (by omega), List.getElem_take]
    simp only [hl, Nat.sub_self, List.getElem_cons_zero]
    exact hd

/-- What the copying loop holds: so many copies in a row of the call's own, each with its list in other new memory. -/
structure RelV (w wr : World) (l : List VD) (k : Nat) (va : Option Addr) (vc : Nat) (acc : List VD) : Prop where
  low : Below w.heap.size w wr
  own : wr.ownsRow w.heap.size 43 4 (.slice va k vc) k (acc.map VD.row).flatten
  lats : ∀ u ∈ acc, LAt (newG w.heap.size 0 (Value.slice va k vc).ownBlock wr) u
  same : SameL acc (l.take k)

set_option maxRecDepth 100000 in
set_option maxHeartbeats 4000000 in
theorem eachV (l : List VD) (a : Option Addr) (n c : Nat) (w : World) (h : RowsAt w.cell? 4 (.slice a n c) (l.map VD.row)) (hL : ∀ v ∈ l, LAt w.cell? v) (hn : l.length ≤ 1099511627776) (h0 : 0 < w.heap.size) :
    Calls Tryz.prog 85 #[.slice a n c, .func (.func 65) #[] #[]] w fun e w' => (∃ a' c' l', e = .returned (.slice a' l.length c') ∧ SameL l' l ∧ RowsAt (newM w.heap.size 0 w') 4 (.slice a' l.length c') (l'.map VD.row) ∧ ∀ u ∈ l', LAt (newM w.heap.size 0 w') u) ∧ Below w.heap.size w w' := by
  have hln := (len_of h).1
  simp only [List.length_map] at hln
  subst hln
  have hR := Lib.hid h
  replace hL := Lib.hid hL
  clear h
  obtain ⟨i0, hi, hz0, hz1, hz2⟩ := info_parts info44
  go_enter Tryz.func85, Tryz.ntmps85
  go_wp2_with (at_make; refine wpList_make_own _ rfl _ _ 26 rfl w.heap.size 43 i0 (.agg #[.int .i64 0, .int .i64 0, .string ⟨#[]⟩, .slice none 0 0]) 4 Tryz.underlying26 hi hz0 hz1 _ _ _ l.length rfl rfl rfl ?b2 ?b3 (Nat.le_refl _) ?_)
  case b2 => rw [hz2]; omega
  case b3 => unfold maxLen; omega
  intro w0 hown0 hgrow0
  have hb0 : Below w.heap.size w w0 := ⟨hgrow0.os, hgrow0.tape, hgrow0.output, hgrow0.size, fun k hk => hgrow0.block k hk (by simp)⟩
  have hS := Lib.hid (show RelV w w0 l 0 (some ⟨w.heap.size, 0, none⟩) l.length [] from ⟨hb0, hown0, (fun u hu => by cases hu), ⟨by simp, (fun i h1 => by simp at h1)⟩⟩)
  clear hown0 hgrow0 hb0
  go_wp2
  go_loopw [5, 13] (fun s5 s13 wr => ∃ (k : Nat) (va : Option Addr) (vc : Nat) (acc : List VD), k ≤ l.length ∧ s13 = .int .i64 k ∧ s5 = .slice va k vc ∧ Hid (RelV w wr l k va vc acc)) (fun _ s13 _ => l.length - (intOf s13).toNat)
  case atStart => exact ⟨0, some ⟨w.heap.size, 0, none⟩, l.length, [], by omega, rfl, rfl, hS⟩
  case round =>
    clear hS
    obtain ⟨k, va, vc, acc, hk, rfl, rfl, hK⟩ := hrel
    by_cases hlt : k < l.length
    case neg =>
      obtain rfl : k = l.length := by omega
      go_wp2
      go_ret
      have hsm := hK.out.same
      rw [List.take_length] at hsm
      have hacc := hsm.1
      refine ⟨⟨va, vc, acc, rfl, hsm, ?_, fun u hu => (hK.out.lats u hu).mono (newG_none _ _ _ _)⟩, hK.out.low⟩
      exact RowsAt.mono (newM_mono (Nat.le_refl _) 0 wr) (rows_of_owns_new hK.out.own (Nat.le_refl _) h0 (acc.map VD.row) (by simp [hacc]) (by intro r hr; obtain ⟨d, -, rfl⟩ := List.mem_map.1 hr; rfl) rfl)
    obtain ⟨blk, off, rfl, v0, v1, v2, v3⟩ := vd_at (hR.out.mono (sub_of_below hK.out.low)) hlt
    have hLk := (hL.out l[k] (List.getElem_mem hlt)).mono (sub_of_below hK.out.low)
    have n0 : (0 : Int) ≤ (k : Int) := by omega
    have n1 : (k : Int) < (l.length : Int) := by omega
    have hbl : blk < wr.heap.size := World.block_lt_of_cell? wr _ v0
    have hsn := Lib.hid (fun (d : VD) (hd : SameV d l[k]) => hK.out.same.snoc hlt hd)
    generalize l[k] = x at v0 v1 v2 v3 hLk hsn
    have hb1 : Below wr.heap.size wr (wr.alloc (.cells #[.int .i64 x.kind, .int .i64 x.num, .string x.text, .slice x.ptr x.len x.cap] 43)) := (Below.refl _ _).alloc (Nat.le_refl _) _
    have hLk1 := Lib.hid (hLk.mono (sub_of_below hb1))
    have hwr : w.heap.size ≤ wr.heap.size := hK.out.low.size
    replace hb1 := Lib.hid hb1
    clear hLk
    go_wp2_with fail
    refine (clone_value x _ hLk1.out).mono ?_
    rintro e w4 ⟨⟨d', rfl, hsv, hLd⟩, hb4⟩
    have hbb := hb1.out.trans (hb4.mono hb1.out.size)
    have hsz4 : wr.heap.size + 1 ≤ w4.heap.size := by have := hb4.size; simpa using this
    have hsm := Lib.hid (hsn.out d' hsv)
    have hltO : ∀ j, (Value.slice va k vc).ownBlock = some j → j < wr.heap.size := fun j hj => (hK.out.own.lt j hj).2
    have hown5 := Lib.hid ((owns_kept hK.out.own (grown_of_below hbb (some 0)) h0).alloc (.cells #[.int .i64 d'.kind, .int .i64 d'.num, .string d'.text, .slice d'.ptr d'.len d'.cap] 43))
    have hLs4 : ∀ u ∈ acc ++ [d'], LAt (newG w.heap.size 0 (Value.slice va k vc).ownBlock w4) u := by
      intro u hu
      rcases List.mem_append.1 hu with hu | hu
      · exact (hK.out.lats u hu).mono (newG_grown (grown_of_below hbb (some 0)))
      · obtain rfl := List.mem_singleton.1 hu
        exact hLd.mono (newM_newG (by simp; omega) (fun j hj => by have := hltO j hj; simp; omega) w4)
    replace hLs4 := Lib.hid hLs4
    have hB4 := Lib.hid (hK.out.low.trans (hbb.mono hwr))
    have hB4s : w.heap.size ≤ w4.heap.size := by omega
    have hltO4 := Lib.hid hltO
    clear hbb hb4 hLd hb1 hsn hLk1 hltO v0 v1 v2 v3
    go_wp2_with (at_builtin; refine wpList_append_lies _ rfl _ _ 26 rfl w.heap.size 43 i0 (.agg #[.int .i64 0, .int .i64 0, .string ⟨#[]⟩, .slice none 0 0]) 4 56 Tryz.underlying26 hi hz0 hz1 hz2 rfl (by decide) (.slice va k vc) k (acc.map VD.row).flatten rfl hown5.out ⟨w4.heap.size, 0, none⟩ 1 1 [.int .i64 d'.kind, .int .i64 d'.num, .string d'.text, .slice d'.ptr d'.len d'.cap] rfl rfl (World.news_of_block (cs := #[.int .i64 d'.kind, .int .i64 d'.num, .string d'.text, .slice d'.ptr d'.len d'.cap]) (t := 43) (fr := (0, 0)) (Own.new' rfl)) (vd_one d') (by omega) (by unfold maxLen; omega) (by omega) (by simp; omega) (w4.heap.size + 1) (by simp) ?_; intro g cap w6 hown6 hgrow6 hat6 hgl6; replace hown6 := Lib.hid hown6; replace hat6 := Lib.hid hat6; replace hgrow6 := Lib.hid hgrow6)
    have hat : (Value.slice va k vc).ownBlock = some g ∨ g = (w4.alloc (.cells #[.int .i64 d'.kind, .int .i64 d'.num, .string d'.text, .slice d'.ptr d'.len d'.cap] 43)).heap.size := hat6.out.imp id (fun e => by rw [e]; simp)
    have mX : Sub (newG w.heap.size 0 (Value.slice va k vc).ownBlock w4) (newG w.heap.size 0 (some g) w6) := (newG_grown (World.grownBy_alloc w4 _ _)).trans (newG_app hgrow6.out hat)
    have hK6 := Lib.hid (show RelV w w6 l (k + 1) (some ⟨g, 0, none⟩) cap (acc ++ [d']) from ⟨(hB4.out.alloc hB4s _).grown hgrow6.out (by simp; omega) (fun j hj => (hown5.out.lt j hj).1), by simpa [VD.row] using hown6.out, fun u hu => (hLs4.out u hu).mono mX, hsm.out⟩)
    clear hat mX hown6 hgrow6 hat6 hown5 hLs4 hB4 hsm hltO4
    go_wp2
    go_roundw
    case rel => exact ⟨k + 1, _, _, _, by omega, by go_num, rfl, hK6⟩
    case measure => simp [intOf]; omega

end Go.Proofs.YtlohdmghaeabjaaGreatDoor.clause

