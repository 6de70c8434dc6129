/- Copies of attributes, contexts and subjects, each in a row of the call's own without room. Plain: where a name stands among sorted ones, and a list of attributes with another value of one. Plain: a subject with another value of an attribute. What With gives: an attribute put in, in place or anew. The cells of rows, one behind another. Plain: the contexts while the reference's With goes over them. Plain: what is found in a subject with another value of an attribute. -/
import Derived.Test.YtkglejfkfeahcaaGreatDoorKSuK
import Derived.Deep.DeepAppendRoom
import Derived.Test.YtkglejfkfeahcaaGreatDoorKSuS
import Derived.Test.YtkglejfkfeahcaaGreatDoorKJ3
import Derived.Lib.Bytealg
import Derived.Test.YtkglejfkfeahcaaGreatDoorKClL
namespace Go.Proofs.YtkglejfkfeahcaaGreatDoor.subj
open Go.RowKit Go.Proofs.YtkglejfkfeahcaaGreatDoor Go.Proofs.YtkglejfkfeahcaaGreatDoor.schema Go.Proofs.YtkglejfkfeahcaaGreatDoor.value Go.Proofs.YtkglejfkfeahcaaGreatDoor.text Go.Proofs.YtkglejfkfeahcaaGreatDoor.clause Go.Proofs.YtkglejfkfeahcaaGreatDoor.draw

theorem newG_later {lo gk : Nat} {g : Option Nat} {w u : World} (hb : Below w.heap.size w u) (h : w.heap.size ≤ gk) : Sub (newG lo 0 g w) (newG lo gk g u) := by
  intro p v hp
  unfold newG at *
  split at hp
  · cases hp
  · rename_i hne
    have hl := World.block_lt_of_cell? w p hp
    rw [if_neg (fun e => hne (by rcases e with e | e | e; exact Or.inl e; omega; exact Or.inr (Or.inr e)))]
    exact (grown_of_below hb none).cell hp (by simp)
theorem newG_newG {lo lo' b b' : Nat} {g g' : Option Nat} (w : World) (h1 : lo ≤ lo') (h2 : ∀ k, lo' ≤ k → k ≠ b' → some k ≠ g' → k ≠ b ∧ some k ≠ g) : Sub (newG lo' b' g' w) (newG lo b g w) := by
  intro p v hp
  unfold newG at *
  split at hp
  · cases hp
  · rename_i hne
    have h3 : lo' ≤ p.block := Nat.le_of_not_lt fun e => hne (Or.inl e)
    have h4 := h2 p.block h3 (fun e => hne (Or.inr (Or.inl e))) (fun e => hne (Or.inr (Or.inr e)))
    rw [if_neg (fun e => by rcases e with e | e | e; omega; exact h4.1 e; exact h4.2 e)]
    exact hp
theorem newM_newG2 {lo B b : Nat} {g : Option Nat} (w : World) (h1 : lo ≤ B) (h2 : ∀ k, B ≤ k → k ≠ b ∧ some k ≠ g) : Sub (newM B 0 w) (newG lo b g w) := by
  intro p v hp
  unfold newM at hp
  unfold newG
  split at hp
  · cases hp
  · rename_i hne
    have h3 : B ≤ p.block := Nat.le_of_not_lt fun e => hne (Or.inl e)
    have h4 := h2 p.block h3
    rw [if_neg (fun e => by rcases e with e | e | e; omega; exact h4.1 e; exact h4.2 e)]
    exact hp

/-- What the copying loop holds: so many copies in a row of the call's own, each with what it refers to in other new memory. -/
structure RelA2 (w wr : World) (l : List AD) (k : Nat) (acc : List AD) : Prop where
  low : Below w.heap.size w wr
  own : wr.ownsRow w.heap.size 55 5 (.slice (some ⟨w.heap.size, 0, none⟩) k l.length) k (acc.map AD.row).flatten
  lats : ∀ u ∈ acc, AAt (newG w.heap.size 0 (some w.heap.size) wr) u
  same : Alike SameA acc (l.take k)

set_option maxRecDepth 100000 in
set_option maxHeartbeats 4000000 in
theorem eachA2 (l : List AD) (a : Option Addr) (n c : Nat) (w : World) (h : RowsAt w.cell? 5 (.slice a n c) (l.map AD.row)) (hL : ∀ v ∈ l, AAt w.cell? v) (hn : l.length ≤ 1099511627776) (h0 : 0 < w.heap.size) :
    Calls Tryz.prog 54 #[.slice a n c, .func (.func 55) #[] #[]] w fun e w' => (∃ l', e = .returned (.slice (some ⟨w.heap.size, 0, none⟩) l.length l.length) ∧ Alike SameA l' l ∧ w'.ownsRow w.heap.size 55 5 (.slice (some ⟨w.heap.size, 0, none⟩) l.length l.length) l.length (l'.map AD.row).flatten ∧ ∀ u ∈ l', AAt (newG w.heap.size 0 (some w.heap.size) w') u) ∧ Below w.heap.size w w' := by
  have hln := (len_of h).1
  simp only [List.length_map] at hln
  subst hln
  have hR := Lib.hid h
  replace hL := Lib.hid hL
  clear h
  obtain ⟨i0, hi, hz0, hz1, hz2⟩ := info_parts info5
  go_enter Tryz.func54, Tryz.ntmps54
  go_wp2_with (at_make; refine wpList_make_own _ rfl _ _ 39 rfl w.heap.size 55 i0 (.agg #[.string ⟨#[]⟩, .int .i64 0, .int .i64 0, .string ⟨#[]⟩, .slice none 0 0]) 5 Tryz.underlying39 hi hz0 hz1 _ _ _ l.length rfl rfl rfl ?b2 ?b3 (Nat.le_refl _) ?_)
  case b2 => rw [hz2]; omega
  case b3 => unfold maxLen; omega
  intro w0 hown0 hgrow0
  have hb0 : Below w.heap.size w w0 := ⟨hgrow0.os, hgrow0.tape, hgrow0.output, hgrow0.size, fun k hk => hgrow0.block k hk (by simp)⟩
  have hS := Lib.hid (show RelA2 w w0 l 0 [] from ⟨hb0, hown0, (fun u hu => by cases hu), ⟨by simp, (fun i h1 => by simp at h1)⟩⟩)
  clear hown0 hgrow0 hb0
  go_wp2
  go_loopw [5, 13] (fun s5 s13 wr => ∃ (k : Nat) (acc : List AD), k ≤ l.length ∧ s13 = .int .i64 k ∧ s5 = .slice (some ⟨w.heap.size, 0, none⟩) k l.length ∧ Hid (RelA2 w wr l k acc)) (fun _ s13 _ => l.length - (intOf s13).toNat)
  case atStart => exact ⟨0, [], by omega, rfl, rfl, hS⟩
  case round =>
    clear hS
    obtain ⟨k, acc, hk, rfl, rfl, hK⟩ := hrel
    by_cases hlt : k < l.length
    case neg =>
      obtain rfl : k = l.length := by omega
      go_wp2
      go_ret
      have hsm := hK.out.same
      rw [List.take_length] at hsm
      exact ⟨⟨acc, rfl, hsm, hK.out.own, hK.out.lats⟩, hK.out.low⟩
    obtain ⟨blk, off, rfl, v0, v1, v2, v3, v4⟩ := ad_at (hR.out.mono (sub_of_below hK.out.low)) hlt
    have hLk := (hL.out l[k] (List.getElem_mem hlt)).mono (sub_of_below hK.out.low)
    have n0 : (0 : Int) ≤ (k : Int) := by omega
    have n1 : (k : Int) < (l.length : Int) := by omega
    have hbl : blk < wr.heap.size := World.block_lt_of_cell? wr _ v0
    have hsn := Lib.hid (fun (d : AD) (hd : SameA d l[k]) => hK.out.same.snoc hlt hd)
    generalize l[k] = x at v0 v1 v2 v3 v4 hLk hsn
    have hb1 : Below wr.heap.size wr (wr.alloc (.cells #[.string x.name, .int .i64 x.val.kind, .int .i64 x.val.num, .string x.val.text, .slice x.val.ptr x.val.len x.val.cap] 55)) := (Below.refl _ _).alloc (Nat.le_refl _) _
    have hLk1 := Lib.hid (hLk.mono (sub_of_below hb1))
    have hwr : w.heap.size ≤ wr.heap.size := hK.out.low.size
    replace hb1 := Lib.hid hb1
    clear hLk
    go_wp2_with fail
    refine (clone_attr x _ hLk1.out).mono ?_
    rintro e w4 ⟨⟨d', rfl, hsv, hLd⟩, hb4⟩
    have hbb := hb1.out.trans (hb4.mono hb1.out.size)
    have hsz4 : wr.heap.size + 1 ≤ w4.heap.size := by have := hb4.size; simpa using this
    have hsm := Lib.hid (hsn.out d' hsv)
    have hltO : w.heap.size < wr.heap.size := (hK.out.own.lt _ rfl).2
    have hown5 := Lib.hid ((owns_kept hK.out.own (grown_of_below hbb (some 0)) h0).alloc (.cells #[.string d'.name, .int .i64 d'.val.kind, .int .i64 d'.val.num, .string d'.val.text, .slice d'.val.ptr d'.val.len d'.val.cap] 55))
    have hLs4 : ∀ u ∈ acc ++ [d'], AAt (newG w.heap.size 0 (some w.heap.size) w4) u := by
      intro u hu
      rcases List.mem_append.1 hu with hu | hu
      · exact (hK.out.lats u hu).mono (newG_grown (grown_of_below hbb (some 0)))
      · obtain rfl := List.mem_singleton.1 hu
        exact hLd.mono (newM_newG (by simp; omega) (fun j hj => by injection hj with hj; simp; omega) w4)
    replace hLs4 := Lib.hid hLs4
    have hB4 := Lib.hid (hK.out.low.trans (hbb.mono hwr))
    have hB4s : w.heap.size ≤ w4.heap.size := by omega
    clear hbb hb4 hLd hb1 hsn hLk1 hltO v0 v1 v2 v3 v4
    go_wp2_with (at_builtin; refine wpList_append_own_spare _ rfl _ _ 39 rfl w.heap.size 55 i0 5 Tryz.underlying39 hi hz1 w.heap.size k l.length (acc.map AD.row).flatten rfl hown5.out ⟨w4.heap.size, 0, none⟩ 1 1 [.string d'.name, .int .i64 d'.val.kind, .int .i64 d'.val.num, .string d'.val.text, .slice d'.val.ptr d'.val.len d'.val.cap] rfl rfl (World.news_of_block (cs := #[.string d'.name, .int .i64 d'.val.kind, .int .i64 d'.val.num, .string d'.val.text, .slice d'.val.ptr d'.val.len d'.val.cap]) (t := 55) (fr := (0, 0)) (Own.new' rfl)) (ad_one' d') (by omega) ?_; intro w6 hown6 hgrow6; replace hown6 := Lib.hid hown6; replace hgrow6 := Lib.hid hgrow6)
    have mX : Sub (newG w.heap.size 0 (some w.heap.size) w4) (newG w.heap.size 0 (some w.heap.size) w6) := (newG_grown (World.grownBy_alloc w4 _ _)).trans (newG_app hgrow6.out (Or.inl rfl))
    have hK6 := Lib.hid (show RelA2 w w6 l (k + 1) (acc ++ [d']) from ⟨(hB4.out.alloc hB4s _).grown hgrow6.out (by simp; omega) (fun j hj => by injection hj with hj; omega), by simpa [AD.row, VD.row] using hown6.out, fun u hu => (hLs4.out u hu).mono mX, hsm.out⟩)
    clear mX hown6 hgrow6 hown5 hLs4 hB4 hsm
    go_wp2
    go_roundw
    case rel => exact ⟨k + 1, _, by omega, by go_num, rfl, hK6⟩
    case measure => simp [intOf]; omega


theorem newG_keep {B b : Nat} {g r : Option Nat} {w u : World} (gr : w.grownBy u r) (hr : ∀ x, r = some x → x < B ∨ some x = g) : Sub (newG B b g w) (newG B b g u) := by
  intro p v h
  unfold newG at *
  split at h
  · cases h
  · rename_i hne
    rw [if_neg hne]
    refine gr.cell h (fun e => hne ?_)
    rcases hr _ e.symm with h1 | h1
    · exact Or.inl h1
    · exact Or.inr (Or.inr h1)
/-- A context whose attributes lie in a row of its own, at a block, without room; what they refer to lies in later blocks. -/
structure OwnC (w : World) (g : Nat) (c : CT) : Prop where
  ptr : c.ptr = some ⟨g, 0, none⟩
  len : c.len = c.attrs.length
  cap : c.cap = c.attrs.length
  own : w.ownsRow g 55 5 (.slice (some ⟨g, 0, none⟩) c.attrs.length c.attrs.length) c.attrs.length (c.attrs.map AD.row).flatten
  lats : ∀ u ∈ c.attrs, AAt (newG g 0 (some g) w) u
  key : c.key.size < 4294967281
theorem OwnC.grown {w u : World} {g : Nat} {c : CT} {r : Option Nat} (h : OwnC w g c) (gr : w.grownBy u r) (hr : ∀ x, r = some x → x < g) : OwnC u g c :=
  ⟨h.ptr, h.len, h.cap, h.own.kept gr (Or.inr (fun e => by have := hr g e.symm; omega)), fun a ha => (h.lats a ha).mono (newG_keep gr (fun x hx => Or.inl (hr x hx))), h.key⟩
theorem OwnC.lt {w : World} {g : Nat} {c : CT} (h : OwnC w g c) : g < w.heap.size := (h.own.lt g rfl).2
/-- Such a context, in a memory that holds the blocks from its own one on. -/
theorem OwnC.at {w : World} {g : Nat} {c : CT} (h : OwnC w g c) (hg : 0 < g) {lo b : Nat} {o : Option Nat} (h1 : lo ≤ g) (h2 : ∀ k, g ≤ k → k ≠ b ∧ some k ≠ o) : CAt (newG lo b o w) c := by
  obtain ⟨kd, ky, cp, cl, cc, at'⟩ := c
  have e1 := h.ptr
  have e2 := h.len
  have e3 := h.cap
  simp only at e1 e2 e3
  subst e1; subst e2; subst e3
  refine ⟨?_, fun a ha => (h.lats a ha).mono (newG_newG w h1 (fun k hk _ _ => h2 k hk)), h.key⟩
  exact (rows_of_owns_new h.own (Nat.le_refl _) hg (at'.map AD.row) (by simp) (by intro r hr; obtain ⟨d, -, rfl⟩ := List.mem_map.1 hr; rfl) rfl).mono (newM_newG2 w h1 h2)
/-- Contexts in a row of their own at B, the q-th one's attributes in a row of their own at g, all else elsewhere. -/
structure Parted (w : World) (B g q : Nat) (l : List CT) : Prop where
  others : ∀ j u, l[j]? = some u → j ≠ q → CAt (newG B g (some B) w) u
  kth : ∀ u, l[q]? = some u → B < g ∧ OwnC w g u
  zero : l.length ≤ q → g = 0
theorem Parted.grown {w u : World} {B g q : Nat} {l : List CT} {r : Option Nat} (h : Parted w B g q l) (gr : w.grownBy u r) (hr : ∀ x, r = some x → x ≤ B) : Parted u B g q l :=
  ⟨fun j c hj hq => (h.others j c hj hq).mono (newG_keep gr (fun x hx => by have := hr x hx; rcases Nat.lt_or_eq_of_le this with h1 | h1; exact Or.inl h1; exact Or.inr (by rw [h1]))), fun c hc => ⟨(h.kth c hc).1, (h.kth c hc).2.grown gr (fun x hx => by have := hr x hx; have := (h.kth c hc).1; omega)⟩, h.zero⟩
theorem Parted.lt {w : World} {B g q : Nat} {l : List CT} (h : Parted w B g q l) (h0 : 0 < w.heap.size) : g < w.heap.size := by
  cases hq : l[q]? with
  | none => rw [h.zero (List.getElem?_eq_none_iff.1 hq)]; exact h0
  | some c => exact (h.kth c hq).2.lt
theorem Parted.nil (w : World) (B q : Nat) : Parted w B 0 q [] := ⟨fun j u h => by simp at h, fun u h => by simp at h, fun _ => rfl⟩
/-- One context more, out of a later world. -/
theorem Parted.snoc {w u : World} {B g q h : Nat} {l : List CT} {c : CT} (hp : Parted w B g q l) (hb : Below w.heap.size w u) (hB : B < w.heap.size) (hh : w.heap.size ≤ h) (hc : OwnC u h c) : ∃ g', Parted u B g' q (l ++ [c]) := by
  have hlt := hp.lt (by omega)
  by_cases hq : l.length = q
  · refine ⟨h, fun j x hj hne => ?_, fun x hx => ?_, fun hl => by simp at hl; omega⟩
    · rcases Nat.lt_or_ge j l.length with hjl | hjl
      · rw [List.getElem?_append_left hjl] at hj
        have h1 := hp.others j x hj hne
        rw [hp.zero (by omega)] at h1
        exact h1.mono (newG_later hb hh)
      · have : j < (l ++ [c]).length := (List.getElem?_eq_some_iff.1 hj).1
        simp at this
        omega
    · rw [← hq, List.getElem?_append_right (Nat.le_refl _)] at hx
      simp at hx
      subst hx
      exact ⟨by omega, hc⟩
  · refine ⟨g, fun j x hj hne => ?_, fun x hx => ?_, fun hl => hp.zero (by simp at hl; omega)⟩
    · rcases Nat.lt_or_ge j l.length with hjl | hjl
      · rw [List.getElem?_append_left hjl] at hj
        exact (hp.others j x hj hne).mono (newG_keep (grown_of_below hb none) (fun x hx => by cases hx))
      · rw [List.getElem?_append_right hjl] at hj
        have e : j - l.length = 0 := by
          have : j - l.length < [c].length := (List.getElem?_eq_some_iff.1 hj).1
          simp at this
          omega
        rw [e] at hj
        simp at hj
        subst hj
        exact hc.at (by omega) (by omega) (fun k hk => ⟨by omega, fun e => by injection e with e; omega⟩)
    · have hql : q < l.length := by
        have : q < (l ++ [c]).length := (List.getElem?_eq_some_iff.1 hx).1
        simp at this
        omega
      rw [List.getElem?_append_left hql] at hx
      exact ⟨(hp.kth x hx).1, (hp.kth x hx).2.grown (grown_of_below hb none) (fun x hx => by cases hx)⟩

set_option maxHeartbeats 1000000 in
/-- A context is copied. -/
theorem clone_context2 (d : CT) (w : World) (h : CAt w.cell? d) (hs : d.attrs.length ≤ 1099511627776) :
    Calls Tryz.prog 39 #[.agg #[.string d.kind, .string d.key, .slice d.ptr d.len d.cap]] w fun e w' => (∃ (d' : CT) (g : Nat), w.heap.size ≤ g ∧ e = .returned (.agg #[.string d'.kind, .string d'.key, .slice d'.ptr d'.len d'.cap]) ∧ SameC d' d ∧ OwnC w' g d') ∧ Below w.heap.size w w' := by
  have hB : Below w.heap.size w ((w.alloc (.cells #[.string d.kind, .string d.key, .slice d.ptr d.len d.cap] 41)).alloc (.cells #[.string ⟨#[]⟩, .string ⟨#[]⟩, .slice none 0 0] 41)) := ((Below.refl _ _).alloc (Nat.le_refl _) _).alloc (by simp) _
  have hX := Lib.hid ((Own.new w #[.string d.kind, .string d.key, .slice d.ptr d.len d.cap] 41).alloc (.cells #[.string ⟨#[]⟩, .string ⟨#[]⟩, .slice none 0 0] 41))
  have hZ := Own.new (w.alloc (.cells #[.string d.kind, .string d.key, .slice d.ptr d.len d.cap] 41)) #[.string ⟨#[]⟩, .string ⟨#[]⟩, .slice none 0 0] 41
  rw [World.size_alloc] at hZ
  replace hZ := Lib.hid hZ
  have hL := Lib.hid (h.mono (sub_of_below hB))
  replace hB := Lib.hid hB
  clear h
  go_enter Tryz.func39, Tryz.ntmps39
  go_wp2_with fail
  refine (eachA2 d.attrs d.ptr d.len d.cap _ hL.out.rows hL.out.each hs (by simp)).mono ?_
  rintro e w1 ⟨⟨l', rfl, hsv, hr, hE⟩, hb⟩
  rw [World.size_alloc, World.size_alloc] at hr hE ⊢
  have hX1 := hX.out.below hb (by simp; omega)
  have hZ1 := hZ.out.below hb (by simp)
  obtain ⟨x0, x1, x2⟩ := own3c hX1
  obtain ⟨z0, z1, z2⟩ := own3c hZ1
  have f2 := hX1.free 2
  have hxl : w.heap.size < w1.heap.size := hX1.lt
  have hzl : w.heap.size + 1 < w1.heap.size := hZ1.lt
  have g0 := hZ1.free 0
  have g1 := hZ1.free 1
  have g2 := hZ1.free 2
  have hL1 := Lib.hid (show OwnC w1 (w.heap.size + 1 + 1) ⟨d.kind, d.key, some ⟨w.heap.size + 1 + 1, 0, none⟩, d.attrs.length, d.attrs.length, l'⟩ from ⟨rfl, hsv.1.symm, hsv.1.symm, by simp only [hsv.1]; exact hr, hE, hL.out.key⟩)
  have hB1 := Lib.hid (hB.out.trans (hb.mono hB.out.size))
  replace hsv := Lib.hid hsv
  clear hr hE hb hX1 hZ1
  go_wp2
  refine bodyPost_ret (v := .agg #[.string d.kind, .string d.key, .slice (some ⟨w.heap.size + 1 + 1, 0, none⟩) d.attrs.length d.attrs.length]) (by simp [results, Tryz.results39, go_sem, z0, z1, z2]) rfl ?_
  refine ⟨⟨⟨d.kind, d.key, some ⟨w.heap.size + 1 + 1, 0, none⟩, d.attrs.length, d.attrs.length, l'⟩, w.heap.size + 1 + 1, by omega, rfl, ⟨rfl, rfl, hsv.out⟩, ?_⟩, ?_⟩
  · have hlt : ∀ {a x : Nat}, a < w.heap.size + 1 + 1 → some a = some x → x < w.heap.size + 1 + 1 := fun h e => by injection e with e; omega
    exact (((hL1.out.grown (grown_setCell _ _ _ _) (fun x hx => hlt (by omega) hx)).grown (grown_setCell _ _ _ _) (fun x hx => hlt (by omega) hx)).grown (grown_setCell _ _ _ _) (fun x hx => hlt (by omega) hx)).grown (grown_setCell _ _ _ _) (fun x hx => hlt (by omega) hx)
  · exact (((hB1.out.setCell (by simp) _).setCell (by simp) _).setCell (by simp) _).setCell (by simp) _

/-- What the copying loop holds: so many copies in a row of the call's own, each with what it refers to in other new memory. -/
structure RelC2 (q : Nat) (w wr : World) (l : List CT) (k : Nat) (acc : List CT) : Prop where
  low : Below w.heap.size w wr
  own : wr.ownsRow w.heap.size 41 3 (.slice (some ⟨w.heap.size, 0, none⟩) k l.length) k (acc.map CT.row).flatten
  parted : ∃ g, Parted wr w.heap.size g q acc
  same : Alike SameC acc (l.take k)

set_option maxRecDepth 100000 in
set_option maxHeartbeats 4000000 in
theorem eachC2 (q : Nat) (l : List CT) (a : Option Addr) (n c : Nat) (w : World) (h : RowsAt w.cell? 3 (.slice a n c) (l.map CT.row)) (hL : ∀ v ∈ l, CAt w.cell? v) (hn : l.length ≤ 1099511627776) (h0 : 0 < w.heap.size) (hsmall : ∀ d ∈ l, d.attrs.length ≤ 1099511627776) :
    Calls Tryz.prog 38 #[.slice a n c, .func (.func 39) #[] #[]] w fun e w' => (∃ g l', e = .returned (.slice (some ⟨w.heap.size, 0, none⟩) l.length l.length) ∧ Alike SameC l' l ∧ w'.ownsRow w.heap.size 41 3 (.slice (some ⟨w.heap.size, 0, none⟩) l.length l.length) l.length (l'.map CT.row).flatten ∧ Parted w' w.heap.size g q l') ∧ Below w.heap.size w w' := by
  have hln := (len_of h).1
  simp only [List.length_map] at hln
  subst hln
  have hR := Lib.hid h
  replace hL := Lib.hid hL
  clear h
  obtain ⟨i0, hi, hz0, hz1, hz2⟩ := info_parts info3
  go_enter Tryz.func38, Tryz.ntmps38
  go_wp2_with (at_make; refine wpList_make_own _ rfl _ _ 23 rfl w.heap.size 41 i0 (.agg #[.string ⟨#[]⟩, .string ⟨#[]⟩, .slice none 0 0]) 3 Tryz.underlying23 hi hz0 hz1 _ _ _ l.length rfl rfl rfl ?b2 ?b3 (Nat.le_refl _) ?_)
  case b2 => rw [hz2]; omega
  case b3 => unfold maxLen; omega
  intro w0 hown0 hgrow0
  have hb0 : Below w.heap.size w w0 := ⟨hgrow0.os, hgrow0.tape, hgrow0.output, hgrow0.size, fun k hk => hgrow0.block k hk (by simp)⟩
  have hS := Lib.hid (show RelC2 q w w0 l 0 [] from ⟨hb0, hown0, ⟨0, Parted.nil _ _ _⟩, ⟨by simp, (fun i h1 => by simp at h1)⟩⟩)
  clear hown0 hgrow0 hb0
  go_wp2
  go_loopw [5, 13] (fun s5 s13 wr => ∃ (k : Nat) (acc : List CT), k ≤ l.length ∧ s13 = .int .i64 k ∧ s5 = .slice (some ⟨w.heap.size, 0, none⟩) k l.length ∧ Hid (RelC2 q w wr l k acc)) (fun _ s13 _ => l.length - (intOf s13).toNat)
  case atStart => exact ⟨0, [], by omega, rfl, rfl, hS⟩
  case round =>
    clear hS
    obtain ⟨k, acc, hk, rfl, rfl, hK⟩ := hrel
    by_cases hlt : k < l.length
    case neg =>
      obtain rfl : k = l.length := by omega
      go_wp2
      go_ret
      have hsm := hK.out.same
      rw [List.take_length] at hsm
      obtain ⟨g, hP⟩ := hK.out.parted
      exact ⟨⟨g, acc, rfl, hsm, hK.out.own, hP⟩, hK.out.low⟩
    obtain ⟨blk, off, rfl, -, -, v0, v1, v2⟩ := ct_at (hR.out.mono (sub_of_below hK.out.low)) hlt
    have hLk := (hL.out l[k] (List.getElem_mem hlt)).mono (sub_of_below hK.out.low)
    have n0 : (0 : Int) ≤ (k : Int) := by omega
    have n1 : (k : Int) < (l.length : Int) := by omega
    have hbl : blk < wr.heap.size := World.block_lt_of_cell? wr _ v0
    have hsn := Lib.hid (fun (d : CT) (hd : SameC d l[k]) => hK.out.same.snoc hlt hd)
    have hSk := Lib.hid (hsmall l[k] (List.getElem_mem hlt))
    generalize l[k] = x at v0 v1 v2 hLk hsn hSk
    have hb1 : Below wr.heap.size wr (wr.alloc (.cells #[.string x.kind, .string x.key, .slice x.ptr x.len x.cap] 41)) := (Below.refl _ _).alloc (Nat.le_refl _) _
    have hLk1 := Lib.hid (hLk.mono (sub_of_below hb1))
    have hwr : w.heap.size ≤ wr.heap.size := hK.out.low.size
    replace hb1 := Lib.hid hb1
    clear hLk
    go_wp2_with fail
    refine (clone_context2 x _ hLk1.out hSk.out).mono ?_
    rintro e w4 ⟨⟨d', gd, hgd, rfl, hsv, hLd⟩, hb4⟩
    have hbb := hb1.out.trans (hb4.mono hb1.out.size)
    have hsz4 : wr.heap.size + 1 ≤ w4.heap.size := by have := hb4.size; simpa using this
    have hsm := Lib.hid (hsn.out d' hsv)
    have hltO : w.heap.size < wr.heap.size := (hK.out.own.lt _ rfl).2
    have hown5 := Lib.hid ((owns_kept hK.out.own (grown_of_below hbb (some 0)) h0).alloc (.cells #[.string d'.kind, .string d'.key, .slice d'.ptr d'.len d'.cap] 41))
    have hLs4 : Hid (∃ g, Parted w4 w.heap.size g q (acc ++ [d'])) := by
      obtain ⟨g, hP⟩ := hK.out.parted
      exact hP.snoc hbb hltO (by simp at hgd; omega) hLd
    have hB4 := Lib.hid (hK.out.low.trans (hbb.mono hwr))
    have hB4s : w.heap.size ≤ w4.heap.size := by omega
    clear hbb hb4 hLd hb1 hsn hLk1 hltO v0 v1 v2
    go_wp2_with (at_builtin; refine wpList_append_own_spare _ rfl _ _ 23 rfl w.heap.size 41 i0 3 Tryz.underlying23 hi hz1 w.heap.size k l.length (acc.map CT.row).flatten rfl hown5.out ⟨w4.heap.size, 0, none⟩ 1 1 [.string d'.kind, .string d'.key, .slice d'.ptr d'.len d'.cap] rfl rfl (World.news_of_block (cs := #[.string d'.kind, .string d'.key, .slice d'.ptr d'.len d'.cap]) (t := 41) (fr := (0, 0)) (Own.new' rfl)) (ct_one' d') (by omega) ?_; intro w6 hown6 hgrow6; replace hown6 := Lib.hid hown6; replace hgrow6 := Lib.hid hgrow6)
    have hP6 : ∃ g, Parted w6 w.heap.size g q (acc ++ [d']) := by
      obtain ⟨g, hP⟩ := hLs4.out
      exact ⟨g, (hP.grown (r := none) (World.grownBy_alloc w4 _ _) (fun x hx => by cases hx)).grown hgrow6.out (fun x hx => by injection hx with hx; omega)⟩
    have hK6 := Lib.hid (show RelC2 q w w6 l (k + 1) (acc ++ [d']) from ⟨(hB4.out.alloc hB4s _).grown hgrow6.out (by simp; omega) (fun j hj => by injection hj with hj; omega), by simpa [CT.row, VD.row] using hown6.out, hP6, hsm.out⟩)
    clear hP6 hown6 hgrow6 hown5 hLs4 hB4 hsm
    go_wp2
    go_roundw
    case rel => exact ⟨k + 1, _, by omega, by go_num, rfl, hK6⟩
    case measure => simp [intOf]; omega

set_option maxHeartbeats 1000000 in
/-- A subject is copied. -/
theorem clone_subject2 (q : Nat) (l : List CT) (a : Option Addr) (n c : Nat) (w : World) (h : SAt w.cell? (.slice a n c) l) (hl : l.length ≤ 1099511627776) (hs : ∀ d ∈ l, d.attrs.length ≤ 1099511627776) :
    Calls Tryz.prog 21 #[.agg #[.slice a n c]] w fun e w' => (∃ B g l', w.heap.size ≤ B ∧ e = .returned (.agg #[.slice (some ⟨B, 0, none⟩) l.length l.length]) ∧ Alike SameC l' l ∧ w'.ownsRow B 41 3 (.slice (some ⟨B, 0, none⟩) l.length l.length) l.length (l'.map CT.row).flatten ∧ Parted w' B g q l') ∧ Below w.heap.size w w' := by
  have hB : Below w.heap.size w ((w.alloc (.cells #[.slice a n c] 25)).alloc (.cells #[.slice none 0 0] 25)) := ((Below.refl _ _).alloc (Nat.le_refl _) _).alloc (by simp) _
  have hX := Lib.hid ((Own.new w #[.slice a n c] 25).alloc (.cells #[.slice none 0 0] 25))
  have hZ := Own.new (w.alloc (.cells #[.slice a n c] 25)) #[.slice none 0 0] 25
  rw [World.size_alloc] at hZ
  replace hZ := Lib.hid hZ
  have hL := Lib.hid (h.mono (sub_of_below hB))
  replace hB := Lib.hid hB
  clear h
  go_enter Tryz.func21, Tryz.ntmps21
  go_wp2_with fail
  refine (eachC2 q l a n c _ hL.out.rows hL.out.each hl (by simp) hs).mono ?_
  rintro e w1 ⟨⟨g, l', rfl, hsv, hr, hE⟩, hb⟩
  rw [World.size_alloc, World.size_alloc] at hr hE ⊢
  have hX1 := hX.out.below hb (by simp; omega)
  have hZ1 := hZ.out.below hb (by simp)
  have x0 := hX1.cell 0
  have z0 := hZ1.cell 0
  simp only [List.getElem?_toArray, List.getElem?_cons_zero] at x0 z0
  have f0 := hX1.free 0
  have g0 := hZ1.free 0
  have hxl : w.heap.size < w1.heap.size := hX1.lt
  have hzl : w.heap.size + 1 < w1.heap.size := hZ1.lt
  replace hr := Lib.hid hr
  replace hE := Lib.hid hE
  have hB1 := Lib.hid (hB.out.trans (hb.mono hB.out.size))
  replace hsv := Lib.hid hsv
  clear hb hX1 hZ1
  go_wp2
  refine bodyPost_ret (v := .agg #[.slice (some ⟨w.heap.size + 1 + 1, 0, none⟩) l.length l.length]) (by simp [results, Tryz.results21, go_sem, z0]) rfl ?_
  have hlt : ∀ {a x : Nat}, a < w.heap.size + 1 + 1 → some a = some x → x ≤ w.heap.size + 1 + 1 := fun h e => by injection e with e; omega
  refine ⟨⟨w.heap.size + 1 + 1, g, l', by omega, rfl, hsv.out, ?_, ?_⟩, ?_⟩
  · exact owns_kept (owns_kept hr.out (grown_setCell _ _ _ _) (by omega)) (grown_setCell _ _ _ _) (by omega)
  · exact (hE.out.grown (grown_setCell _ _ _ _) (fun x hx => hlt (by omega) hx)).grown (grown_setCell _ _ _ _) (fun x hx => hlt (by omega) hx)
  · exact (hB1.out.setCell (by simp) _).setCell (by simp) _


end Go.Proofs.YtkglejfkfeahcaaGreatDoor.subj

namespace Go.Proofs.YtkglejfkfeahcaaGreatDoor.subj
open Go.RowKit Go.Proofs.YtkglejfkfeahcaaGreatDoor Go.Proofs.YtkglejfkfeahcaaGreatDoor.schema Go.Proofs.YtkglejfkfeahcaaGreatDoor.value Go.Proofs.YtkglejfkfeahcaaGreatDoor.text Go.Proofs.YtkglejfkfeahcaaGreatDoor.clause

theorem compare_lt : ∀ a b : List UInt8, Lib.compareBytes a b < 0 ↔ Op.bytesLess a b = true
  | [], [] => by simp [Lib.compareBytes, Op.bytesLess]
  | [], _ :: _ => by simp [Lib.compareBytes, Op.bytesLess]
  | _ :: _, [] => by simp [Lib.compareBytes, Op.bytesLess]
  | a :: x, b :: y => by
    have ih := compare_lt x y
    rw [Lib.compareBytes, Op.bytesLess]
    by_cases h1 : a < b
    · simp [h1]
    by_cases h2 : b < a
    · have h3 : ¬ a = b := fun e => by subst e; exact h1 h2
      simp [h1, h2, h3]
    · have h3 : a = b := by
        have := UInt8.not_lt.1 h1; have := UInt8.not_lt.1 h2
        exact UInt8.le_antisymm (by assumption) (by assumption)
      subst h3
      simp [h1, ih]
theorem compare_eq : ∀ a b : List UInt8, Lib.compareBytes a b = 0 ↔ a = b
  | [], [] => by simp [Lib.compareBytes]
  | [], _ :: _ => by simp [Lib.compareBytes]
  | _ :: _, [] => by simp [Lib.compareBytes]
  | a :: x, b :: y => by
    have ih := compare_eq x y
    rw [Lib.compareBytes]
    by_cases h1 : a < b
    · have h3 : ¬ a = b := fun e => by subst e; exact UInt8.lt_irrefl _ h1
      simp [h1, h3]
    by_cases h2 : b < a
    · have h3 : ¬ a = b := fun e => by subst e; exact h1 h2
      simp [h1, h2, h3]
    · have h3 : a = b := by
        have := UInt8.not_lt.1 h1; have := UInt8.not_lt.1 h2
        exact UInt8.le_antisymm (by assumption) (by assumption)
      subst h3
      simp [h1, ih]

/-- Is an attribute's name before x. -/
def befA (x : List UInt8) (a : AD) : Bool := Op.bytesLess a.name.data.toList x
/-- Names in ascending order. -/
def Asc (l : List AD) : Prop := l.Pairwise fun a b => Op.bytesLess a.name.data.toList b.name.data.toList = true
theorem Asc.at {l : List AD} (h : Asc l) {i j : Nat} (hij : i < j) (hj : j < l.length) : Op.bytesLess l[i].name.data.toList l[j].name.data.toList = true := List.pairwise_iff_getElem.1 h i j (by omega) hj hij
theorem attrGo_asc : ∀ (l : List AD) (p : Option (List UInt8)), attrGo p l = 0 → Asc l ∧ ∀ q, p = some q → ∀ a ∈ l, Op.bytesLess q a.name.data.toList = true
  | [], p, _ => ⟨List.Pairwise.nil, fun _ _ a h => (List.not_mem_nil h).elim⟩
  | a :: r, p, h => by
    rw [attrGo] at h
    split at h
    · cases h
    split at h
    · cases h
    split at h
    · rename_i h3; exact absurd h h3
    rename_i _ h2 _
    obtain ⟨h4, h5⟩ := attrGo_asc r _ h
    have h6 : ∀ q, p = some q → Op.bytesLess q a.name.data.toList = true := fun q hq => by subst hq; simpa [lateS] using h2
    refine ⟨List.Pairwise.cons (fun b hb => h5 _ rfl b hb) h4, fun q hq b hb => ?_⟩
    rcases List.mem_cons.1 hb with rfl | hb
    · exact h6 q hq
    · exact less_trans (h6 q hq) (h5 _ rfl b hb)
theorem attrS_asc {l : List AD} (h : attrS l = 0) : Asc l ∧ l.length ≤ 20 := by
  unfold attrS at h
  split at h
  · cases h
  · exact ⟨(attrGo_asc l none h).1, by omega⟩

/-- How many first names are before x. -/
def posA (x : List UInt8) (l : List AD) : Nat := (l.takeWhile (befA x)).length
theorem posA_le (x : List UInt8) (l : List AD) : posA x l ≤ l.length := (List.takeWhile_prefix _).length_le
theorem posA_of {x : List UInt8} : ∀ {l : List AD} {i : Nat}, i ≤ l.length → (∀ j (h : j < l.length), j < i → befA x l[j] = true) → (∀ h : i < l.length, befA x l[i] = false) → i = posA x l
  | [], i, h, _, _ => by have : i = 0 := by simpa using h
                         subst this; rfl
  | a :: r, 0, _, _, h2 => by
    have := h2 (by simp)
    simp only [List.getElem_cons_zero] at this
    simp [posA, this]
  | a :: r, i + 1, h, h1, h2 => by
    have h3 := h1 0 (by simp) (by omega)
    simp only [List.getElem_cons_zero] at h3
    have ih := posA_of (x := x) (l := r) (i := i) (by simpa using h) (fun j hj hi => by have := h1 (j + 1) (by simpa using hj) (by omega); rwa [List.getElem_cons_succ] at this) (fun hj => by have := h2 (by simpa using hj); rwa [List.getElem_cons_succ] at this)
    unfold posA at ih ⊢
    rw [List.takeWhile_cons, h3]
    simp [← ih]
/-- Does the name at this place equal x. -/
def hasAt (x : List UInt8) (l : List AD) (i : Nat) : Bool := match l[i]? with | some a => a.name.data.toList == x | none => false
theorem hasAt_in {x : List UInt8} {l : List AD} {i : Nat} (h : i < l.length) : hasAt x l i = (l[i].name.data.toList == x) := by simp [hasAt, h]
theorem hasAt_out {x : List UInt8} {l : List AD} {i : Nat} (h : ¬ i < l.length) : hasAt x l i = false := by simp [hasAt, List.getElem?_eq_none (by omega : l.length ≤ i)]
/-- The list with another value of an attribute. -/
def insA (a : AD) (l : List AD) : List AD := l.take (posA a.name.data.toList l) ++ a :: l.drop (if hasAt a.name.data.toList l (posA a.name.data.toList l) then posA a.name.data.toList l + 1 else posA a.name.data.toList l)

/-- What a search by halves holds: before lo the names are before x, from hi on they are not. -/
structure Halves (x : List UInt8) (l : List AD) (lo hi : Nat) : Prop where
  le : lo ≤ hi
  len : hi ≤ l.length
  below : ∀ j (h : j < l.length), j < lo → befA x l[j] = true
  above : ∀ j (h : j < l.length), hi ≤ j → befA x l[j] = false
theorem Halves.start (x : List UInt8) (l : List AD) : Halves x l 0 l.length := ⟨Nat.zero_le _, Nat.le_refl _, fun j _ h => by omega, fun j h h' => by omega⟩
theorem Halves.up {x : List UInt8} {l : List AD} {lo hi m : Nat} (h : Halves x l lo hi) (ha : Asc l) (h2 : m < hi) (hm : m < l.length) (hb : befA x l[m] = true) : Halves x l (m + 1) hi :=
  ⟨by omega, h.len, fun j hj hjm => by
    rcases Nat.lt_or_ge j m with h3 | h3
    · exact less_trans (ha.at h3 hm) hb
    · obtain rfl : j = m := by omega
      exact hb, h.above⟩
theorem Halves.down {x : List UInt8} {l : List AD} {lo hi m : Nat} (h : Halves x l lo hi) (ha : Asc l) (h1 : lo ≤ m) (hm : m < l.length) (hb : befA x l[m] = false) : Halves x l lo m :=
  ⟨h1, by omega, h.below, fun j hj hjm => by
    rcases Nat.lt_or_ge m j with h3 | h3
    · cases h4 : befA x l[j] with
      | false => rfl
      | true => rw [show befA x l[m] = true from less_trans (ha.at h3 hj) h4] at hb; cases hb
    · obtain rfl : j = m := by omega
      exact hb⟩
theorem Halves.done {x : List UInt8} {l : List AD} {lo : Nat} (h : Halves x l lo lo) : lo = posA x l :=
  posA_of h.len (fun j hj hi => h.below j hj hi) (fun hi => h.above lo hi (Nat.le_refl _))

end Go.Proofs.YtkglejfkfeahcaaGreatDoor.subj

namespace Go.Proofs.YtkglejfkfeahcaaGreatDoor.subj
open Go.RowKit Go.Proofs.YtkglejfkfeahcaaGreatDoor Go.Proofs.YtkglejfkfeahcaaGreatDoor.schema Go.Proofs.YtkglejfkfeahcaaGreatDoor.value Go.Proofs.YtkglejfkfeahcaaGreatDoor.text Go.Proofs.YtkglejfkfeahcaaGreatDoor.clause

theorem Alike.refl' {α : Type} {R : α → α → Prop} (h : ∀ a, R a a) (l : List α) : Alike R l l := ⟨rfl, fun _ _ _ => h _⟩
theorem Alike.take' {α : Type} {R : α → α → Prop} {l' l : List α} (h : Alike R l' l) (i : Nat) : Alike R (l'.take i) (l.take i) := by
  refine ⟨by simp [h.1], fun j h1 h2 => ?_⟩
  rw [List.getElem_take, List.getElem_take]
  exact h.2 _ _ _
theorem Alike.drop' {α : Type} {R : α → α → Prop} {l' l : List α} (h : Alike R l' l) (i : Nat) : Alike R (l'.drop i) (l.drop i) := by
  refine ⟨by simp [h.1], fun j h1 h2 => ?_⟩
  rw [List.getElem_drop, List.getElem_drop]
  exact h.2 _ _ _
theorem Alike.cons' {α : Type} {R : α → α → Prop} {a' a : α} {l' l : List α} (ha : R a' a) (h : Alike R l' l) : Alike R (a' :: l') (a :: l) := by
  refine ⟨by simp [h.1], fun j h1 h2 => ?_⟩
  cases j with
  | zero => exact ha
  | succ j => exact h.2 j _ _
theorem Alike.append' {α : Type} {R : α → α → Prop} {l' l m' m : List α} (h : Alike R l' l) (k : Alike R m' m) : Alike R (l' ++ m') (l ++ m) := by
  refine ⟨by simp [h.1, k.1], fun j h1 h2 => ?_⟩
  rcases Nat.lt_or_ge j l.length with hj | hj
  · rw [List.getElem_append_left (by rw [h.1]; exact hj), List.getElem_append_left hj]
    exact h.2 _ _ _
  · rw [List.getElem_append_right (by rw [h.1]; exact hj), List.getElem_append_right hj]
    simp only [h.1]
    exact k.2 _ _ _
theorem Alike.set' {α : Type} {R : α → α → Prop} {l' l : List α} (h : Alike R l' l) {a' a : α} (ha : R a' a) (i : Nat) : Alike R (l'.set i a') (l.set i a) := by
  refine ⟨by simp [h.1], fun j h1 h2 => ?_⟩
  rw [List.getElem_set, List.getElem_set]
  split
  · exact ha
  · exact h.2 _ _ _

theorem posA_below {x : List UInt8} : ∀ {l : List AD} {j : Nat} (h : j < l.length), j < posA x l → befA x l[j] = true
  | [], j, h, _ => by simp at h
  | a :: r, j, h, hj => by
    unfold posA at hj
    rw [List.takeWhile_cons] at hj
    cases hb : befA x a with
    | false => rw [hb] at hj; simp at hj
    | true =>
      cases j with
      | zero => exact hb
      | succ j =>
        rw [hb] at hj
        exact posA_below (x := x) (l := r) (j := j) (by simpa using h) (by unfold posA; simpa using hj)
theorem posA_stop {x : List UInt8} : ∀ {l : List AD} (h : posA x l < l.length), befA x l[posA x l] = false
  | [], h => by simp at h
  | a :: r, h => by
    cases hb : befA x a with
    | false =>
      have e : posA x (a :: r) = 0 := by simp [posA, hb]
      simp only [e]
      exact hb
    | true =>
      have e : posA x (a :: r) = posA x r + 1 := by simp [posA, hb]
      simp only [e] at h ⊢
      exact posA_stop (x := x) (l := r) (by simpa using h)
/-- Where a name stands depends on the names alone. -/
theorem posA_alike {x : List UInt8} {l' l : List AD} (h : Alike SameA l' l) : posA x l' = posA x l := by
  have hn : ∀ j (h1 : j < l'.length) (h2 : j < l.length), befA x l'[j] = befA x l[j] := fun j h1 h2 => by unfold befA; rw [(h.2 j h1 h2).1]
  have hp := posA_le x l'
  refine posA_of (by rw [← h.1]; exact hp) (fun j hj hi => ?_) (fun hj => ?_)
  · rw [← hn j (by rw [h.1]; exact hj) hj]; exact posA_below _ hi
  · rw [← hn _ (by rw [h.1]; exact hj) hj]; exact posA_stop _
theorem hasAt_alike {x : List UInt8} {l' l : List AD} (h : Alike SameA l' l) (i : Nat) : hasAt x l' i = hasAt x l i := by
  by_cases hi : i < l.length
  · have hi' : i < l'.length := by rw [h.1]; exact hi
    rw [hasAt_in hi', hasAt_in hi, (h.2 i hi' hi).1]
  · rw [hasAt_out hi, hasAt_out (by rw [h.1]; exact hi)]
theorem insA_alike {a' a : AD} {l' l : List AD} (ha : SameA a' a) (h : Alike SameA l' l) : Alike SameA (insA a' l') (insA a l) := by
  unfold insA
  rw [ha.1, posA_alike h, hasAt_alike h]
  exact (h.take' _).append' (Alike.cons' ha (h.drop' _))
theorem insA_len (a : AD) (l : List AD) : (insA a l).length = if hasAt a.name.data.toList l (posA a.name.data.toList l) then l.length else l.length + 1 := by
  have hp := posA_le a.name.data.toList l
  unfold insA
  split
  · rename_i h
    have : posA a.name.data.toList l < l.length := Nat.lt_of_not_le fun e => by rw [hasAt_out (by omega)] at h; cases h
    simp
    omega
  · simp
    omega
/-- Where the name stands already, its attribute is set. -/
theorem insA_set {a : AD} {l : List AD} (h : hasAt a.name.data.toList l (posA a.name.data.toList l) = true) : insA a l = l.set (posA a.name.data.toList l) a := by
  have : posA a.name.data.toList l < l.length := Nat.lt_of_not_le fun e => by rw [hasAt_out (by omega)] at h; cases h
  unfold insA
  rw [h, if_pos rfl, List.set_eq_take_append_cons_drop, if_pos this]
theorem insA_new {a : AD} {l : List AD} (h : hasAt a.name.data.toList l (posA a.name.data.toList l) = false) : insA a l = l.take (posA a.name.data.toList l) ++ a :: l.drop (posA a.name.data.toList l) := by
  unfold insA
  rw [h]
  rfl

/-- The contexts with an attribute put into those of a kind. -/
def putC (kind : List UInt8) (a : AD) (l : List CT) : List CT := l.map fun c => if (c.kind.toList == kind) = true then { c with attrs := insA a c.attrs } else c
/-- A subject with another value of an attribute, or the error. -/
def withS (l : List CT) (kind name : ByteArray) (v : VD) : List CT × Int :=
  if subS l ≠ 0 then ([], subS l)
  else match findS kind.toList l with
    | none => ([], 11)
    | some c =>
      if keyS name.data.toList = false ∨ (name.data.toList == [107, 101, 121]) = true then ([], 6)
      else if checkS (vv v) ≠ 0 then ([], checkS (vv v))
      else if 20 < (insA ⟨name, v⟩ c.attrs).length then ([], 5)
      else (putC kind.toList ⟨name, v⟩ l, 0)
/-- Kinds in ascending order. -/
theorem subGo_asc : ∀ (l : List CT) (p : Option (List UInt8)), subGo p l = 0 → (l.Pairwise fun a b => Op.bytesLess a.kind.data.toList b.kind.data.toList = true) ∧ (∀ q, p = some q → ∀ a ∈ l, Op.bytesLess q a.kind.data.toList = true) ∧ ∀ a ∈ l, attrS a.attrs = 0
  | [], p, _ => ⟨List.Pairwise.nil, fun _ _ a h => (List.not_mem_nil h).elim, fun a h => (List.not_mem_nil h).elim⟩
  | a :: r, p, h => by
    rw [subGo] at h
    split at h
    · cases h
    split at h
    · cases h
    split at h
    · cases h
    split at h
    · rename_i h3; exact absurd h h3
    rename_i _ h2 _ h3
    obtain ⟨h4, h5, h7⟩ := subGo_asc r _ h
    have h6 : ∀ q, p = some q → Op.bytesLess q a.kind.data.toList = true := fun q hq => by subst hq; simpa [lateS] using h2
    refine ⟨List.Pairwise.cons (fun b hb => h5 _ rfl b hb) h4, fun q hq b hb => ?_, fun b hb => ?_⟩
    · rcases List.mem_cons.1 hb with rfl | hb
      · exact h6 q hq
      · exact less_trans (h6 q hq) (h5 _ rfl b hb)
    · rcases List.mem_cons.1 hb with rfl | hb
      · exact Classical.byContradiction fun e => h3 e
      · exact h7 b hb
theorem subS_asc {l : List CT} (h : subS l = 0) : (l.Pairwise fun a b => Op.bytesLess a.kind.data.toList b.kind.data.toList = true) ∧ (∀ a ∈ l, attrS a.attrs = 0) ∧ l.length ≤ 4 := by
  unfold subS at h
  split at h
  · cases h
  · obtain ⟨h1, -, h2⟩ := subGo_asc l none h
    exact ⟨h1, h2, by omega⟩
/-- Kinds are different. -/
theorem kinds_apart {l : List CT} (h : subS l = 0) {i j : Nat} (hi : i < l.length) (hj : j < l.length) {kind : List UInt8} (h1 : (l[i].kind.toList == kind) = true) (h2 : (l[j].kind.toList == kind) = true) : i = j := by
  have e : l[i].kind.toList = l[j].kind.toList := by rw [eq_of_beq h1, eq_of_beq h2]
  rw [ByteArray.toList_eq, ByteArray.toList_eq] at e
  have hp := List.pairwise_iff_getElem.1 (subS_asc h).1
  rcases Nat.lt_trichotomy i j with hij | hij | hij
  · have := hp i j hi hj hij
    rw [e, less_irrefl] at this
    cases this
  · exact hij
  · have := hp j i hj hi hij
    rw [e, less_irrefl] at this
    cases this
/-- One context alone is of the kind. -/
theorem putC_set {l : List CT} (h : subS l = 0) {i : Nat} (hi : i < l.length) {kind : List UInt8} (h1 : (l[i].kind.toList == kind) = true) (a : AD) : putC kind a l = l.set i ⟨l[i].kind, l[i].key, l[i].ptr, l[i].len, l[i].cap, insA a l[i].attrs⟩ := by
  apply List.ext_getElem (by simp [putC])
  intro j h2 h3
  have hj : j < l.length := by simpa using h3
  rw [List.getElem_set]
  simp only [putC, List.getElem_map]
  by_cases e : i = j
  · subst e
    rw [if_pos h1, if_pos rfl]
  · rw [if_neg (fun hk => e (kinds_apart h hi hj h1 hk)), if_neg e]

theorem findS_kind {kind : List UInt8} : ∀ {l : List CT} {c : CT}, findS kind l = some c → (c.kind.toList == kind) = true
  | [], c, h => by cases h
  | a :: r, c, h => by
    rw [findS] at h
    split at h
    · rename_i hk
      injection h with h
      subst h
      exact hk
    · exact findS_kind h

end Go.Proofs.YtkglejfkfeahcaaGreatDoor.subj

namespace Go.Proofs.YtkglejfkfeahcaaGreatDoor.subj
open Go.RowKit Go.Proofs.YtkglejfkfeahcaaGreatDoor Go.Proofs.YtkglejfkfeahcaaGreatDoor.schema Go.Proofs.YtkglejfkfeahcaaGreatDoor.value Go.Proofs.YtkglejfkfeahcaaGreatDoor.text Go.Proofs.YtkglejfkfeahcaaGreatDoor.clause Go.Proofs.YtkglejfkfeahcaaGreatDoor.draw

theorem rows_put {w w' : World} {g n c p : Nat} {l : List AD} {a : AD} (h : RowsAt w.cell? 5 (.slice (some ⟨g, 0, none⟩) n c) (l.map AD.row)) (hin : ∀ j x, a.row[j]? = some x → w'.cell? ⟨g, p * 5 + j, none⟩ = some x) (hout : ∀ q, q < p * 5 ∨ p * 5 + 5 ≤ q → w'.cell? ⟨g, q, none⟩ = w.cell? ⟨g, q, none⟩) : RowsAt w'.cell? 5 (.slice (some ⟨g, 0, none⟩) n c) ((l.set p a).map AD.row) := by
  obtain ⟨a0, c0, e, h2, h3, h4⟩ := h
  refine ⟨a0, c0, by simpa using e, by simpa using h2, h3, ?_⟩
  rcases h4 with h4 | ⟨blk, off, rfl, h5⟩
  · have : l = [] := by simpa using h4
    subst this
    exact Or.inl rfl
  · injection e with e
    injection e with e
    injection e with e1 e2
    subst e1
    subst e2
    refine Or.inr ⟨g, 0, rfl, fun i r hi j x hj => ?_⟩
    rw [List.getElem?_map, List.getElem?_set] at hi
    by_cases hp : p = i
    · subst hp
      rw [if_pos rfl] at hi
      split at hi
      · injection hi with hi
        subst hi
        rw [Nat.zero_add]
        exact hin j x hj
      · cases hi
    · rw [if_neg hp] at hi
      have hr : (l.map AD.row)[i]? = some r := by rw [List.getElem?_map]; exact hi
      have hj5 : j < 5 := by
        have h6 : r.length = 5 := by
          obtain ⟨d, -, rfl⟩ := List.mem_map.1 (List.mem_of_getElem? hr)
          rfl
        rw [← h6]
        exact (List.getElem?_eq_some_iff.1 hj).1
      rw [hout _ (by omega)]
      exact h5 i r hr j x hj
theorem rows_put3 {w w' : World} {g n c p : Nat} {l : List CT} {a : CT} (h : RowsAt w.cell? 3 (.slice (some ⟨g, 0, none⟩) n c) (l.map CT.row)) (hin : ∀ j x, a.row[j]? = some x → w'.cell? ⟨g, p * 3 + j, none⟩ = some x) (hout : ∀ q, q < p * 3 ∨ p * 3 + 3 ≤ q → w'.cell? ⟨g, q, none⟩ = w.cell? ⟨g, q, none⟩) : RowsAt w'.cell? 3 (.slice (some ⟨g, 0, none⟩) n c) ((l.set p a).map CT.row) := by
  obtain ⟨a0, c0, e, h2, h3, h4⟩ := h
  refine ⟨a0, c0, by simpa using e, by simpa using h2, h3, ?_⟩
  rcases h4 with h4 | ⟨blk, off, rfl, h5⟩
  · have : l = [] := by simpa using h4
    subst this
    exact Or.inl rfl
  · injection e with e
    injection e with e
    injection e with e1 e2
    subst e1
    subst e2
    refine Or.inr ⟨g, 0, rfl, fun i r hi j x hj => ?_⟩
    rw [List.getElem?_map, List.getElem?_set] at hi
    by_cases hp : p = i
    · subst hp
      rw [if_pos rfl] at hi
      split at hi
      · injection hi with hi
        subst hi
        rw [Nat.zero_add]
        exact hin j x hj
      · cases hi
    · rw [if_neg hp] at hi
      have hr : (l.map CT.row)[i]? = some r := by rw [List.getElem?_map]; exact hi
      have hj3 : j < 3 := by
        have h6 : r.length = 3 := by
          obtain ⟨d, -, rfl⟩ := List.mem_map.1 (List.mem_of_getElem? hr)
          rfl
        rw [← h6]
        exact (List.getElem?_eq_some_iff.1 hj).1
      rw [hout _ (by omega)]
      exact h5 i r hr j x hj
/-- Contexts as before but for the attributes of the k-th. -/
theorem with_same {l l' : List CT} {kind name : ByteArray} {v v' : VD} {k : Nat} (hk : k < l.length) (hc : subS l = 0) (hf : findS kind.toList l = some l[k]) (h2 : ¬ (keyS name.data.toList = false ∨ (name.data.toList == [107, 101, 121]) = true)) (h3 : checkS (vv v) = 0) (hal : Alike SameC l' l) {kd ky : ByteArray} {pp p2 : Option Addr} {m m' n2 c2 : Nat} {at' : List AD} (hck : l'[k]? = some ⟨kd, ky, pp, m, m', at'⟩) (hv : SameV v' v) (h20 : ¬ 20 < (insA ⟨name, v'⟩ at').length) :
    (withS l kind name v).2 = 0 ∧ Alike SameC (l'.set k ⟨kd, ky, p2, n2, c2, insA ⟨name, v'⟩ at'⟩) (withS l kind name v).1 := by
  have hk' : k < l'.length := by rw [hal.1]; exact hk
  have hs := hal.2 k hk' hk
  rw [show l'[k] = _ from (List.getElem?_eq_some_iff.1 hck).2] at hs
  have hi := insA_alike (a' := ⟨name, v'⟩) (a := ⟨name, v⟩) ⟨rfl, hv⟩ hs.2.2
  rw [hi.1] at h20
  have e : withS l kind name v = (putC kind.toList ⟨name, v⟩ l, 0) := by
    unfold withS
    rw [if_neg (by rw [hc]; decide), hf]
    simp only []
    rw [if_neg h2, if_neg (by rw [h3]; decide), if_neg h20]
  rw [e]
  refine ⟨rfl, ?_⟩
  rw [putC_set hc hk (findS_kind hf)]
  exact Alike.set' (R := SameC) hal (a' := ⟨kd, ky, p2, n2, c2, insA ⟨name, v'⟩ at'⟩) (a := ⟨l[k].kind, l[k].key, l[k].ptr, l[k].len, l[k].cap, insA ⟨name, v⟩ l[k].attrs⟩) ⟨hs.1, hs.2.1, hi⟩ k

end Go.Proofs.YtkglejfkfeahcaaGreatDoor.subj

namespace Go.Proofs.YtkglejfkfeahcaaGreatDoor.subj
open Go.RowKit Go.Proofs.YtkglejfkfeahcaaGreatDoor Go.Proofs.YtkglejfkfeahcaaGreatDoor.schema Go.Proofs.YtkglejfkfeahcaaGreatDoor.value Go.Proofs.YtkglejfkfeahcaaGreatDoor.text Go.Proofs.YtkglejfkfeahcaaGreatDoor.clause Go.Proofs.YtkglejfkfeahcaaGreatDoor.draw

theorem flat_at {m : Mem} {sz b : Nat} : ∀ {rows : List (List Value)} {off : Nat}, (∀ r ∈ rows, r.length = sz) → (∀ i r, rows[i]? = some r → ∀ j x, r[j]? = some x → m ⟨b, off + i * sz + j, none⟩ = some x) → ∀ j u, rows.flatten[j]? = some u → m ⟨b, off + j, none⟩ = some u
  | [], off, _, _, j, u, h => by simp at h
  | r :: rest, off, hs, hr, j, u, h => by
    have hl : r.length = sz := hs r (by simp)
    rw [List.flatten_cons] at h
    rcases Nat.lt_or_ge j r.length with hj | hj
    · rw [List.getElem?_append_left hj] at h
      have := hr 0 r rfl j u h
      rw [Nat.zero_mul, Nat.add_zero] at this
      exact this
    · rw [List.getElem?_append_right hj] at h
      have := flat_at (m := m) (b := b) (rows := rest) (off := off + sz) (fun x hx => hs x (by simp [hx])) (fun i r' hi j' x hx => by
        have := hr (i + 1) r' (by simpa using hi) j' x hx
        rw [show off + sz + i * sz + j' = off + (i + 1) * sz + j' by rw [Nat.add_mul]; omega]
        exact this) (j - r.length) u h
      rw [show off + j = off + sz + (j - r.length) by omega]
      exact this
theorem rows_flat {m : Mem} {sz b off n c : Nat} {rows : List (List Value)} (h : RowsAt m sz (.slice (some ⟨b, off, none⟩) n c) rows) (hs : ∀ r ∈ rows, r.length = sz) : ∀ j u, rows.flatten[j]? = some u → m ⟨b, off + j, none⟩ = some u := by
  obtain ⟨a0, c0, e, -, -, h4⟩ := h
  rcases h4 with h4 | ⟨blk, off', rfl, h5⟩
  · subst h4
    intro j u hj
    simp at hj
  · injection e with e
    injection e with e
    injection e with e1 e2
    subst e1
    subst e2
    exact flat_at hs h5
/-- A list of rows that holds one lies somewhere. -/
theorem rows_some {m : Mem} {sz n c : Nat} {a : Option Addr} {rows : List (List Value)} (h : RowsAt m sz (.slice a n c) rows) (h0 : rows ≠ []) : ∃ b off, a = some ⟨b, off, none⟩ := by
  obtain ⟨a0, c0, e, -, -, h4⟩ := h
  injection e with e
  subst e
  rcases h4 with h4 | ⟨blk, off, h5, -⟩
  · exact absurd h4 h0
  · exact ⟨blk, off, h5⟩
theorem flat_rows3 (l : List CT) : (l.map CT.row).flatten.length = l.length * 3 := by
  induction l with
  | nil => rfl
  | cons a r ih => simp only [List.map_cons, List.flatten_cons, List.length_append, ih, List.length_cons]; simp [CT.row]; omega

end Go.Proofs.YtkglejfkfeahcaaGreatDoor.subj

namespace Go.Proofs.YtkglejfkfeahcaaGreatDoor.subj
open Go.RowKit Go.Proofs.YtkglejfkfeahcaaGreatDoor Go.Proofs.YtkglejfkfeahcaaGreatDoor.schema Go.Proofs.YtkglejfkfeahcaaGreatDoor.value Go.Proofs.YtkglejfkfeahcaaGreatDoor.text Go.Proofs.YtkglejfkfeahcaaGreatDoor.clause

/-- The first i contexts with the attribute, the others as they were. -/
def mixC (kind : List UInt8) (a : AD) (l : List CT) (i : Nat) : List CT := putC kind a (l.take i) ++ l.drop i
theorem mixC_zero (kind : List UInt8) (a : AD) (l : List CT) : mixC kind a l 0 = l := by simp [mixC, putC]
theorem mixC_end (kind : List UInt8) (a : AD) {l : List CT} {i : Nat} (h : l.length ≤ i) : mixC kind a l i = putC kind a l := by
  unfold mixC
  rw [List.take_of_length_le h, List.drop_eq_nil_of_le h, List.append_nil]
theorem mixC_len (kind : List UInt8) (a : AD) (l : List CT) (i : Nat) : (mixC kind a l i).length = l.length := by
  simp [mixC, putC]
  omega
theorem mixC_step (kind : List UInt8) (a : AD) {l : List CT} {i : Nat} (h : i < l.length) : mixC kind a l (i + 1) = (mixC kind a l i).set i (if (l[i].kind.toList == kind) = true then ⟨l[i].kind, l[i].key, l[i].ptr, l[i].len, l[i].cap, insA a l[i].attrs⟩ else l[i]) := by
  have hl : (putC kind a (l.take i)).length = i := by simp [putC]; omega
  unfold mixC
  rw [List.set_append_right _ _ (by omega), hl, Nat.sub_self, List.drop_eq_getElem_cons h, List.set_cons_zero]
  unfold putC
  rw [List.take_succ_eq_append_getElem h, List.map_append, List.append_assoc]
  rfl
theorem mixC_at (kind : List UInt8) (a : AD) {l : List CT} {i : Nat} (h : i < l.length) : (mixC kind a l i)[i]? = some l[i] := by
  have hl : (putC kind a (l.take i)).length = i := by simp [putC]; omega
  unfold mixC
  rw [List.getElem?_append_right (by omega), hl, Nat.sub_self, List.drop_eq_getElem_cons h]
  rfl
theorem mixC_miss {kind : List UInt8} (a : AD) {l : List CT} {i : Nat} (h : i < l.length) (hk : (l[i].kind.toList == kind) = false) : mixC kind a l (i + 1) = mixC kind a l i := by
  rw [mixC_step kind a h, if_neg (by rw [hk]; decide)]
  have h1 := mixC_at kind a h
  apply List.ext_getElem?
  intro j
  rw [List.getElem?_set]
  split
  · rename_i e
    subst e
    rw [if_pos (by rw [mixC_len]; exact h), h1]
  · rfl
theorem mixC_hit {kind : List UInt8} (a : AD) {l : List CT} {i : Nat} (h : i < l.length) (hk : (l[i].kind.toList == kind) = true) : mixC kind a l (i + 1) = (mixC kind a l i).set i ⟨l[i].kind, l[i].key, l[i].ptr, l[i].len, l[i].cap, insA a l[i].attrs⟩ := by
  rw [mixC_step kind a h, if_pos hk]

theorem findS_some {kind : List UInt8} : ∀ {l : List CT} {c : CT}, findS kind l = some c → ∃ (k : Nat) (h : k < l.length), l[k] = c
  | [], c, h => by cases h
  | a :: r, c, h => by
    rw [findS] at h
    split at h
    · injection h with h
      exact ⟨0, by simp, h⟩
    · obtain ⟨k, hk, e⟩ := findS_some h
      exact ⟨k + 1, by simpa using hk, by simpa using e⟩
theorem findS_none {kind : List UInt8} : ∀ {l : List CT}, findS kind l = none → ∀ c ∈ l, (c.kind.toList == kind) = false
  | [], _, c, hc => (List.not_mem_nil hc).elim
  | a :: r, h, c, hc => by
    rw [findS] at h
    split at h
    · cases h
    · rename_i hk
      rcases List.mem_cons.1 hc with rfl | hc
      · simpa using hk
      · exact findS_none h c hc
/-- The context of a kind is found. -/
theorem findS_at {l : List CT} (h : subS l = 0) {i : Nat} (hi : i < l.length) {kind : List UInt8} (hk : (l[i].kind.toList == kind) = true) : findS kind l = some l[i] := by
  cases hf : findS kind l with
  | none => rw [findS_none hf _ (List.getElem_mem hi)] at hk; cases hk
  | some c =>
    obtain ⟨k, hkl, rfl⟩ := findS_some hf
    have := kinds_apart h hkl hi (findS_kind hf) hk
    subst this
    rfl

/-- Where the name stands already. -/
theorem insA_at {a : AD} {l : List AD} (h : hasAt a.name.data.toList l (posA a.name.data.toList l) = true) : insA a l = l.take (posA a.name.data.toList l) ++ a :: l.drop (posA a.name.data.toList l + 1) := by
  unfold insA
  rw [h, if_pos rfl]

end Go.Proofs.YtkglejfkfeahcaaGreatDoor.subj

namespace Go.Proofs.YtkglejfkfeahcaaGreatDoor.subj
open Go.RowKit Go.Proofs.YtkglejfkfeahcaaGreatDoor Go.Proofs.YtkglejfkfeahcaaGreatDoor.schema Go.Proofs.YtkglejfkfeahcaaGreatDoor.value Go.Proofs.YtkglejfkfeahcaaGreatDoor.text Go.Proofs.YtkglejfkfeahcaaGreatDoor.clause

theorem findA_append (x : List UInt8) : ∀ l m : List AD, findA x (l ++ m) = match findA x l with | some v => some v | none => findA x m
  | [], m => rfl
  | a :: r, m => by
    rw [List.cons_append, findA, findA]
    split
    · rfl
    · exact findA_append x r m
theorem findA_none {x : List UInt8} : ∀ {l : List AD}, (∀ a ∈ l, (a.name.toList == x) = false) → findA x l = none
  | [], _ => rfl
  | a :: r, h => by
    rw [findA, if_neg (by rw [h a (by simp)]; decide)]
    exact findA_none fun b hb => h b (by simp [hb])
theorem bef_ne {a : AD} {x : ByteArray} (h : befA x.data.toList a = true) : (a.name.toList == x.toList) = false := by
  cases hq : (a.name.toList == x.toList) with
  | false => rfl
  | true =>
    have e := eq_of_beq hq
    rw [ByteArray.toList_eq, ByteArray.toList_eq] at e
    unfold befA at h
    rw [e, less_irrefl] at h
    cases h
theorem take_bef (x : List UInt8) (l : List AD) : ∀ a ∈ l.take (posA x l), befA x a = true := by
  intro a ha
  obtain ⟨j, hj, rfl⟩ := List.getElem_of_mem ha
  rw [List.length_take] at hj
  rw [List.getElem_take]
  exact posA_below _ (by omega)
theorem findA_ins_self (n : ByteArray) (v : VD) (l : List AD) : findA n.toList (insA ⟨n, v⟩ l) = some v := by
  unfold insA
  rw [findA_append, findA_none (fun a ha => bef_ne (take_bef _ _ a ha))]
  simp [findA]
theorem findA_ins_other {n : ByteArray} {m : List UInt8} (h : (n.toList == m) = false) (v : VD) (l : List AD) : findA m (insA ⟨n, v⟩ l) = findA m l := by
  conv => rhs; rw [← List.take_append_drop (posA n.data.toList l) l]
  unfold insA
  rw [findA_append, findA_append, findA, if_neg (by simp only; rw [h]; decide)]
  cases hh : hasAt n.data.toList l (posA n.data.toList l) with
  | false => simp
  | true =>
    have hp : posA n.data.toList l < l.length := Nat.lt_of_not_le fun e => by rw [hasAt_out (by omega)] at hh; cases hh
    rw [hasAt_in hp] at hh
    have e := eq_of_beq hh
    rw [if_pos rfl, List.drop_eq_getElem_cons hp, findA, if_neg (by rw [ByteArray.toList_eq, e, ← ByteArray.toList_eq, h]; decide)]
theorem findS_putC (kind : List UInt8) (a : AD) (k2 : List UInt8) : ∀ l : List CT, findS k2 (putC kind a l) = (findS k2 l).map fun c => if (c.kind.toList == kind) = true then { c with attrs := insA a c.attrs } else c
  | [] => rfl
  | c :: r => by
    have ih := findS_putC kind a k2 r
    unfold putC at ih ⊢
    rw [List.map_cons, findS, findS]
    have e : (if (c.kind.toList == kind) = true then { c with attrs := insA a c.attrs } else c).kind = c.kind := by split <;> rfl
    rw [e]
    split
    · rfl
    · exact ih
/-- The attribute is found there. -/
theorem look_put_self {l : List CT} {kind : List UInt8} {n : ByteArray} {v : VD} {c : CT} (hf : findS kind l = some c) (hn : (n.toList == [107, 101, 121]) = false) : lookS (putC kind ⟨n, v⟩ l) kind n.toList = some v := by
  rw [look_attr (c := { c with attrs := insA ⟨n, v⟩ c.attrs }) (by rw [findS_putC, hf, Option.map_some, if_pos (findS_kind hf)]) hn]
  exact findA_ins_self n v c.attrs
/-- Nothing else changes. -/
theorem look_put_other {l : List CT} {kind k2 m : List UInt8} {n : ByteArray} {v : VD} (h : (k2 == kind) = false ∨ (n.toList == m) = false) : lookS (putC kind ⟨n, v⟩ l) k2 m = lookS l k2 m := by
  unfold lookS
  rw [findS_putC]
  cases hf : findS k2 l with
  | none => rfl
  | some c =>
    simp only [Option.map_some]
    by_cases hk : (c.kind.toList == kind) = true
    · rw [if_pos hk]
      simp only
      split
      · rfl
      · refine findA_ins_other (h.resolve_left fun e => ?_) v c.attrs
        have e1 := eq_of_beq (findS_kind hf)
        rw [e1] at hk
        rw [hk] at e
        cases e
    · rw [if_neg hk]

/-- Nothing, or two values of one content. -/
def SameO : Option VD → Option VD → Prop
  | some a, some b => SameV a b
  | none, none => True
  | _, _ => False
theorem Alike.inv {α : Type} {R : α → α → Prop} {a b : α} {l' l : List α} (h : Alike R (a :: l') (b :: l)) : R a b ∧ Alike R l' l :=
  ⟨h.2 0 (by simp) (by simp), by simpa using h.1, fun i h1 h2 => h.2 (i + 1) (by simpa using h1) (by simpa using h2)⟩
theorem findA_alike (x : List UInt8) : ∀ {l' l : List AD}, Alike SameA l' l → SameO (findA x l') (findA x l)
  | [], [], _ => trivial
  | [], b :: l, h => by have := h.1; simp at this
  | a :: l', [], h => by have := h.1; simp at this
  | a :: l', b :: l, h => by
    obtain ⟨h1, h2⟩ := h.inv
    rw [findA, findA, h1.1]
    split
    · exact h1.2
    · exact findA_alike x h2
theorem findS_alike (x : List UInt8) : ∀ {l' l : List CT}, Alike SameC l' l → (findS x l' = none ∧ findS x l = none) ∨ ∃ a b, findS x l' = some a ∧ findS x l = some b ∧ SameC a b
  | [], [], _ => Or.inl ⟨rfl, rfl⟩
  | [], b :: l, h => by have := h.1; simp at this
  | a :: l', [], h => by have := h.1; simp at this
  | a :: l', b :: l, h => by
    obtain ⟨h1, h2⟩ := h.inv
    rw [findS, findS, h1.1]
    split
    · exact Or.inr ⟨a, b, rfl, rfl, h1⟩
    · exact findS_alike x h2
theorem look_alike {l' l : List CT} (h : Alike SameC l' l) (kind name : List UInt8) : SameO (lookS l' kind name) (lookS l kind name) := by
  unfold lookS
  rcases findS_alike kind h with ⟨h1, h2⟩ | ⟨a, b, h1, h2, h3⟩
  · rw [h1, h2]; trivial
  · rw [h1, h2]
    simp only
    split
    · rw [h3.2.1]; exact ⟨rfl, rfl, rfl, rfl⟩
    · exact findA_alike name h3.2.2

end Go.Proofs.YtkglejfkfeahcaaGreatDoor.subj
