/- What SubjectWith's walk holds. -/
import Derived.Test.YtamkmdlfhlbbeaaGreatDoorKJ20
import Derived.Test.YtamkmdlfhlbbeaaGreatDoorKJ16
namespace Go.Proofs.YtamkmdlfhlbbeaaGreatDoor.subj
open Go.RowKit Go.Proofs.YtamkmdlfhlbbeaaGreatDoor Go.Proofs.YtamkmdlfhlbbeaaGreatDoor.schema Go.Proofs.YtamkmdlfhlbbeaaGreatDoor.value Go.Proofs.YtamkmdlfhlbbeaaGreatDoor.text Go.Proofs.YtamkmdlfhlbbeaaGreatDoor.clause Go.Proofs.YtamkmdlfhlbbeaaGreatDoor.draw

/-- A value looked up lies in a block of its own. -/
def OutV (w : World) (o : Option VD) (p q : Value) (u : World) : Prop :=
  ∃ (g : Nat) (d : VD), p = .pointer (some ⟨g, 0, none⟩) ∧ q = .bool o.isSome ∧ Own u g #[.int .i64 d.kind, .int .i64 d.num, .string d.text, .slice d.ptr d.len d.cap] 51 ∧ SameV d (o.getD zeroV) ∧ LAt u.cell? d ∧ Aft w u
theorem outV_new {w u : World} {o : Option VD} {d : VD} {lo hi : Nat} (h1 : SameV d (o.getD zeroV)) (h2 : LAt (mOut lo hi u) d) (hb : Aft w u) :
    OutV w o (.pointer (some ⟨u.heap.size, 0, none⟩)) (.bool o.isSome) (u.alloc (.cells #[.int .i64 d.kind, .int .i64 d.num, .string d.text, .slice d.ptr d.len d.cap] 51)) :=
  ⟨_, d, rfl, rfl, Own.new u _ _, h1, (h2.mono (mOut_in _ _ _)).mono (sub_of_below ((Below.refl u.heap.size u).alloc (Nat.le_refl _) _)), hb.alloc _⟩
theorem outV_old {w u : World} {o : Option VD} {d : VD} {hi g : Nat} (h1 : SameV d (o.getD zeroV)) (h2 : LAt (mOut w.heap.size hi u) d) (hb : Aft w u) (hO : Own u g #[.int .i64 0, .int .i64 0, .string ⟨#[]⟩, .slice none 0 0] 51) (hg1 : w.heap.size ≤ g) (hg2 : g < hi) :
    OutV w o (.pointer (some ⟨g, 0, none⟩)) (.bool o.isSome) ((((u.setCell ⟨g, 0, none⟩ (.int .i64 d.kind)).setCell ⟨g, 1, none⟩ (.int .i64 d.num)).setCell ⟨g, 2, none⟩ (.string d.text)).setCell ⟨g, 3, none⟩ (.slice d.ptr d.len d.cap)) :=
  ⟨g, d, rfl, rfl, (((hO.set 0 _).set 1 _).set 2 _).set 3 _, h1, (h2.mono (((mOut_set (q := ⟨g, 0, none⟩) hg1 hg2 _).trans (mOut_set (q := ⟨g, 1, none⟩) hg1 hg2 _)).trans (((mOut_set (q := ⟨g, 2, none⟩) hg1 hg2 _).trans (mOut_set (q := ⟨g, 3, none⟩) hg1 hg2 _)).trans (mOut_in _ _ _)))), Below.setCell (Below.setCell (Below.setCell (Below.setCell hb (p := ⟨g, 0, none⟩) hg1 _) (p := ⟨g, 1, none⟩) hg1 _) (p := ⟨g, 2, none⟩) hg1 _) (p := ⟨g, 3, none⟩) hg1 _⟩

/-- Where With gives no error. -/
theorem withS_ok {l : List CT} {kind name : ByteArray} {v : VD} (h : (withS l kind name v).2 = 0) : ∃ c, findS kind.toList l = some c ∧ (name.toList == [107, 101, 121]) = false ∧ (withS l kind name v).1 = putC kind.toList ⟨name, v⟩ l := by
  unfold withS at h ⊢
  split at h
  · rename_i h1; exact absurd h h1
  · rename_i h1
    rw [if_neg h1]
    split at h
    · simp at h
    · rename_i c hf
      split at h
      · simp at h
      · rename_i h2
        split at h
        · rename_i h3; exact absurd h h3
        · rename_i h3
          split at h
          · simp at h
          · rename_i h4
            refine ⟨c, hf, ?_, ?_⟩
            · rw [ByteArray.toList_eq]
              cases hq : (name.data.toList == [107, 101, 121]) with
              | false => rfl
              | true => exact absurd (Or.inr hq) h2
            · rw [if_neg h2, if_neg h3, if_neg h4]
theorem pairs_alike {l' p l : List CT} (h : Alike SameC l' p) (h2 : Alike SameC l p) : Pairs CEq l' l :=
  ⟨h.1.trans h2.1.symm, fun i h1 h3 => ceq_two (h.2 i h1 (by have := h.1; omega)) (h2.2 i h3 (by have := h.1; omega))⟩

theorem isSome_opt {o o' : Option VD} (h : SameO o o') : o.isSome = o'.isSome := by
  cases o <;> cases o' <;> first | rfl | exact h.elim
theorem eqV_opt {x y : VD} {o o' : Option VD} (h1 : SameV x (o'.getD zeroV)) (h2 : SameV y (o.getD zeroV)) (h : SameO o o') : eqV x y = true := by
  have h3 : SameV (o.getD zeroV) (o'.getD zeroV) := by
    cases o <;> cases o' <;> first | exact SameV.refl _ | exact h.elim | exact h
  exact eqV_two h1 ⟨h2.1.trans h3.1, h2.2.1.trans h3.2.1, h2.2.2.1.trans h3.2.2.1, h2.2.2.2.trans h3.2.2.2⟩

/-- What is held while a kind, a name and a value are drawn. -/
structure DR (wx u : World) (b : Nat) (a : Option Addr) (n c gk gn : Nat) (ks ns : Array Value) : Prop where
  head : Head b a n c u
  grown : wx.grownBy u (some b)
  k : Own u gk ks 9
  nb : gk ≠ b
  nm : Own u gn ns 9
  nn : gn ≠ b
section
variable {wx u x : World} {b : Nat} {a : Option Addr} {n c gk gn gv : Nat} {ks ns : Array Value} {d d' : VD}
theorem DR.call (h : DR wx u b a n c gk gn ks ns) (hG : u.grownBy x (some b)) (hH : Head b a n c x) : DR wx x b a n c gk gn ks ns :=
  ⟨hH, g_call h.grown hG, h.k.kept hG (fun e => h.nb (Option.some.inj e).symm), h.nb, h.nm.kept hG (fun e => h.nn (Option.some.inj e).symm), h.nn⟩
theorem DR.alloc (h : DR wx u b a n c gk gn ks ns) (o : Obj) : DR wx (u.alloc o) b a n c gk gn ks ns := h.call (World.grownBy_alloc u o _) (h.head.alloc o)
theorem DR.drew (h : DR wx u b a n c gk gn ks ns) : DR wx u.drew b a n c gk gn ks ns := h.call (grown_drewN u 1 _) h.head.drew

theorem DR.set1 (h : DR wx u b a n c gk gn ks ns) {p : Addr} (hl : wx.heap.size ≤ p.block) (hb : b ≠ p.block) (hk : gk ≠ p.block) (hn : gn ≠ p.block) (v : Value) : DR wx (u.setCell p v) b a n c gk gn ks ns :=
  ⟨h.head.set hb v, g_setCell h.grown hl v, h.k.setOther hk v, h.nb, h.nm.setOther hn v, h.nn⟩
theorem DR.set4 (h : DR wx u b a n c gk gn ks ns) (hl : wx.heap.size ≤ gv) (hb : b < wx.heap.size) (hk : gk < wx.heap.size) (hn : gn < wx.heap.size) (v0 v1 v2 v3 : Value) : DR wx ((((u.setCell ⟨gv, 0, none⟩ v0).setCell ⟨gv, 1, none⟩ v1).setCell ⟨gv, 2, none⟩ v2).setCell ⟨gv, 3, none⟩ v3) b a n c gk gn ks ns := by
  have q1 : b ≠ gv := by omega
  have q2 : gk ≠ gv := by omega
  have q3 : gn ≠ gv := by omega
  exact (((h.set1 hl q1 q2 q3 _).set1 hl q1 q2 q3 _).set1 hl q1 q2 q3 _).set1 hl q1 q2 q3 _
/-- A value that is drawn, in its box. -/
structure PickR (wx u : World) (b : Nat) (a : Option Addr) (n c gv : Nat) (d : VD) : Prop where
  head : Head b a n c u
  grown : wx.grownBy u (some b)
  own : Own u gv #[.int .i64 d.kind, .int .i64 d.num, .string d.text, .slice d.ptr d.len d.cap] 51
  lat : LAt (excl [b, gv] u) d
  low : wx.heap.size ≤ gv
  br : b < wx.heap.size
theorem PickR.call (h : PickR wx u b a n c gv d) (hG : u.grownBy x (some b)) (hH : Head b a n c x) : PickR wx x b a n c gv d := by
  have hl := h.low
  have hb := h.br
  exact ⟨hH, g_call h.grown hG, h.own.kept hG (by simp; omega), h.lat.mono (excl_grown hG (fun k e => by cases e; simp)), h.low, h.br⟩
theorem PickR.set {w0 : Array Value} (h1 : Head b a n c u) (h2 : wx.grownBy u (some b)) (h3 : Own u gv #[w0[0]!, w0[1]!, w0[2]!, w0[3]!] 51) (hl : wx.heap.size ≤ gv) (hb : b < wx.heap.size) (hv : LAt (excl [b, gv] u) d) :
    PickR wx ((((u.setCell ⟨gv, 0, none⟩ (.int .i64 d.kind)).setCell ⟨gv, 1, none⟩ (.int .i64 d.num)).setCell ⟨gv, 2, none⟩ (.string d.text)).setCell ⟨gv, 3, none⟩ (.slice d.ptr d.len d.cap)) b a n c gv d := by
  refine ⟨(((h1.set (by simp; omega) _).set (by simp; omega) _).set (by simp; omega) _).set (by simp; omega) _, g_setCell (g_setCell (g_setCell (g_setCell h2 (by simp; omega) _) (by simp; omega) _) (by simp; omega) _) (by simp; omega) _, (((h3.set 0 _).set 1 _).set 2 _).set 3 _, ?_, hl, hb⟩
  exact hv.mono ((((excl_set (X := [b, gv]) (by simp) _).trans (excl_set (X := [b, gv]) (by simp) _)).trans (excl_set (X := [b, gv]) (by simp) _)).trans (excl_set (X := [b, gv]) (by simp) _))
theorem PickR.start (h : DR wx u b a n c gk gn ks ns) (h3 : Own u gv #[.int .i64 0, .int .i64 0, .string ⟨#[]⟩, .slice none 0 0] 51) (hl : wx.heap.size ≤ gv) (hb : b < wx.heap.size) (hv : LAt (excl [b, gv] u) d) :
    PickR wx ((((u.setCell ⟨gv, 0, none⟩ (.int .i64 d.kind)).setCell ⟨gv, 1, none⟩ (.int .i64 d.num)).setCell ⟨gv, 2, none⟩ (.string d.text)).setCell ⟨gv, 3, none⟩ (.slice d.ptr d.len d.cap)) b a n c gv d :=
  PickR.set (w0 := #[.int .i64 0, .int .i64 0, .string ⟨#[]⟩, .slice none 0 0]) h.head h.grown h3 hl hb hv
theorem PickR.put (h : PickR wx u b a n c gv d) (hv : LAt (excl [b, gv] u) d') :
    PickR wx ((((u.setCell ⟨gv, 0, none⟩ (.int .i64 d'.kind)).setCell ⟨gv, 1, none⟩ (.int .i64 d'.num)).setCell ⟨gv, 2, none⟩ (.string d'.text)).setCell ⟨gv, 3, none⟩ (.slice d'.ptr d'.len d'.cap)) b a n c gv d' :=
  PickR.set (w0 := #[.int .i64 d.kind, .int .i64 d.num, .string d.text, .slice d.ptr d.len d.cap]) h.head h.grown h.own h.low h.br hv
end

def ksA (kind : ByteArray) : Array Value := #[.string ⟨#[117, 115, 101, 114]⟩, .string ⟨#[100, 101, 118, 105, 99, 101]⟩, .string kind]
def nsA (name : ByteArray) : Array Value := #[.string ⟨#[112, 108, 97, 110]⟩, .string ⟨#[97, 103, 101]⟩, .string ⟨#[122, 101, 116, 97]⟩, .string ⟨#[107, 101, 121]⟩, .string name]
theorem ks_at (kind : ByteArray) {i : Nat} (h : i < 3) : ∃ kd, (ksA kind)[i]? = some (.string kd) := by
  rcases (show i = 0 ∨ i = 1 ∨ i = 2 by omega) with rfl | rfl | rfl <;> exact ⟨_, rfl⟩
theorem ns_at (name : ByteArray) (hn : name.size ≤ maxLen) {j : Nat} (h : j < 5) : ∃ nm, (nsA name)[j]? = some (.string nm) ∧ nm.size ≤ maxLen := by
  rcases (show j = 0 ∨ j = 1 ∨ j = 2 ∨ j = 3 ∨ j = 4 by omega) with rfl | rfl | rfl | rfl | rfl
  · exact ⟨_, rfl, show 4 ≤ _ by decide⟩
  · exact ⟨_, rfl, show 3 ≤ _ by decide⟩
  · exact ⟨_, rfl, show 4 ≤ _ by decide⟩
  · exact ⟨_, rfl, show 3 ≤ _ by decide⟩
  · exact ⟨_, rfl, hn⟩

/-- A box of one slice holds no cell of rows that begin with something else. -/
theorem rows_avoid {w : World} {b gs sz : Nat} {v x0 : Value} {rows : List (List Value)} {t : TypeId} (h : RowsAt (but b w) sz v rows) (hO : Own w gs #[x0] t) (hr : ∀ r ∈ rows, r[0]? ≠ some x0) : RowsAt (excl [b, gs] w) sz v rows := by
  obtain ⟨a, c, h1, h2, h3, h4⟩ := h
  refine ⟨a, c, h1, h2, h3, ?_⟩
  rcases h4 with h4 | ⟨blk, off, h5, h6⟩
  · exact Or.inl h4
  · refine Or.inr ⟨blk, off, h5, fun i r hi j x hx => ?_⟩
    have hc := h6 i r hi j x hx
    have hcw := but_sub _ _ _ _ hc
    refine excl_mk (fun e => ?_) hcw
    have hb : blk ≠ b := by intro e; unfold but at hc; rw [if_pos e] at hc; cases hc
    have hg : blk = gs := by simpa [hb] using e
    subst hg
    rw [hO.cell] at hcw
    have hq := (Array.getElem?_eq_some_iff.1 hcw).1
    have hq0 : off + i * sz + j = 0 := by simpa using hq
    rw [hq0] at hcw
    have hj : j = 0 := by omega
    subst hj
    have hxx : x0 = x := by simpa using hcw
    exact hr r (List.mem_of_getElem? hi) (by rw [hx, hxx])
theorem sat_avoid {w : World} {b gs m c : Nat} {p : Option Addr} {v : Value} {l : List CT} {t : TypeId} (h : SAt (but b w) v l) (hO : Own w gs #[.slice p m c] t) : SAt (excl [b, gs] w) v l := by
  refine ⟨rows_avoid h.rows hO (fun r hr => ?_), fun x hx => ?_⟩
  · obtain ⟨d, -, rfl⟩ := List.mem_map.1 hr
    simp [CT.row]
  · have hc := h.each x hx
    refine ⟨rows_avoid hc.rows hO (fun r hr => ?_), fun y hy => ?_, hc.key⟩
    · obtain ⟨d, -, rfl⟩ := List.mem_map.1 hr
      simp [AD.row]
    · have hl := hc.each y hy
      refine ⟨rows_avoid hl.rows hO (fun r hr => ?_), hl.text, hl.few⟩
      obtain ⟨d, -, rfl⟩ := List.mem_map.1 hr
      simp [strRow]

end Go.Proofs.YtamkmdlfhlbbeaaGreatDoor.subj

