/- Bytes as they came in; bytes appended at a step of a region; a byte changed. -/
import Derived.Test.YtamkmdlfhlbbeaaGreatDoorKJ11
import Derived.Deep.AppendLies
import Derived.Deep.Slices
namespace Go.Proofs.YtamkmdlfhlbbeaaGreatDoor.wire
open Go.RowKit Go.Deep Go.Proofs.YtamkmdlfhlbbeaaGreatDoor Go.Proofs.YtamkmdlfhlbbeaaGreatDoor.draw Go.Proofs.YtamkmdlfhlbbeaaGreatDoor.text

theorem bv_of_bytes {m : Mem} {a : Option Addr} {n c : Nat} (h : BytesAt m a n c) : ∃ l, BV m (.slice a n c) l := by
  obtain ⟨h1, h2, h3⟩ := h
  rcases h3 with rfl | ⟨blk, off, rfl, h4⟩
  · exact ⟨[], a, c, rfl, h1, h2, Or.inl rfl⟩
  · obtain ⟨F, hF⟩ := choose_lt (α := Int) (p := fun i u => 0 ≤ u ∧ u ≤ 255 ∧ m ⟨blk, off + i, none⟩ = some (.int .u8 u)) h4
    refine ⟨(List.range n).map fun i => UInt8.ofNat (F i).toNat, some ⟨blk, off, none⟩, c, by simp, by simpa using h1, h2, Or.inr ⟨blk, off, rfl, fun i r hr j x hx => ?_⟩⟩
    rw [List.getElem?_map, List.getElem?_map] at hr
    obtain ⟨b, hb, rfl⟩ := Option.map_eq_some_iff.1 hr
    obtain ⟨i', hi', rfl⟩ := Option.map_eq_some_iff.1 hb
    obtain ⟨hlt, rfl⟩ := List.getElem?_eq_some_iff.1 hi'
    simp only [List.length_range] at hlt
    rw [List.getElem_range] at hx
    obtain ⟨k1, k2, k3⟩ := hF i hlt
    match j, hx with
    | 0, hx =>
      injection hx with hx
      subst hx
      rw [Nat.mul_one, Nat.add_zero, k3]
      congr 2
      simp
      omega
    | j + 1, hx => simp [byteRow] at hx
theorem bv_lit {w : World} {g : Nat} {cc : Int} {u : UInt8} (h : Own w g #[.int .u8 cc] 5) (hu : cc = (u.toNat : Int)) : BV w.cell? (.slice (some ⟨g, 0, none⟩) 1 1) [u] := by
  refine ⟨_, 1, rfl, by simp, by decide, Or.inr ⟨g, 0, rfl, fun i r hr j x hx => ?_⟩⟩
  match i, hr with
  | 0, hr =>
    injection hr with hr
    subst hr
    match j, hx with
    | 0, hx =>
      injection hx with hx
      subst hx
      rw [← hu]
      exact h.cell 0
    | j + 1, hx => simp [byteRow] at hx
  | i + 1, hr => simp at hr
theorem bs_some {B : Nat} {a : Option Addr} {n c : Nat} {l : List UInt8} {w : World} (h : BS B (.slice a n c) l w) (h0 : 0 < l.length) : ∃ g, a = some ⟨g, 0, none⟩ ∧ B ≤ g ∧ g < w.heap.size ∧ (∀ k, w.frozen? ⟨g, k, none⟩ = false) ∧ ∀ (k : Nat) (hk : k < l.length), w.cell? ⟨g, k, none⟩ = some (.int .u8 l[k].toNat) := by
  have hV := bv_of_bs h
  rcases h.out.2 with ⟨h1, h2⟩ | ⟨g, cap, cur, h1, h2, h3, h4, h5, h6, h7⟩
  · omega
  · injection h1 with e1 e2 e3
    subst e1
    have hO : Own w g cur 5 := h3
    refine ⟨g, rfl, h2, hO.lt, fun k => hO.free k, fun k hk => ?_⟩
    rcases hV.cell with rfl | ⟨blk, off, e, hc⟩
    · simp at h0
    · injection e with e
      injection e with e4 e5
      subst e4; subst e5
      have := hc k hk
      rw [Nat.zero_add] at this
      exact this
theorem bs_set {B g n c : Nat} {l : List UInt8} {w : World} (h : BS B (.slice (some ⟨g, 0, none⟩) n c) l w) (k : Nat) (u : UInt8) : BS B (.slice (some ⟨g, 0, none⟩) n c) (l.set k u) (w.setCell ⟨g, k, none⟩ (.int .u8 u.toNat)) := by
  have ho := h.out
  refine ⟨by simp [Lib.byteCells], ?_⟩
  rcases ho.2 with ⟨h1, h2⟩ | ⟨g2, cap, cur, h1, h2, h3, h4, h5, h6, h7⟩
  · cases h1
  · injection h1 with e1 e2 e3
    injection e1 with e1
    injection e1 with e1 e4 e5
    subst e1; subst e2; subst e3
    have hO : Own w g cur 5 := h3
    refine Or.inr ⟨g, c, cur.setIfInBounds k (.int .u8 u.toNat), by rw [List.length_set], h2, hO.set k _, by rw [List.length_set]; omega, h5, by rw [Array.size_setIfInBounds]; exact h6, ?_⟩
    rw [List.length_set, Array.toList_setIfInBounds, List.take_set, h7]
    simp [Lib.byteCells, List.map_set]
/-- 'append(b, c...)' at a step of a region that draws its order. -/
theorem step_append_bytes {ops : Array Oper} {o : Oper} {a : Act} {K : Act → World → Prop} {Q : Exit → Act → World → Prop} {E : Prop} {w : World} (hgd : o.guard = none) (s x : Operand)
    (ho : o.op = .call { callee := .builtin .append, args := #[s, x], argTypes := #[25, 25] })
    (B : Nat) (va : Option Addr) (n vc : Nat) (l : List UInt8) (hs : a.eval s = .slice va n vc) (hown : BS B (.slice va n vc) l w) (hn : n = l.length)
    (sa : Option Addr) (m c : Nat) (l2 : List UInt8) (hx : a.eval x = .slice sa m c) (hR : BV w.cell? (.slice sa m c) l2)
    (hl : n + m ≤ 140737488355328) (hB : B ≤ w.heap.size)
    (h : ∀ va' vc' w', BS B (.slice va' (n + m) vc') (l ++ l2) w' → n + m = (l ++ l2).length → Below B w w' → w.grownBy w' (Value.slice va n vc).ownBlock → K (a.put o.dst (.slice va' (n + m) vc')) w') :
    if Region.wanted o (yielded ops a.tmps) = true then Oper.wp Tryz.prog o a w K Q else E := by
  have hw : Region.wanted o (yielded ops a.tmps) = true := by simp [Region.wanted, hgd]
  rw [if_pos hw]
  subst hn
  have hm := hR.len.1
  subst hm
  obtain ⟨i0, hi, hz0, hz1, hz2⟩ := info_parts infoByte
  refine wp_append_rows s x _ ho B 5 i0 (.int .u8 0) 1 1 Tryz.underlying25 hi hz0 hz1 hz2 rfl (by decide) (.slice va l.length vc) l.length (Lib.byteCells l) hs hown.out sa l2.length c (l2.map byteRow) w.cell? hx hR.rows (fun _ _ e => e) (byte_rows l2) (byte_one' l2) (by unfold maxLen; omega) (by omega) hB ?_
  intro v' w' h2 h3
  have e1 : Lib.byteCells l ++ (l2.map byteRow).flatten = Lib.byteCells (l ++ l2) := by rw [byte_flat]; simp [Lib.byteCells]
  have e2 : l.length + l2.length = (l ++ l2).length := by simp
  rw [e1] at h2
  have hbs : BS B v' (l ++ l2) w' := by
    show w'.ownsRow B _ 1 _ (l ++ l2).length (Lib.byteCells (l ++ l2))
    rw [← e2]
    exact h2
  obtain ⟨va', vc', rfl⟩ := bs_form hbs
  have hb := below_own hown hB h3
  rw [← e2] at hbs ⊢
  exact h va' vc' w' hbs e2 hb h3

end Go.Proofs.YtamkmdlfhlbbeaaGreatDoor.wire

