/- What the laws of chapter 3 share: a list of values in a block. -/
import Derived.Test.YtnghpjijfdpmkaaGreatDoorValSM
import Derived.Test.YtnghpjijfdpmkaaGreatDoorValRT
import Derived.Test.YtnghpjijfdpmkaaGreatDoorValET
namespace Go.Proofs.YtnghpjijfdpmkaaGreatDoor.value
open Go.RowKit Go.Proofs.YtnghpjijfdpmkaaGreatDoor Go.Proofs.YtnghpjijfdpmkaaGreatDoor.text Go.Proofs.YtnghpjijfdpmkaaGreatDoor.draw

/-- The k-th value of a block. -/
def VAt (w : World) (A k : Nat) (x : VX) : Prop :=
  w.cell? ⟨A, k * 4, none⟩ = some (.int .i64 x.v.k) ∧ w.cell? ⟨A, k * 4 + 1, none⟩ = some (.int .i64 x.v.n) ∧ w.cell? ⟨A, k * 4 + 2, none⟩ = some (.string x.t) ∧ w.cell? ⟨A, k * 4 + 3, none⟩ = some (.slice x.la x.ls.length x.lc)
theorem VAt.below {w w' : World} {A k : Nat} {x : VX} (h : VAt w A k x) (hb : Below w.heap.size w w') : VAt w' A k x :=
  ⟨sub_of_below hb _ _ h.1, sub_of_below hb _ _ h.2.1, sub_of_below hb _ _ h.2.2.1, sub_of_below hb _ _ h.2.2.2⟩
def VList (w0 w : World) (A : Nat) (xs : List VX) : Prop :=
  Below w0.heap.size w0 w ∧ Tabs w ∧ ∀ k (h : k < xs.length), VAt w A k xs[k] ∧ xs[k].Ok w
theorem VList.below {w0 w w' : World} {A : Nat} {xs : List VX} (h : VList w0 w A xs) (hb : Below w.heap.size w w') : VList w0 w' A xs :=
  ⟨h.1.trans (hb.mono h.1.size), h.2.1.below hb, fun k hk => ⟨(h.2.2 k hk).1.below hb, (h.2.2 k hk).2.below hb⟩⟩
theorem VList.drewN {w0 w : World} {A : Nat} {xs : List VX} (h : VList w0 w A xs) (q : Nat) : VList w0 (w.drewN q) A xs := h.below (bel_drew (Below.refl _ _) q)
theorem rows_at (xs : List VX) (k : Nat) (hk : k < xs.length) (j : Nat) (u : Value) (hj : xs[k].row[j]? = some u) : (xs.map VX.row).flatten[k * 4 + j]? = some u :=
  flat_get 4 (xs.map VX.row) (by intro r hr; obtain ⟨x, -, rfl⟩ := List.mem_map.1 hr; rfl) k xs[k].row (by simp [hk]) j u hj
theorem vat_own {w : World} {A : Nat} {t : TypeId} {xs : List VX} {arr : Array Value} (h : Own w A arr t) (ha : arr.toList = (xs.map VX.row).flatten) (k : Nat) (hk : k < xs.length) : VAt w A k xs[k] := by
  have hc : ∀ j u, xs[k].row[j]? = some u → w.cell? ⟨A, k * 4 + j, none⟩ = some u := fun j u hj => by
    rw [h.cell, ← Array.getElem?_toList, ha]
    exact rows_at xs k hk j u hj
  exact ⟨hc 0 _ rfl, hc 1 _ rfl, hc 2 _ rfl, hc 3 _ rfl⟩
theorem vlist_own {w0 w : World} {A : Nat} {t : TypeId} {xs : List VX} {arr : Array Value} (h : Own w A arr t) (ha : arr.toList = (xs.map VX.row).flatten) (hB : Below w0.heap.size w0 w) (hT : Tabs w) (hx : ∀ x ∈ xs, x.Ok w) : VList w0 w A xs :=
  ⟨hB, hT, fun k hk => ⟨vat_own h ha k hk, hx _ (List.getElem_mem hk)⟩⟩
theorem tabs_draw {u w : World} {b : Nat} (h : DrawTabs u.cell?) (hb : u.heap.size ≤ b) (hw : Below u.heap.size u w) : DrawTabs (but b w) :=
  (h.mono (sub_but u b hb)).mono (sub_of_grown (grown_of_below hw (some b)))
theorem list_draw {u w : World} {b : Nat} (h : ListTab u.cell?) (hb : u.heap.size ≤ b) (hw : Below u.heap.size u w) : ListTab (but b w) :=
  (h.mono (sub_but u b hb)).mono (sub_of_grown (grown_of_below hw (some b)))
theorem vx_self {w : World} {v : VV} {t : ByteArray} {la : Option Addr} {lc : Nat} {ls : List ByteArray} (h : VOk w v t la ls) (ht : t.size ≤ 400) (hl : ls.length ≤ 40) : (⟨v, t, la, lc, ls⟩ : VX).Ok w := ⟨h, ht, by show ls.length ≤ 41; omega⟩

theorem eqVV_same {v : VV} {s t : ByteArray} {xs ys : List ByteArray} (hs : s.data.toList = v.t) (ht : t.data.toList = v.t) (hx : lsL xs = v.l) (hy : lsL ys = v.l) : eqVV v.k v.k v.n v.n s t (lsL xs == lsL ys) = true := by
  unfold eqVV
  rw [ByteArray.toList_eq, ByteArray.toList_eq, hs, ht, hx, hy]
  simp
/-- Two that read as one value are equal. -/
theorem equal_same {v : VV} {s t : ByteArray} {la lb : Option Addr} (ca cb : Nat) {xs ys : List ByteArray} {w : World} (hX : VOk w v s la xs) (hY : VOk w v t lb ys) (hm : xs.length ≤ 9223372036854775807) :
    Calls Tryz.prog 19 #[.agg #[.int .i64 v.k, .int .i64 v.n, .string s, .slice la xs.length ca], .agg #[.int .i64 v.k, .int .i64 v.n, .string t, .slice lb ys.length cb]] w fun e w' => e = .returned (.bool true) ∧ Below w.heap.size w w' := by
  have h := equal_ref v.k v.k v.n v.n s t la lb ca cb xs ys w hX.rows hY.rows hm
  rw [eqVV_same hX.text hY.text hX.list hY.list] at h
  exact h
theorem digs_len (l : List UInt8) : l.length ≤ (digsOf l).length + 1 := by
  cases l with
  | nil => simp
  | cons c r =>
    rw [digsOf]
    split <;> simp
theorem num_len {l : List UInt8} (h : (parseS l).2 = 0) : l.length ≤ 14 := by
  have h1 := digs_len l
  unfold parseS at h
  split at h
  · cases h
  · split at h
    · cases h
    · rename_i h2
      omega
/-- No source form is long. -/
theorem form_len {v : VV} (h : checkS v = 0) (ht : v.t.length ≤ 400) : (formS v).length ≤ 200000 := by
  have hs := shape_of h
  obtain ⟨k, n, t, l⟩ := v
  have hk := kind_of h
  simp only at hk ht
  rcases (show k = 1 ∨ k = 2 ∨ k = 3 ∨ k = 4 ∨ k = 5 by omega) with rfl | rfl | rfl | rfl | rfl
  · show (if n = 0 then [102, 97, 108, 115, 101] else [116, 114, 117, 101] : List UInt8).length ≤ _
    split <;> decide
  · have h1 := c_2 hs rfl
    rw [h] at h1
    by_cases hn : n < -1099511627776 ∨ 1099511627776 < n
    · rw [if_pos hn] at h1; cases h1
    have hp : (parseS (Lib.itoa n)).2 = 0 := by rw [parse_itoa, if_neg hn]
    have := num_len hp
    show (Lib.itoa n).length ≤ _
    omega
  · show (quoteS t).length ≤ _
    have := escL_len t
    simp only [quoteS, List.length_cons, List.length_append, List.length_nil]
    omega
  · show t.length ≤ _
    omega
  · have h1 := c_5 hs rfl
    rw [h] at h1
    obtain ⟨hl, hv⟩ := list_ok h1.symm
    show (91 :: (joinC (l.map quoteS) ++ [93])).length ≤ _
    have := join_small l hl (fun x hx => by
      have h2 := valid_size (hv x hx)
      have h3 := escL_len x
      simp only [quoteS, List.length_cons, List.length_append, List.length_nil]
      omega)
    simp only [List.length_cons, List.length_append, List.length_nil]
    omega

end Go.Proofs.YtnghpjijfdpmkaaGreatDoor.value
