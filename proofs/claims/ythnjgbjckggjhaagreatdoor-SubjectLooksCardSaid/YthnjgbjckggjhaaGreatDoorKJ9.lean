/- Listed tables of texts and of lists of texts: what their reading says of memory. Over any program. Decimal numbers and versions of three numbers, said plainly. No program in sight. The drawing package's Mod. What the drawing package's three tables hold, read off their given values. Slices of rows that came in: what a reading of them says of the memory. Conditions that came in, as data. -/
import Derived.Test.YthnjgbjckggjhaaGreatDoorKJ1
import Derived.ProofKit
import Derived.OpenShut
import Derived.LaidMore
import Derived.Test.YthnjgbjckggjhaaGreatDoorKJ3
import Derived.Lib.ItoaNum
import Derived.Test.YthnjgbjckggjhaaGreatDoorKValH
import Derived.Test.YthnjgbjckggjhaaGreatDoorRows
import Derived.Test.YthnjgbjckggjhaaGreatDoorKJ5
import Derived.Lib.LaidTab
import Derived.Deep.Slices
namespace Go.Proofs.YthnjgbjckggjhaaGreatDoor
open Go.ChangeShapes Go.WideShapes Go.ChangeAt Go.RowKit Go.WideMaps Go.WideElems

def strIn : Option Value → ByteArray | some (.string s) => s | _ => ⟨#[]⟩

section
variable {P : Program} {W : World} {H : Type} {enc : TypeId × Value → H}

/-- A table of texts. -/
theorem tab_strs {name : String} {g t e n fuel : Nat} {cs : Array Value} {d : DataW H} {p : List MemPlace} {base : Nat} {spare : Nat → Bool} {held : Bool} (hg : P.globalNamed name = some g) (hv : W.var? P name = some cs)
    (ht : P.underlying t = some (.array n e)) (he : P.underlying e = some .string) (hc : P.cellsOf e = 1)
    (hd : DataW.trod enc P W base spare held fuel t cs.toList = some (d, p)) :
    ∃ ss : List ByteArray, ss.length = n ∧ d = .agg (ss.map fun s => .lit (.string s.data.toList)) ∧ ∀ i s, ss[i]? = some s → W.cell? ⟨g, i, none⟩ = some (.string s) := by
  obtain ⟨xs, m, -, hx, hl, hn, hel⟩ := DataW.trod_array ht hd
  have each : ∀ i, i < n → ∃ s : ByteArray, xs[i]? = some (.lit (.string s.data.toList), []) ∧ cs[i]? = some (.string s) := by
    intro i hi
    have h := hel i hi
    rw [hc, Nat.mul_one] at h
    rw [List.getElem?_eq_getElem (by omega)] at h
    obtain ⟨s, h1, h2, -⟩ := DataW.trod_string he h
    refine ⟨s, by rw [List.getElem?_eq_getElem (by omega), h2], ?_⟩
    have h3 := congrArg (fun l : List Value => l[0]?) h1
    simp only [List.getElem?_cons_zero, List.getElem?_take, Nat.zero_lt_one, ↓reduceIte, List.getElem?_drop, Nat.add_zero] at h3
    simpa using h3
  refine ⟨(List.range n).map fun i => strIn cs[i]?, by simp, ?_, ?_⟩
  · have e1 : d = .agg (xs.map (·.1)) := by simpa using congrArg Prod.fst hx
    rw [e1]
    congr 1
    apply List.ext_getElem?
    intro i
    by_cases hi : i < n
    · obtain ⟨s, h1, h2⟩ := each i hi
      simp [h1, hi, h2, strIn]
    · rw [List.getElem?_eq_none (by simp; omega), List.getElem?_eq_none (by simp; omega)]
  · intro i s hs
    by_cases hi : i < n
    · obtain ⟨s', h1, h2⟩ := each i hi
      simp [hi, h2, strIn] at hs
      subst hs
      rw [World.var?_cell hg hv i]
      exact h2
    · rw [List.getElem?_eq_none (by simp; omega)] at hs; cases hs

/-- A table of lists of texts. -/
theorem tab_lists {name : String} {g t e e2 n fuel : Nat} {cs : Array Value} {d : DataW H} {p : List MemPlace} {base : Nat} {spare : Nat → Bool} {held : Bool} (hg : P.globalNamed name = some g) (hv : W.var? P name = some cs)
    (ht : P.underlying t = some (.array n e)) (he : P.underlying e = some (.slice e2)) (he2 : P.underlying e2 = some .string) (hc : P.cellsOf e = 1) (hc2 : P.cellsOf e2 = 1)
    (hd : DataW.trod enc P W base spare held fuel t cs.toList = some (d, p)) (i : Nat) (hi : i < n) :
    ∃ xs : List (DataW H), d = .agg xs ∧ ((W.cell? ⟨g, i, none⟩ = some (.slice none 0 0) ∧ xs[i]? = some .nil) ∨
      ∃ (a : Addr) (cap : Nat) (l : List ByteArray) (sp : List (DataW H)), W.cell? ⟨g, i, none⟩ = some (.slice (some a) l.length cap) ∧ l.length ≤ cap ∧ cap ≤ maxLen ∧ xs[i]? = some (.slice (l.map fun s => .lit (.string s.data.toList)) sp) ∧
        ∀ j s, l[j]? = some s → W.cell? (a.add j) = some (.string s)) := by
  obtain ⟨xs, m, -, hx, hl, hn, hel⟩ := DataW.trod_array ht hd
  have e1 : d = .agg (xs.map (·.1)) := by simpa using congrArg Prod.fst hx
  refine ⟨_, e1, ?_⟩
  have h := hel i hi
  rw [hc, Nat.mul_one, List.getElem?_eq_getElem (by omega)] at h
  have cell : ∀ v : Value, (cs.toList.drop i).take 1 = [v] → W.cell? ⟨g, i, none⟩ = some v := by
    intro v h1
    have h3 := congrArg (fun l : List Value => l[0]?) h1
    simp only [List.getElem?_cons_zero, List.getElem?_take, Nat.zero_lt_one, ↓reduceIte, List.getElem?_drop, Nat.add_zero] at h3
    rw [World.var?_cell hg hv i]
    simpa using h3
  rcases open_strings he he2 hc2 h with ⟨h1, h2⟩ | ⟨a, len, cap, ss, h1, -, hlc, hcm, hlen, h2, h3, -⟩
  · exact Or.inl ⟨cell _ h1, by rw [List.getElem?_map, List.getElem?_eq_getElem (by omega), h2]; rfl⟩
  · have hle : len ≤ ss.length := by rw [hlen]; split <;> omega
    have hlt : (ss.take len).length = len := by simp; omega
    refine Or.inr ⟨a, cap, ss.take len, strs (ss.drop len), ?_, by omega, hcm, ?_, ?_⟩
    · rw [hlt]
      exact cell _ h1
    · rw [List.getElem?_map, List.getElem?_eq_getElem (by omega), h2]
      rfl
    · intro j s hs
      rw [List.getElem?_take] at hs
      split at hs
      · rename_i hj
        have := h3 j (by omega)
        rw [List.getD_eq_getElem?_getD, hs] at this
        exact this
      · cases hs

/-- Memory is read as before below a block that is not there. -/
theorem sub_but (w : World) (b : Nat) (h : w.heap.size ≤ b) : Sub w.cell? (but b w) := by
  intro p v hp
  unfold but
  rw [if_neg]
  · exact hp
  · have := World.block_lt_of_cell? w p hp
    omega
end

end Go.Proofs.YthnjgbjckggjhaaGreatDoor

namespace Go.Proofs.YthnjgbjckggjhaaGreatDoor.text

theorem digit_ofNat {d : Nat} (h : d < 10) : digB (UInt8.ofNat (48 + d)) = true := by
  unfold digB
  have : (UInt8.ofNat (48 + d)).toNat = 48 + d := by simp; omega
  rw [this]
  simp; omega
theorem dec_digits (u : Nat) : (Lib.decDigits u).all digB = true := by
  induction u using Nat.strongRecOn with
  | _ u ih =>
    by_cases h : u < 10
    · rw [Lib.decDigits, dif_pos h]
      rw [List.all_cons, digit_ofNat h]
      rfl
    · rw [Lib.decDigits, dif_neg h, List.all_append, ih (u / 10) (by omega)]
      rw [List.all_cons, digit_ofNat (show u % 10 < 10 by omega)]
      rfl
theorem dec_val (u : Nat) : valFrom 0 (Lib.decDigits u) = u := by
  induction u using Nat.strongRecOn with
  | _ u ih =>
    by_cases h : u < 10
    · rw [Lib.decDigits, dif_pos h]
      have : (UInt8.ofNat (48 + u)).toNat = 48 + u := by simp; omega
      show 10 * 0 + ((UInt8.ofNat (48 + u)).toNat - 48) = u
      rw [this]; omega
    · rw [Lib.decDigits, dif_neg h, valFrom_snoc, ih (u / 10) (by omega)]
      have : (UInt8.ofNat (48 + u % 10)).toNat = 48 + u % 10 := by simp; omega
      rw [this]; omega
theorem dec_head (u : Nat) (h : u ≠ 0) : (Lib.decDigits u).head? ≠ some 48 := by
  induction u using Nat.strongRecOn with
  | _ u ih =>
    by_cases h10 : u < 10
    · rw [Lib.decDigits, dif_pos h10]
      intro e
      have e1 : UInt8.ofNat (48 + u) = 48 := by simpa using e
      have e2 := congrArg UInt8.toNat e1
      have : (UInt8.ofNat (48 + u)).toNat = 48 + u := by simp; omega
      rw [this] at e2
      have : (48 : UInt8).toNat = 48 := rfl
      omega
    · rw [Lib.decDigits, dif_neg h10]
      have hne : Lib.decDigits (u / 10) ≠ [] := by
        intro e
        have := Lib.decDigits_length (u / 10)
        rw [e] at this
        have := Lib.nDigits_pos (u / 10)
        simp at *
        omega
      have := ih (u / 10) (by omega) (by omega)
      cases hd : Lib.decDigits (u / 10) with
      | nil => exact absurd hd hne
      | cons a r => rw [hd] at this; simpa using this
theorem dec_ne (u : Nat) : Lib.decDigits u ≠ [] := by
  intro e
  have h1 := Lib.decDigits_length u
  rw [e] at h1
  have := Lib.nDigits_pos u
  simp at h1
  omega
theorem digs_itoa (n : Int) : digsOf (Lib.itoa n) = Lib.decDigits n.natAbs := by
  unfold Lib.itoa
  split
  · rfl
  · have e : n.toNat = n.natAbs := by omega
    rw [e]
    have hd := dec_digits n.natAbs
    cases h : Lib.decDigits n.natAbs with
    | nil => rfl
    | cons c r =>
      rw [h, List.all_cons, Bool.and_eq_true] at hd
      have := digB_bd hd.1
      rw [digsOf, if_neg (by omega)]
theorem parse_itoa (n : Int) : parseS (Lib.itoa n) = if n < -1099511627776 ∨ 1099511627776 < n then (0, 3) else (n, 0) := by
  unfold parseS
  rw [digs_itoa, dec_digits, dec_val]
  have h1 : ¬ (Lib.decDigits n.natAbs = [] ∨ true = false ∨ ((Lib.decDigits n.natAbs).head? = some 48 ∧ Lib.itoa n ≠ [48])) := by
    rintro (h | h | ⟨h, h2⟩)
    · exact dec_ne _ h
    · cases h
    · by_cases h0 : n.natAbs = 0
      · have : n = 0 := by omega
        subst this
        exact h2 itoa_zero
      · exact dec_head _ h0 h
  rw [if_neg h1]
  have hlen : 13 < (Lib.decDigits n.natAbs).length → 1099511627776 < n.natAbs := by
    intro h
    rw [Lib.decDigits_length] at h
    have hne : n.natAbs ≠ 0 := by
      intro e
      rw [e, Lib.nDigits_small (by decide)] at h
      omega
    have h2 := Lib.pow_le_of_nDigits n.natAbs hne
    have h3 : 10 ^ 13 ≤ 10 ^ (Lib.nDigits n.natAbs - 1) := Nat.pow_le_pow_right (by decide) (by omega)
    have h4 : (10 : Nat) ^ 13 = 10000000000000 := by decide
    omega
  have hl : (Lib.decDigits n.natAbs).length < (Lib.itoa n).length ↔ n < 0 := by
    unfold Lib.itoa
    split
    · rename_i h
      simp [h]
    · rename_i h
      have e : n.toNat = n.natAbs := by omega
      rw [e]
      simp [h]
  by_cases hb : n < -1099511627776 ∨ 1099511627776 < n
  · rw [if_pos hb, if_pos (Or.inr (by omega))]
  · rw [if_neg hb, if_neg (by intro e; rcases e with e | e; (have := hlen e; omega); omega)]
    by_cases h0 : n < 0
    · rw [if_pos (hl.2 h0)]
      congr 1
      omega
    · rw [if_neg (fun e => h0 (hl.1 e))]
      congr 1
      omega

end Go.Proofs.YthnjgbjckggjhaaGreatDoor.text
namespace Go.Proofs.YthnjgbjckggjhaaGreatDoor.value
open Go.Proofs.YthnjgbjckggjhaaGreatDoor.text

theorem cutD_digs : ∀ l : List UInt8, l.all digB = true → cutD l = none
  | [], _ => rfl
  | c :: r, h => by
    rw [List.all_cons, Bool.and_eq_true] at h
    have hc := digB_bd h.1
    rw [cutD, if_neg (by omega), cutD_digs r h.2]
    rfl
theorem cutD_app : ∀ (l r : List UInt8), l.all digB = true → cutD (l ++ 46 :: r) = some (l, r)
  | [], r, _ => by
    show cutD (46 :: r) = _
    rw [cutD, if_pos (by decide)]
  | c :: l, r, h => by
    rw [List.all_cons, Bool.and_eq_true] at h
    have hc := digB_bd h.1
    show cutD (c :: (l ++ 46 :: r)) = _
    rw [cutD, if_neg (by omega), cutD_app l r h.2]
    rfl
theorem itoa_digs {n : Int} (h : 0 ≤ n) : (Lib.itoa n).all digB = true := by
  rw [Lib.itoa, if_neg (by omega)]
  exact dec_digits _
theorem partN_itoa {n : Int} (h : 0 ≤ n) (h2 : n ≤ 999999) : partN (Lib.itoa n) = some n := by
  have e : parseS (Lib.itoa n) = (n, 0) := by rw [parse_itoa, if_neg (by omega)]
  rw [partN, e, if_pos ⟨rfl, h, h2⟩]
/-- A version of three numbers. -/
def ver3 (a b c : Int) : List UInt8 := Lib.itoa a ++ 46 :: (Lib.itoa b ++ 46 :: Lib.itoa c)
theorem verS_ver3 {a b c : Int} (ha : 0 ≤ a ∧ a ≤ 999999) (hb : 0 ≤ b ∧ b ≤ 999999) (hc : 0 ≤ c ∧ c ≤ 999999) : verS (ver3 a b c) = some (a, b, c) := by
  unfold verS ver3
  rw [cutD_app _ _ (itoa_digs ha.1)]
  simp only
  rw [cutD_app _ _ (itoa_digs hb.1)]
  simp only
  rw [cutD_digs _ (itoa_digs hc.1), partN_itoa ha.1 ha.2, partN_itoa hb.1 hb.2, partN_itoa hc.1 hc.2]
theorem check_ver3 {a b c : Int} (ha : 0 ≤ a ∧ a ≤ 999999) (hb : 0 ≤ b ∧ b ≤ 999999) (hc : 0 ≤ c ∧ c ≤ 999999) : checkS ⟨4, 0, ver3 a b c, []⟩ = 0 := by
  unfold checkS shapeS
  simp [verS_ver3 ha hb hc]
theorem compare_ver3 {a b c x y z : Int} (ha : 0 ≤ a ∧ a ≤ 999999) (hb : 0 ≤ b ∧ b ≤ 999999) (hc : 0 ≤ c ∧ c ≤ 999999) (hx : 0 ≤ x ∧ x ≤ 999999) (hy : 0 ≤ y ∧ y ≤ 999999) (hz : 0 ≤ z ∧ z ≤ 999999) :
    compareS ⟨4, 0, ver3 a b c, []⟩ ⟨4, 0, ver3 x y z, []⟩ = (cmpV (some (a, b, c)) (some (x, y, z)), 0) := by
  unfold compareS
  rw [check_ver3 ha hb hc, check_ver3 hx hy hz, verS_ver3 ha hb hc, verS_ver3 hx hy hz]
  simp
theorem nDig_le : ∀ (k u : Nat), 1 ≤ k → u < 10 ^ k → Lib.nDigits u ≤ k
  | 0, _, h, _ => by omega
  | 1, u, _, h => by rw [Lib.nDigits_small (by simpa using h)]; omega
  | k + 2, u, _, h => by
    by_cases h10 : u < 10
    · rw [Lib.nDigits_small h10]; omega
    · rw [Lib.nDigits_big h10]
      have := nDig_le (k + 1) (u / 10) (by omega) (Nat.div_lt_of_lt_mul (by rw [Nat.pow_succ, Nat.mul_comm] at h; exact h))
      omega
theorem itoa_short {n : Int} (h : 0 ≤ n) (h2 : n ≤ 999999) : (Lib.itoa n).length ≤ 6 := by
  rw [Lib.itoa, if_neg (by omega), Lib.decDigits_length]
  have : n.toNat < 10 ^ 6 := by omega
  exact nDig_le 6 _ (by omega) this

end Go.Proofs.YthnjgbjckggjhaaGreatDoor.value

namespace Go.Proofs.YthnjgbjckggjhaaGreatDoor.value
open Go.RowKit Go.Proofs.YthnjgbjckggjhaaGreatDoor.text

def zero4 : Array Value := #[.int .i64 0, .int .i64 0, .string ⟨#[]⟩, .slice none 0 0]
theorem own4 {w : World} {n : Nat} {x0 x1 x2 x3 : Value} {t : TypeId} (h : Own w n #[x0, x1, x2, x3] t) :
    w.cell? ⟨n, 0, none⟩ = some x0 ∧ w.cell? ⟨n, 1, none⟩ = some x1 ∧ w.cell? ⟨n, 2, none⟩ = some x2 ∧ w.cell? ⟨n, 3, none⟩ = some x3 ∧
    w.frozen? ⟨n, 0, none⟩ = false ∧ w.frozen? ⟨n, 1, none⟩ = false ∧ w.frozen? ⟨n, 2, none⟩ = false ∧ w.frozen? ⟨n, 3, none⟩ = false :=
  ⟨h.cell 0, h.cell 1, h.cell 2, h.cell 3, h.free 0, h.free 1, h.free 2, h.free 3⟩
theorem shape_of {v : VV} (h : checkS v = 0) : shapeS v = true := by
  have hk := kind_of h
  cases hs : shapeS v with
  | true => rfl
  | false => rw [c_shape (by omega) hs] at h; cases h

end Go.Proofs.YthnjgbjckggjhaaGreatDoor.value

namespace Go.Proofs.YthnjgbjckggjhaaGreatDoor.draw
open Go.ChangeShapes Go.WideShapes Go.ChangeAt Go.RowKit Go.WideMaps Go.WideElems Go.Deep Go.Lib Go.Proofs.YthnjgbjckggjhaaGreatDoor Go.Proofs.YthnjgbjckggjhaaGreatDoor.text Go.Proofs.YthnjgbjckggjhaaGreatDoor.value

theorem lit_inj : ∀ (L : List (List UInt8)) (ss : List ByteArray), L.map (fun l => (DataW.lit (.string l) : DataW Unit)) = ss.map (fun s => .lit (.string s.data.toList)) → ss = L.map (fun l => ⟨l.toArray⟩)
  | [], [], _ => rfl
  | [], _ :: _, h => by cases h
  | _ :: _, [], h => by cases h
  | l :: L, s :: ss, h => by
    rw [List.map_cons, List.map_cons] at h
    injection h with h1 h2
    injection h1 with h1
    injection h1 with h1
    rw [List.map_cons, ← lit_inj L ss h2, h1]
def textsL : List (List UInt8) := [[115, 101], [100, 101], [117, 115], [112, 114, 111], [102, 114, 101, 101], [], [97, 34, 98], [99, 92], [195, 169], [112, 114, 111, 115, 101], [120, 32, 121]]
def versionsL : List (List UInt8) := [[49, 46, 48, 46, 48], [49, 46, 50, 46, 51], [49, 46, 49, 48, 46, 48], [50, 46, 48, 46, 49], [48, 46, 48, 46, 48], [57, 57, 57, 57, 57, 57, 46, 48, 46, 57, 57, 57, 57, 57, 57]]
def versionsN : List (Int × Int × Int) := [(1, 0, 0), (1, 2, 3), (1, 10, 0), (2, 0, 1), (0, 0, 0), (999999, 0, 999999)]
def listsL : List (List (List UInt8)) := [[], [[112, 114, 111]], [[100, 101], [115, 101]], [[], [102, 114, 101, 101], [117, 115]], [[120, 32, 121]]]
set_option maxRecDepth 100000 in
theorem strs_at {w : World} {nm : String} {g t n : Nat} {d : DataW Unit} {L : List (List UInt8)} (hn : VarReads Tryz.prog w nm d) (hg : Tryz.prog.globalNamed nm = some g) (ht : (Tryz.prog.globals[g]?).map (·.type) = some t)
    (hu : Tryz.prog.underlying t = some (.array n 9)) (hd0 : d = .agg (L.map fun l => .lit (.string l))) (j : Nat) (hj : j < L.length) : w.cell? ⟨g, j, none⟩ = some (.string ⟨L[j].toArray⟩) := by
  obtain ⟨g', t', cs, fuel, p, hg', ht', hvar, hd⟩ := hn
  obtain rfl := Option.some.inj (hg.symm.trans hg')
  obtain rfl := Option.some.inj (ht.symm.trans ht')
  obtain ⟨ss, hl, hd2, hc⟩ := tab_strs hg' hvar hu Tryz.underlying9 (by kernel_rfl) hd
  rw [hd0] at hd2
  injection hd2 with hd2
  have hss := lit_inj L ss hd2
  refine hc j _ ?_
  rw [hss, List.getElem?_map, List.getElem?_eq_getElem hj]
  rfl
theorem lists_data : (Rows.laid_flagstone_flagstonedraw_lists : DataW Unit) = .agg (listsL.map fun L => .slice (L.map fun l => .lit (.string l)) []) := rfl
set_option maxRecDepth 100000 in
theorem lists_of_reads {w : World} (h : VarReads Tryz.prog w "flagstone/flagstonedraw.lists" (Rows.laid_flagstone_flagstonedraw_lists : DataW Unit)) (j : Nat) (hj : j < 5) :
    ∃ (ad : Addr) (c : Nat) (l : List ByteArray), w.cell? ⟨2, j, none⟩ = some (.slice (some ad) l.length c) ∧ (l.length ≤ 20 ∧ listS (lsL l) = 0) ∧ ∀ (i : Nat) (s : ByteArray), l[i]? = some s → w.cell? (ad.add i) = some (.string s) := by
  obtain ⟨g', t', cs, fuel, p, hg', ht', hvar, hd⟩ := h
  obtain rfl := Option.some.inj ((show Tryz.prog.globalNamed "flagstone/flagstonedraw.lists" = some 2 by kernel_rfl).symm.trans hg')
  obtain rfl := Option.some.inj ((show (Tryz.prog.globals[2]?).map (·.type) = some 91 by kernel_rfl).symm.trans ht')
  obtain ⟨xs, hx, h3⟩ := tab_lists hg' hvar Tryz.underlying91 Tryz.underlying33 Tryz.underlying9 (by kernel_rfl) (by kernel_rfl) hd j hj
  rw [lists_data] at hx
  injection hx with hx
  have hjl : j < listsL.length := hj
  have hxj : xs[j]? = some (.slice (listsL[j].map fun l => .lit (.string l)) []) := by
    rw [← hx, List.getElem?_map, List.getElem?_eq_getElem hjl]; rfl
  rcases h3 with ⟨_, h4⟩ | ⟨a, cap, l, sp, h4, h5, h6, h7, h8⟩
  · rw [hxj] at h4; cases h4
  · rw [hxj] at h7
    injection h7 with h7
    injection h7 with h7 _
    have hl := lit_inj listsL[j] l h7
    have hok : ∀ L ∈ listsL, L.length ≤ 20 := by decide
    have : l.length = listsL[j].length := by rw [hl]; simp
    have hok2 : ∀ L ∈ listsL, listS (lsL (L.map fun l => (⟨l.toArray⟩ : ByteArray))) = 0 := by decide +kernel
    exact ⟨a, cap, l, h4, ⟨by rw [this]; exact hok _ (List.getElem_mem hjl), by rw [hl]; exact hok2 _ (List.getElem_mem hjl)⟩, h8⟩

/-- The texts are valid, the versions are of three numbers. -/
structure CmpTabs (m : Mem) : Prop where
  texts : ∀ j, j < 11 → ∃ s : ByteArray, m ⟨0, j, none⟩ = some (.string s) ∧ validS s.data.toList = true ∧ s.size ≤ 200
  versions : ∀ j, j < 6 → ∃ (s : ByteArray) (x y z : Int), m ⟨1, j, none⟩ = some (.string s) ∧ s.data.toList = ver3 x y z ∧ (0 ≤ x ∧ x ≤ 999999) ∧ (0 ≤ y ∧ y ≤ 999999) ∧ (0 ≤ z ∧ z ≤ 999999) ∧ s.size ≤ 200
theorem CmpTabs.mono {m m' : Mem} (hs : Sub m m') (h : CmpTabs m) : CmpTabs m' :=
  ⟨fun j hj => let ⟨s, h1, h2⟩ := h.texts j hj; ⟨s, hs _ _ h1, h2⟩, fun j hj => let ⟨s, x, y, z, h1, h2⟩ := h.versions j hj; ⟨s, x, y, z, hs _ _ h1, h2⟩⟩
theorem texts_ok : ∀ l ∈ textsL, validS l = true ∧ l.length ≤ 200 := by
  have hb : (textsL.all fun l => validS l && decide (l.length ≤ 200)) = true := by kernel_rfl
  intro l hl
  have := List.all_eq_true.1 hb l hl
  rw [Bool.and_eq_true, decide_eq_true_eq] at this
  exact this
theorem versions_eq : versionsL = versionsN.map fun v => ver3 v.1 v.2.1 v.2.2 := by kernel_rfl
theorem cmp_of_reads {w : World} (h1 : VarReads Tryz.prog w "flagstone/flagstonedraw.texts" (Rows.laid_flagstone_flagstonedraw_texts : DataW Unit)) (h2 : VarReads Tryz.prog w "flagstone/flagstonedraw.versions" (Rows.laid_flagstone_flagstonedraw_versions : DataW Unit)) : CmpTabs w.cell? := by
  have k1 := strs_at (g := 0) (t := 67) (n := 11) (L := textsL) h1 (by kernel_rfl) (by kernel_rfl) Tryz.underlying67 rfl
  have k2 := strs_at (g := 1) (t := 90) (n := 6) (L := versionsL) h2 (by kernel_rfl) (by kernel_rfl) Tryz.underlying90 rfl
  have hN : ∀ v ∈ versionsN, (0 ≤ v.1 ∧ v.1 ≤ 999999) ∧ (0 ≤ v.2.1 ∧ v.2.1 ≤ 999999) ∧ (0 ≤ v.2.2 ∧ v.2.2 ≤ 999999) := by decide
  have hZ : ∀ l ∈ versionsL, l.length ≤ 200 := by decide
  refine ⟨fun j hj => ?_, fun j hj => ?_⟩
  · have hl : j < textsL.length := hj
    have := texts_ok _ (List.getElem_mem hl)
    exact ⟨_, k1 j hl, this.1, by show (textsL[j].toArray).size ≤ 200; simpa using this.2⟩
  · have hl : j < versionsL.length := hj
    have hn : j < versionsN.length := hj
    have e : versionsL[j] = ver3 versionsN[j].1 versionsN[j].2.1 versionsN[j].2.2 := by
      have : versionsL[j]? = (versionsN.map fun v => ver3 v.1 v.2.1 v.2.2)[j]? := by rw [versions_eq]
      rw [List.getElem?_eq_getElem hl, List.getElem?_map, List.getElem?_eq_getElem hn] at this
      exact Option.some.inj this
    have h3 := hN _ (List.getElem_mem hn)
    exact ⟨_, versionsN[j].1, versionsN[j].2.1, versionsN[j].2.2, k2 j hl, (show versionsL[j].toArray.toList = _ by rw [← e]), h3.1, h3.2.1, h3.2.2, by have hz := hZ _ (List.getElem_mem hl); show (versionsL[j].toArray).size ≤ 200; rw [List.size_toArray]; exact hz⟩
theorem glob_of_reads {w : World} (h1 : VarReads Tryz.prog w "flagstone/flagstonedraw.texts" (Rows.laid_flagstone_flagstonedraw_texts : DataW Unit)) (h2 : VarReads Tryz.prog w "flagstone/flagstonedraw.versions" (Rows.laid_flagstone_flagstonedraw_versions : DataW Unit))
    (h3 : VarReads Tryz.prog w "flagstone/flagstonedraw.lists" (Rows.laid_flagstone_flagstonedraw_lists : DataW Unit)) : Glob w.cell? :=
  have hc := cmp_of_reads h1 h2
  ⟨fun j hj => let ⟨s, _, _, _, k1, kl, kx, ky, kz, k2⟩ := hc.versions j hj; ⟨s, k1, k2, by rw [kl, verS_ver3 kx ky kz]; rfl⟩, fun j hj => let ⟨s, k1, kv, k2⟩ := hc.texts j hj; ⟨s, k1, k2, kv⟩, fun j hj => lists_of_reads h3 j hj⟩

end Go.Proofs.YthnjgbjckggjhaaGreatDoor.draw

namespace Go.Proofs.YthnjgbjckggjhaaGreatDoor
open Go.ChangeShapes Go.WideShapes Go.RowKit Go.Deep

theorem spot_none {W : World} {x : Addr} {v : Value} {sz : Nat} (h : W.cell? ((x.add (0 * sz)).add 0) = some v) : x.spot = none := by
  unfold World.cell? at h
  cases hsp : x.spot with
  | none => rfl
  | some i =>
    exfalso
    have : (((x.add (0 * sz)).add 0).spot.isSome) = true := by unfold Addr.add; split <;> simp_all
    split at h
    · rw [if_pos this] at h; cases h
    · cases h
/-- A slice whose elements take sz cells each, opened at every element: its rows, each of which is such that Q. -/
theorem rows_of_trod {H : Type} {enc : TypeId × Value → H} {P : Program} {W : World} {base fuel sz : Nat} {sp : Nat → Bool} {held : Bool} {t e : TypeId} {v : Value} {x : DataW H × List MemPlace}
    (ht : P.underlying t = some (.slice e)) (ce : P.cellsOf e = sz) (hsz : 0 < sz) (Q : List Value → Prop)
    (hQ : ∀ (n : Nat) (cs : List Value) (y : DataW H × List MemPlace), n < fuel → cs.length = sz → DataW.trod enc P W base sp held n e cs = some y → Q cs)
    (h : DataW.trod enc P W base sp held fuel t [v] = some x) : ∃ rows, RowsAt W.cell? sz v rows ∧ ∀ r ∈ rows, r.length = sz ∧ Q r := by
  rcases DataW.trod_slice ht h with ⟨hcs, -⟩ | ⟨a, len, cap, elems, rest, n, hf, hcs, -, hb, hl, hm, hlen, hel, -, -⟩
  · injection hcs with hv
    subst hv
    exact ⟨[], rows_nil _ _, fun r hr => by cases hr⟩
  · injection hcs with hv
    subst hv
    have each : ∀ i, i < len → ∃ cs : List Value, cs.length = sz ∧ Q cs ∧ ∀ j, j < sz → W.cell? ((a.add (i * sz)).add j) = cs[j]? := by
      intro i hi
      have key := hel i hi
      rw [List.getElem?_eq_getElem (by omega), ce] at key
      obtain ⟨cs, h1, h2⟩ := Option.bind_eq_some_iff.1 key
      obtain ⟨-, hln, hcell⟩ := World.cells?_some h1
      exact ⟨cs, hln, hQ n cs _ (by omega) hln h2, hcell⟩
    obtain ⟨F, hF⟩ := choose_lt (α := List Value) (p := fun i cs => cs.length = sz ∧ Q cs ∧ ∀ j, j < sz → W.cell? ((a.add (i * sz)).add j) = cs[j]?) each
    refine ⟨(List.range len).map F, ⟨some a, cap, by simp, by simpa using hl, hm, ?_⟩, fun r hr => ?_⟩
    · by_cases h0 : len = 0
      · exact Or.inl (by rw [h0]; rfl)
      · obtain ⟨h1, -, h3⟩ := hF 0 (by omega)
        have h4 := h3 0 hsz
        rw [List.getElem?_eq_getElem (by omega)] at h4
        have hs := spot_none h4
        obtain ⟨blk, off, s⟩ := a
        simp only at hs
        subst hs
        refine Or.inr ⟨blk, off, rfl, fun i r hi j y hj => ?_⟩
        have hin : i < len := by have := (List.getElem?_eq_some_iff.1 hi).1; simpa using this
        rw [List.getElem?_map, List.getElem?_range hin] at hi
        injection hi with hi
        subst hi
        obtain ⟨k1, -, k3⟩ := hF i hin
        have hjs : j < sz := by have := (List.getElem?_eq_some_iff.1 hj).1; omega
        have h5 := k3 j hjs
        have e1 : ((⟨blk, off, none⟩ : Addr).add (i * sz)).add j = ⟨blk, off + i * sz + j, none⟩ := by
          unfold Addr.add
          split <;> split <;> simp_all
        rw [e1, hj] at h5
        exact h5
    · obtain ⟨i, hi, rfl⟩ := List.mem_map.1 hr
      have := hF i (List.mem_range.1 hi)
      exact ⟨this.1, this.2.1⟩
/-- Rows each of which is somebody's: the list of those. -/
theorem rows_map {α : Type} {f : α → List Value} : ∀ rows : List (List Value), (∀ r ∈ rows, ∃ d, r = f d) → ∃ l : List α, rows = l.map f
  | [], _ => ⟨[], rfl⟩
  | r :: rows, h => by
    obtain ⟨d, hd⟩ := h r (by simp)
    obtain ⟨l, hl⟩ := rows_map rows (fun r hr => h r (by simp [hr]))
    exact ⟨d :: l, by rw [List.map_cons, hd, hl]⟩
theorem rows_list {α : Type} {p : α → List Value → Prop} : ∀ rows : List (List Value), (∀ r ∈ rows, ∃ d, p d r) → ∃ l : List α, rows.length = l.length ∧ ∀ (i : Nat) (r : List Value) (d : α), rows[i]? = some r → l[i]? = some d → p d r
  | [], _ => ⟨[], rfl, fun i r d hi => by simp at hi⟩
  | r :: rows, h => by
    obtain ⟨d, hd⟩ := h r (by simp)
    obtain ⟨l, hl, hp⟩ := rows_list rows (fun r hr => h r (by simp [hr]))
    refine ⟨d :: l, by simp [hl], fun i r' d' hi hd' => ?_⟩
    cases i with
    | zero => simp at hi hd'; subst hi; subst hd'; exact hd
    | succ i => exact hp i r' d' (by simpa using hi) (by simpa using hd')

end Go.Proofs.YthnjgbjckggjhaaGreatDoor

namespace Go.Proofs.YthnjgbjckggjhaaGreatDoor.schema
open Go.ChangeShapes Go.WideShapes Go.RowKit Go.Deep Go.Proofs.YthnjgbjckggjhaaGreatDoor

theorem in_int {H : Type} {enc : TypeId × Value → H} {W : World} {base n : Nat} {sp : Nat → Bool} {held : Bool} {v : Value} {y : DataW H × List MemPlace} (h : DataW.trod enc Tryz.prog W base sp held n 3 [v] = some y) : ∃ k : Int, v = .int .i64 k := by
  obtain ⟨k, hk, -, -⟩ := DataW.trod_int Tryz.underlying3 h
  injection hk with hk
  exact ⟨k, hk⟩
theorem in_text {H : Type} {enc : TypeId × Value → H} {W : World} {base n : Nat} {sp : Nat → Bool} {held : Bool} {v : Value} {y : DataW H × List MemPlace} (h : DataW.trod enc Tryz.prog W base sp held n 9 [v] = some y) : ∃ s : ByteArray, v = .string s := by
  obtain ⟨s, hs, -, -⟩ := DataW.trod_string Tryz.underlying9 h
  injection hs with hs
  exact ⟨s, hs⟩
theorem in_slice {H : Type} {enc : TypeId × Value → H} {P : Program} {W : World} {base n : Nat} {sp : Nat → Bool} {held : Bool} {t e : TypeId} {v : Value} {y : DataW H × List MemPlace} (ht : P.underlying t = some (.slice e)) (h : DataW.trod enc P W base sp held n t [v] = some y) : ∃ a m c, v = .slice a m c := by
  rcases DataW.trod_slice ht h with ⟨hcs, -⟩ | ⟨a, len, cap, elems, rest, n, hf, hcs, -⟩
  · injection hcs with hv
    exact ⟨_, _, _, hv⟩
  · injection hcs with hv
    exact ⟨_, _, _, hv⟩
/-- Rows each of which is somebody's, of whom P holds: the list of those. -/
theorem rows_map2 {α : Type} {f : α → List Value} {P : α → Prop} : ∀ rows : List (List Value), (∀ r ∈ rows, ∃ d, r = f d ∧ P d) → ∃ l : List α, rows = l.map f ∧ ∀ d ∈ l, P d
  | [], _ => ⟨[], rfl, fun d hd => by cases hd⟩
  | r :: rows, h => by
    obtain ⟨d, hd, hp⟩ := h r (by simp)
    obtain ⟨l, hl, hq⟩ := rows_map2 rows (fun r hr => h r (by simp [hr]))
    refine ⟨d :: l, by rw [List.map_cons, hd, hl], fun e he => ?_⟩
    rcases List.mem_cons.1 he with rfl | he
    · exact hp
    · exact hq e he
set_option maxRecDepth 100000 in
theorem open_ls {H : Type} {enc : TypeId × Value → H} {W : World} {base n : Nat} {sp : Nat → Bool} {held : Bool} {v : Value} {y : DataW H × List MemPlace} (h : DataW.trod enc Tryz.prog W base sp held n 33 [v] = some y) : ∃ ls : List ByteArray, RowsAt W.cell? 1 v (ls.map strRow) := by
  obtain ⟨lr, hlr, hlq⟩ := rows_of_trod Tryz.underlying33 (by kernel_rfl) (show 0 < 1 by omega) (fun cs => ∃ s : ByteArray, cs = strRow s) (fun n cs y _ hl h => by
    match cs, hl with
    | [v], _ =>
      obtain ⟨s, rfl⟩ := in_text h
      exact ⟨s, rfl⟩) h
  obtain ⟨ls, rfl⟩ := rows_map lr (fun r hr => (hlq r hr).2)
  exact ⟨ls, hlr⟩
set_option maxRecDepth 100000 in
theorem open_vd {H : Type} {enc : TypeId × Value → H} {W : World} {base n : Nat} {sp : Nat → Bool} {held : Bool} {cs : List Value} {y : DataW H × List MemPlace} (hl : cs.length = 4) (h : DataW.trod enc Tryz.prog W base sp held n 42 cs = some y) : ∃ d : VD, cs = d.row ∧ RowsAt W.cell? 1 (.slice d.ptr d.len d.cap) (d.ls.map strRow) := by
  obtain ⟨xs, k, hk, hxy, _, hxl, hf⟩ := DataW.trod_struct Tryz.underlying42 h
  match xs, hxl, cs, hl with
  | [y0, y1, y2, y3], _, [v0, v1, v2, v3], _ =>
    have g0 := hf 0 _ rfl
    have g1 := hf 1 _ rfl
    have g2 := hf 2 _ rfl
    have g3 := hf 3 _ rfl
    simp only [List.getElem?_cons_succ, List.getElem?_cons_zero] at g0 g1 g2 g3
    obtain ⟨s0, rfl⟩ := in_int g0
    obtain ⟨s1, rfl⟩ := in_int g1
    obtain ⟨s2, rfl⟩ := in_text g2
    obtain ⟨ls, hls⟩ := open_ls g3
    obtain ⟨a, m, c, rfl⟩ := in_slice Tryz.underlying33 g3
    exact ⟨⟨s0, s1, s2, a, m, c, ls⟩, rfl, hls⟩
end Go.Proofs.YthnjgbjckggjhaaGreatDoor.schema
