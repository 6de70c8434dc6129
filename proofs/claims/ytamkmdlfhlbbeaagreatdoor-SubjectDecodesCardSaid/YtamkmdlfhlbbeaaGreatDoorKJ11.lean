/- Bytes that lie in a memory. The program's reader of numbers and texts. The program's reader: a number. The program's reader: a length, a count, a text. Bytes that lie in a memory, and bytes and texts appended to bytes of the call's own. The program's numbers and texts as bytes, and its reader made. The program's groups of seven bits. -/
import Derived.Test.YtamkmdlfhlbbeaaGreatDoorKJ10
import Derived.Test.YtamkmdlfhlbbeaaGreatDoorKApp0
import Derived.Test.YtamkmdlfhlbbeaaGreatDoorKJ5
import Derived.Test.YtamkmdlfhlbbeaaGreatDoorKTextG
import Derived.Lib.AppendStr
import Derived.Test.YtamkmdlfhlbbeaaGreatDoorKSuX
namespace Go.Proofs.YtamkmdlfhlbbeaaGreatDoor.wire
open Go.RowKit Go.Proofs.YtamkmdlfhlbbeaaGreatDoor Go.Proofs.YtamkmdlfhlbbeaaGreatDoor.draw

def byteRow (u : UInt8) : List Value := [.int .u8 u.toNat]
theorem byte_flat : ∀ l : List UInt8, (l.map byteRow).flatten = Lib.byteCells l
  | [] => rfl
  | u :: l => by rw [List.map_cons, List.flatten_cons, byte_flat l]; rfl
theorem byte_rows (l : List UInt8) : ∀ r ∈ l.map byteRow, r.length = 1 := by intro r hr; obtain ⟨d, -, rfl⟩ := List.mem_map.1 hr; rfl
theorem byte_one' (l : List UInt8) : ∀ v ∈ (l.map byteRow).flatten, v.oneCell' = true := by
  intro v hv
  rw [byte_flat] at hv
  simp only [Lib.byteCells, List.mem_map] at hv
  obtain ⟨x, -, rfl⟩ := hv
  rfl
/-- A slice of bytes lies in a memory. -/
def BV (m : Mem) (v : Value) (l : List UInt8) : Prop := RowsAt m 1 v (l.map byteRow)
theorem BV.mono {m m' : Mem} (hs : Sub m m') {v : Value} {l : List UInt8} (h : BV m v l) : BV m' v l := RowsAt.mono hs h
theorem BV.nil (m : Mem) : BV m (.slice none 0 0) [] := ⟨none, 0, rfl, Nat.le_refl _, by decide, Or.inl rfl⟩
theorem BV.rows {m : Mem} {v : Value} {l : List UInt8} (h : BV m v l) : RowsAt m 1 v (l.map byteRow) := h
theorem BV.len {m : Mem} {a : Option Addr} {n c : Nat} {l : List UInt8} (h : BV m (.slice a n c) l) : n = l.length ∧ n ≤ c ∧ c ≤ maxLen := by
  have := rows_len h
  rw [List.length_map] at this
  omega
theorem BV.form {m : Mem} {v : Value} {l : List UInt8} (h : BV m v l) : ∃ a c, v = .slice a l.length c := by
  obtain ⟨a, c, h1, -⟩ := h
  rw [List.length_map] at h1
  exact ⟨a, c, h1⟩
theorem BV.cell {m : Mem} {a : Option Addr} {n c : Nat} {l : List UInt8} (h : BV m (.slice a n c) l) : l = [] ∨ ∃ blk off, a = some ⟨blk, off, none⟩ ∧ ∀ (i : Nat) (hi : i < l.length), m ⟨blk, off + i, none⟩ = some (.int .u8 l[i].toNat) := by
  obtain ⟨a', c', h1, -, -, h4⟩ := h
  injection h1 with e1 e2 e3
  subst e1
  rcases h4 with h4 | ⟨blk, off, rfl, h5⟩
  · exact Or.inl (by simpa using h4)
  · refine Or.inr ⟨blk, off, rfl, fun i hi => ?_⟩
    have := h5 i (byteRow l[i]) (by simp [hi]) 0 _ rfl
    rw [Nat.mul_one, Nat.add_zero] at this
    exact this

end Go.Proofs.YtamkmdlfhlbbeaaGreatDoor.wire

namespace Go.Proofs.YtamkmdlfhlbbeaaGreatDoor.wire
open Go.RowKit Go.Proofs.YtamkmdlfhlbbeaaGreatDoor Go.Proofs.YtamkmdlfhlbbeaaGreatDoor.draw

/-- The program's reader: its block, and what is left to read. -/
def RdP (M : Mem) (g : Nat) (w : World) : St → Prop
  | none => ∃ a n c e, Own w g #[.slice a n c, .int .i64 e] 132 ∧ e ≠ 0
  | some l => ∃ a n c, Own w g #[.slice a n c, .int .i64 0] 132 ∧ BV M (.slice a n c) l
theorem RdP.lt {M : Mem} {g : Nat} {w : World} {s : St} (h : RdP M g w s) : g < w.heap.size := by
  cases s with
  | none => obtain ⟨a, n, c, e, h1, -⟩ := h; exact h1.lt
  | some l => obtain ⟨a, n, c, h1, -⟩ := h; exact h1.lt
theorem RdP.kept {M : Mem} {g : Nat} {w u : World} {s : St} {r : Option Nat} (h : RdP M g w s) (hg : w.grownBy u r) (hr : r ≠ some g) : RdP M g u s := by
  cases s with
  | none => obtain ⟨a, n, c, e, h1, h2⟩ := h; exact ⟨a, n, c, e, h1.kept hg hr, h2⟩
  | some l => obtain ⟨a, n, c, h1, h2⟩ := h; exact ⟨a, n, c, h1.kept hg hr, h2⟩
theorem RdP.below {M : Mem} {g : Nat} {w u : World} {s : St} (h : RdP M g w s) (hb : Below w.heap.size w u) : RdP M g u s := h.kept (grown_of_below hb none) (by simp)
/-- What a reading does: something comes out, and nothing but the reader has turned. -/
def ReadP (M : Mem) (g : Nat) (w : World) (P : Ending → World → Prop) (s : St) (e : Ending) (w' : World) : Prop := P e w' ∧ RdP M g w' s ∧ w.grownBy w' (some g)

set_option maxHeartbeats 1000000 in
theorem fail_any (M : Mem) (g : Nat) (w : World) (s : St) (e : Int) (he : e ≠ 0) (h : RdP M g w s) :
    Calls Tryz.prog 101 #[.pointer (some ⟨g, 0, none⟩), .int .i64 e] w (ReadP M g w (fun r _ => r = .returned (.tuple #[])) none) := by
  have hl := h.lt
  cases s with
  | none =>
    obtain ⟨a, n, c, e', h1, h2⟩ := h
    have c1 := h1.cell 1
    simp only [List.getElem?_toArray, List.getElem?_cons_succ, List.getElem?_cons_zero] at c1
    have hne : ¬ (e' = 0) := h2
    go_enter Tryz.func101, Tryz.ntmps101
    go_wp2
    first | go_end0 | refine bodyPost_ret (results_none rfl _ _ _) rfl ?_
    exact ⟨rfl, ⟨a, n, c, e', h1, h2⟩, grown_refl _ _⟩
  | some l =>
    obtain ⟨a, n, c, h1, h2⟩ := h
    have c1 := h1.cell 1
    have f1 := h1.free 1
    simp only [List.getElem?_toArray, List.getElem?_cons_succ, List.getElem?_cons_zero] at c1
    go_enter Tryz.func101, Tryz.ntmps101
    go_wp2
    first | go_end0 | refine bodyPost_ret (results_none rfl _ _ _) rfl ?_
    exact ⟨rfl, ⟨a, n, c, e, h1.set 1 _, he⟩, grown_setCell _ _ _ _⟩

/-- What is left behind so many bytes, and these. -/
theorem addr_add (blk off k : Nat) : (⟨blk, off, none⟩ : Addr).add k = ⟨blk, off + k, none⟩ := by unfold Addr.add; split <;> simp_all
theorem BV.drop {m : Mem} {a : Option Addr} {n c : Nat} {l : List UInt8} (h : BV m (.slice a n c) l) {k : Nat} (hk : k ≤ n) : BV m (.slice (if k = c then a else a.map (·.add (k * 1))) (n - k) (c - k)) (l.drop k) := by
  have hl := h.len
  refine ⟨_, c - k, by rw [List.length_map, List.length_drop, hl.1], by rw [List.length_map, List.length_drop]; omega, by omega, ?_⟩
  rcases h.cell with rfl | ⟨blk, off, rfl, hc⟩
  · exact Or.inl (by simp)
  · by_cases hkc : k = c
    · refine Or.inl ?_
      rw [List.drop_of_length_le (by omega)]
      rfl
    · refine Or.inr ⟨blk, off + k, by rw [if_neg hkc, Option.map_some, Nat.mul_one, addr_add], fun i r hr j x hx => ?_⟩
      rw [List.map_drop, List.getElem?_drop, List.getElem?_map] at hr
      obtain ⟨u, hu, rfl⟩ := Option.map_eq_some_iff.1 hr
      obtain ⟨hlt, rfl⟩ := List.getElem?_eq_some_iff.1 hu
      match j, hx with
      | 0, hx =>
        injection hx with hx
        subst hx
        have := hc (k + i) hlt
        rw [← this]
        congr 2
        omega
      | j + 1, hx => simp [byteRow] at hx
theorem BV.take {m : Mem} {a : Option Addr} {n c : Nat} {l : List UInt8} (h : BV m (.slice a n c) l) {k : Nat} (hk : k ≤ n) : BV m (.slice (if k = 0 then a else a.map (·.add (0 * 1))) (k - 0) (k - 0)) (l.take k) := by
  have hl := h.len
  refine ⟨_, k, by rw [List.length_map, List.length_take, Nat.min_eq_left (by omega)]; rfl, by rw [List.length_map, List.length_take]; omega, by omega, ?_⟩
  rcases h.cell with rfl | ⟨blk, off, rfl, hc⟩
  · exact Or.inl (by simp)
  · refine Or.inr ⟨blk, off, by split <;> simp [addr_add], fun i r hr j x hx => ?_⟩
    rw [List.map_take, List.getElem?_take] at hr
    split at hr
    · rw [List.getElem?_map] at hr
      obtain ⟨u, hu, rfl⟩ := Option.map_eq_some_iff.1 hr
      obtain ⟨hlt, rfl⟩ := List.getElem?_eq_some_iff.1 hu
      match j, hx with
      | 0, hx =>
        injection hx with hx
        subst hx
        have := hc i hlt
        rw [← this]
        congr 2
        omega
      | j + 1, hx => simp [byteRow] at hx
    · cases hr
theorem BV.take' {m : Mem} {a : Option Addr} {n c : Nat} {l : List UInt8} (h : BV m (.slice a n c) l) {k : Nat} (hk : k ≤ n) : BV m (.slice a k k) (l.take k) := by
  have h1 := h.take hk
  have e : (if k = 0 then a else a.map (·.add (0 * 1))) = a := by
    split
    · rfl
    · cases a <;> simp [Addr.add]
  rw [e] at h1
  exact h1
theorem BV.dropC {m : Mem} {a : Option Addr} {n c : Nat} {l : List UInt8} (h : BV m (.slice a n c) l) (hk : c ≤ n) : BV m (.slice a (n - c) 0) (l.drop c) := by
  have h1 := h.drop hk
  rw [if_pos rfl, Nat.sub_self] at h1
  exact h1
theorem BV.dropN {m : Mem} {a : Option Addr} {n c : Nat} {l : List UInt8} (h : BV m (.slice a n c) l) {k : Nat} (hk : k ≤ n) (hc : ¬ k = c) : BV m (.slice (a.map (·.add k)) (n - k) (c - k)) (l.drop k) := by
  have h1 := h.drop hk
  rw [if_neg hc, Nat.mul_one] at h1
  exact h1
theorem but_set {g : Nat} {w : World} {o : Nat} {v : Value} : Sub (but g w) (but g (w.setCell ⟨g, o, none⟩ v)) := sub_of_grown (grown_setCell w g o v)
def tk (k : Nat) : St → List UInt8 × St
  | none => ([], none)
  | some l => if l.length < k then ([], none) else (l.take k, some (l.drop k))
/-- Some bytes that lie in a memory come out. -/
def OutV (M : Mem) (l : List UInt8) (e : Ending) (_w : World) : Prop := ∃ a n c, e = .returned (.slice a n c) ∧ BV M (.slice a n c) l

set_option maxHeartbeats 2000000 in
theorem take_any (M : Mem) (g : Nat) (w : World) (s : St) (k : Nat) (h : RdP M g w s) :
    Calls Tryz.prog 99 #[.pointer (some ⟨g, 0, none⟩), .int .i64 k] w (ReadP M g w (OutV M (tk k s).1) (tk k s).2) := by
  have hl := h.lt
  cases s with
  | none =>
    obtain ⟨a, n, c, e', h1, h2⟩ := h
    have c1 := h1.cell 1
    simp only [List.getElem?_toArray, List.getElem?_cons_succ, List.getElem?_cons_zero] at c1
    have hne : ¬ (e' = 0) := h2
    have hne' : (e' == 0) = false := by simpa using h2
    go_enter Tryz.func99, Tryz.ntmps99
    go_wp2
    go_ret
    exact ⟨⟨_, _, _, rfl, BV.nil _⟩, ⟨a, n, c, e', h1, h2⟩, grown_refl _ _⟩
  | some l =>
    obtain ⟨a, n, c, h1, h2⟩ := h
    have hln := h2.len
    have c0 := h1.cell 0
    have c1 := h1.cell 1
    have f0 := h1.free 0
    have f1 := h1.free 1
    simp only [List.getElem?_toArray, List.getElem?_cons_succ, List.getElem?_cons_zero] at c0 c1
    by_cases hk : n < k
    · have e1 : tk k (some l) = ([], none) := if_pos (by omega)
      rw [e1]
      have hk1 : (n : Int) < (k : Int) := by omega
      go_enter Tryz.func99, Tryz.ntmps99
      go_wp2
      go_ret
      exact ⟨⟨_, _, _, rfl, BV.nil _⟩, ⟨a, n, c, 16, h1.set 1 _, by decide⟩, grown_setCell _ _ _ _⟩
    · have e1 : tk k (some l) = (l.take k, some (l.drop k)) := if_neg (by omega)
      rw [e1]
      have hk1 : ¬ (n : Int) < (k : Int) := by omega
      have hk2 : (k : Int) ≤ (n : Int) := by omega
      have hk3 : (k : Int) ≤ (c : Int) := by omega
      have hk0 : (0 : Int) ≤ (k : Int) := by omega
      have hT := Lib.hid (h2.take' (k := k) (by omega))
      by_cases hkc : k = c
      · subst hkc
        have hD := Lib.hid (h2.dropC (by omega))
        clear h2 hln hk
        go_enter Tryz.func99, Tryz.ntmps99
        go_wp2
        go_ret
        exact ⟨⟨_, _, _, rfl, hT.out⟩, ⟨_, _, _, h1.set 0 _, hD.out⟩, grown_setCell _ _ _ _⟩
      · have hD := Lib.hid (h2.dropN (k := k) (by omega) hkc)
        clear h2 hln hk
        go_enter Tryz.func99, Tryz.ntmps99
        go_wp2
        go_ret
        exact ⟨⟨_, _, _, rfl, hT.out⟩, ⟨_, _, _, h1.set 0 _, hD.out⟩, grown_setCell _ _ _ _⟩

set_option maxHeartbeats 1000000 in
theorem end_any (M : Mem) (g : Nat) (w : World) (s : St) (h : RdP M g w s) :
    Calls Tryz.prog 62 #[.pointer (some ⟨g, 0, none⟩)] w fun e w' => (∃ r : Int, e = .returned (.int .i64 r) ∧ (r = 0 ↔ s = some [])) ∧ w' = w := by
  cases s with
  | none =>
    obtain ⟨a, n, c, e', h1, h2⟩ := h
    have c1 := h1.cell 1
    simp only [List.getElem?_toArray, List.getElem?_cons_succ, List.getElem?_cons_zero] at c1
    have hne : ¬ (e' = 0) := h2
    have hne' : (e' == 0) = false := by simpa using h2
    go_enter Tryz.func62, Tryz.ntmps62
    go_wp2
    go_ret
    exact ⟨⟨_, rfl, by simp [hne]⟩, rfl⟩
  | some l =>
    obtain ⟨a, n, c, h1, h2⟩ := h
    have hln := h2.len
    have c0 := h1.cell 0
    have c1 := h1.cell 1
    simp only [List.getElem?_toArray, List.getElem?_cons_succ, List.getElem?_cons_zero] at c0 c1
    by_cases hk : n = 0
    · obtain rfl : l = [] := List.eq_nil_of_length_eq_zero (by omega)
      subst hk
      clear hln h2
      go_enter Tryz.func62, Tryz.ntmps62
      go_wp2
      go_ret
      exact ⟨⟨_, rfl, by simp⟩, rfl⟩
    · have hk1 : (0 : Int) < (n : Int) := by omega
      have hq : ¬ (some l : St) = some [] := fun e => by injection e with e; subst e; simp at hln; omega
      replace hq := Lib.hid hq
      clear hln h2 hk
      go_enter Tryz.func62, Tryz.ntmps62
      go_wp2
      go_ret
      exact ⟨⟨_, rfl, by simp [hq.out]⟩, rfl⟩

end Go.Proofs.YtamkmdlfhlbbeaaGreatDoor.wire

namespace Go.Proofs.YtamkmdlfhlbbeaaGreatDoor.wire
open Go.RowKit Go.Proofs.YtamkmdlfhlbbeaaGreatDoor Go.Proofs.YtamkmdlfhlbbeaaGreatDoor.draw

theorem rdN_go (l : List UInt8) : rdN (some l) = (match rdGo 0 0 l with | none => (0, none) | some (u, r) => (unzz u, some r)) := rfl
theorem rdN_bad {l : List UInt8} (h : rdGo 0 0 l = none) : rdN (some l) = (0, none) := by rw [rdN_go, h]
theorem rdN_good {l r : List UInt8} {u : Nat} (h : rdGo 0 0 l = some (u, r)) : rdN (some l) = (unzz u, some r) := by rw [rdN_go, h]

set_option maxRecDepth 100000 in
set_option maxHeartbeats 4000000 in
theorem number_any (M : Mem) (g : Nat) (w : World) (s : St) (hM : Sub M (but g w)) (h : RdP M g w s) :
    Calls Tryz.prog 100 #[.pointer (some ⟨g, 0, none⟩)] w (ReadP M g w (fun e _ => e = .returned (.int .i64 (rdN s).1)) (rdN s).2) := by
  have hl := h.lt
  cases s with
  | none =>
    obtain ⟨a, n, c, e', h1, h2⟩ := h
    have c1 := h1.cell 1
    simp only [List.getElem?_toArray, List.getElem?_cons_succ, List.getElem?_cons_zero] at c1
    have hne : ¬ (e' = 0) := h2
    have hne' : (e' == 0) = false := by simpa using h2
    go_enter Tryz.func100, Tryz.ntmps100
    go_wp2
    go_ret
    exact ⟨rfl, ⟨a, n, c, e', h1, h2⟩, grown_refl _ _⟩
  | some l =>
    obtain ⟨a, n, c, h1, h2⟩ := h
    obtain ⟨hn, hnc, hcm⟩ := h2.len
    have c0 := h1.cell 0
    have c1 := h1.cell 1
    have f0 := h1.free 0
    have f1 := h1.free 1
    simp only [List.getElem?_toArray, List.getElem?_cons_succ, List.getElem?_cons_zero] at c0 c1
    replace hn := Lib.hid hn
    have hV := Lib.hid h2
    clear h2
    go_enter Tryz.func100, Tryz.ntmps100
    go_wp2
    go_loopw [3, 4] (fun s3 s4 wr => ∃ (i u : Nat), i ≤ n ∧ i ≤ 9 ∧ s4 = .int .i64 i ∧ s3 = .int .u64 u ∧ Hid (u < 128 ^ i ∧ rdGo i u (l.drop i) = rdGo 0 0 l) ∧ wr = w) (fun _ s4 _ => n - (intOf s4).toNat)
    case atStart => exact ⟨0, 0, by omega, by omega, rfl, rfl, Lib.hid ⟨by decide, rfl⟩, rfl⟩
    case round =>
      obtain ⟨i, u, hi, hi9, rfl, rfl, hR, rfl⟩ := hrel
      by_cases hlt : i < n
      case neg =>
        have hB := Lib.hid (rdN_bad (l := l) (by rw [← hR.out.2, List.drop_of_length_le (by have := hn.out; omega)]; rfl))
        go_wp2
        go_ret
        rw [hB.out]
        exact ⟨rfl, ⟨a, n, c, 16, h1.set 1 _, by decide⟩, grown_setCell _ _ _ _⟩
      have hil : i < l.length := by have := hn.out; omega
      have hE := hR.out.2
      rw [List.drop_eq_getElem_cons hil, rdGo] at hE
      rcases hV.out.cell with rfl | ⟨blk, off, rfl, hc⟩
      · simp at hil
      have hx := but_sub _ _ _ _ (hM _ _ (hc i hil))
      clear hc
      generalize l[i] = x at hE hx
      have n0 : (0 : Int) ≤ (i : Int) := by omega
      have n1 : (i : Int) < (n : Int) := by omega
      by_cases hq1 : i = 9 ∧ 1 < x.toNat
      · rw [if_pos hq1] at hE
        have hB := Lib.hid (rdN_bad hE.symm)
        obtain ⟨rfl, hx1⟩ := hq1
        have hx2 : (1 : Int) < (x.toNat : Int) := by omega
        clear hE
        go_wp2
        go_ret
        rw [hB.out]
        exact ⟨rfl, ⟨_, n, c, 3, h1.set 1 _, by decide⟩, grown_setCell _ _ _ _⟩
      rw [if_neg hq1] at hE
      by_cases hq2 : 128 ≤ x.toNat
      · rw [if_pos hq2] at hE
        have hi8 : i ≤ 8 := by omega
        have hx2 : (128 : Int) ≤ (x.toNat : Int) := by omega
        have hi9' : ¬ (i : Int) = 9 := by omega
        replace hE := Lib.hid hE
        replace hR := Lib.hid hR
        clear hq1
        have hS := or_step (x := x) hR.out.1 (Nat.lt_trans (step_few hi8) (by decide)) hi9
        have hz := Lib.hid (step_sum (x := x.toNat) hR.out.1)
        have hE2 := Lib.hid hE.out.symm
        generalize u + x.toNat % 128 * 128 ^ i = z at hS hz hE2
        have hn7 : (0 : Int) ≤ 7 * (i : Int) := by omega
        clear hE
        go_wp2
        refine ⟨⟨i + 1, z, by omega, by omega, rfl, rfl, Lib.hid ⟨hz.out, hE2.out.symm⟩, trivial⟩, ?_⟩
        simp [intOf]
        omega
      rw [if_neg hq2] at hE
      have hx2 : ¬ (128 : Int) ≤ (x.toNat : Int) := by omega
      obtain ⟨hb1, hb2⟩ := last_few hR.out.1 (show x.toNat < 128 by omega) hi9 hq1
      have hS := or_last (x := x) hR.out.1 (by omega) hb1 hi9
      by_cases hq3 : x.toNat = 0 ∧ 0 < i
      · rw [if_pos hq3] at hE
        have hB := Lib.hid (rdN_bad hE.symm)
        have hx0 : (x.toNat : Int) = 0 := by omega
        have hi0 : (0 : Int) < (i : Int) := by omega
        rw [hx0] at hx
        clear hE hS hb1 hb2
        replace hq1 := Lib.hid hq1
        replace hR := Lib.hid hR
        replace hq3 := Lib.hid hq3
        rcases Nat.lt_or_ge i 9 with h9 | h9
        · have hi9' : ¬ (i : Int) = 9 := by omega
          go_wp2
          go_ret
          rw [hB.out]
          exact ⟨rfl, ⟨_, n, c, 1, h1.set 1 _, by decide⟩, grown_setCell _ _ _ _⟩
        · obtain rfl : i = 9 := by omega
          clear h9 hi9 hi0
          go_wp2
          go_ret
          rw [hB.out]
          exact ⟨rfl, ⟨_, n, c, 1, h1.set 1 _, by decide⟩, grown_setCell _ _ _ _⟩
      rw [if_neg hq3] at hE
      have hG := Lib.hid (rdN_good hE.symm)
      have hU := unzz_bits' hb2
      generalize u + x.toNat * 128 ^ i = z at hS hU hG
      have hC : i + 1 = c → Hid (BV M (.slice (some ⟨blk, off, none⟩) 0 0) (l.drop (i + 1))) := fun e => by
        subst e
        have h0 := hV.out.dropC (by omega)
        rw [show n - (i + 1) = 0 by omega] at h0
        exact Lib.hid h0
      have hN : ¬ i + 1 = c → Hid (BV M (.slice (some ⟨blk, off + (i + 1), none⟩) (n - (i + 1)) (c - (i + 1))) (l.drop (i + 1))) := fun e => by
        have := hV.out.dropN (k := i + 1) (by omega) e
        rw [Option.map_some, addr_add] at this
        exact Lib.hid this
      have hc1 : (i : Int) + 1 ≤ (c : Int) := by omega
      have hc2 : (i : Int) + 1 ≤ (n : Int) := by omega
      have hc3 : (0 : Int) ≤ (i : Int) + 1 := by omega
      have hn7 : (0 : Int) ≤ 7 * (i : Int) := by omega
      clear hE hb1 hb2
      replace hR := Lib.hid hR
      replace hV := Lib.hid hV
      rcases Nat.lt_or_ge i 9 with h9 | h9
      · have hi9' : ¬ (i : Int) = 9 := by omega
        replace hq1 := Lib.hid hq1
        by_cases hi0 : (0 : Int) < (i : Int)
        · have hx0 : ¬ (x.toNat : Int) = 0 := by omega
          replace hq3 := Lib.hid hq3
          by_cases hic : i + 1 = c
          · have hD := hC hic
            clear hC hN
            go_wp2
            all_goals
              go_ret
              rw [hG.out]
              exact ⟨rfl, ⟨_, _, _, h1.set 0 _, hD.out⟩, grown_setCell _ _ _ _⟩
          · have hD := hN hic
            clear hC hN
            go_wp2
            all_goals
              go_ret
              rw [hG.out]
              exact ⟨rfl, ⟨_, _, _, h1.set 0 _, hD.out⟩, grown_setCell _ _ _ _⟩
        · replace hq3 := Lib.hid hq3
          by_cases hic : i + 1 = c
          · have hD := hC hic
            clear hC hN
            go_wp2
            all_goals
              go_ret
              rw [hG.out]
              exact ⟨rfl, ⟨_, _, _, h1.set 0 _, hD.out⟩, grown_setCell _ _ _ _⟩
          · have hD := hN hic
            clear hC hN
            go_wp2
            all_goals
              go_ret
              rw [hG.out]
              exact ⟨rfl, ⟨_, _, _, h1.set 0 _, hD.out⟩, grown_setCell _ _ _ _⟩
      · obtain rfl : i = 9 := by omega
        have hx0 : ¬ (x.toNat : Int) = 0 := by omega
        have hx1 : ¬ (1 : Int) < (x.toNat : Int) := by omega
        replace hq3 := Lib.hid hq3
        replace hq1 := Lib.hid hq1
        have e63 : (2 : Int) ^ (7 * 9) = 9223372036854775808 := by decide
        rw [e63] at hS
        clear h9 hi9
        by_cases hic : 10 = c
        · have hD := hC hic
          clear hC hN
          subst hic
          go_wp2
          all_goals
            go_ret
            rw [hG.out]
            exact ⟨rfl, ⟨_, _, _, h1.set 0 _, hD.out⟩, grown_setCell _ _ _ _⟩
        · have hD := hN hic
          clear hC hN
          go_wp2
          all_goals
            go_ret
            rw [hG.out]
            exact ⟨rfl, ⟨_, _, _, h1.set 0 _, hD.out⟩, grown_setCell _ _ _ _⟩

end Go.Proofs.YtamkmdlfhlbbeaaGreatDoor.wire

namespace Go.Proofs.YtamkmdlfhlbbeaaGreatDoor.wire
open Go.RowKit Go.Proofs.YtamkmdlfhlbbeaaGreatDoor Go.Proofs.YtamkmdlfhlbbeaaGreatDoor.draw Go.Proofs.YtamkmdlfhlbbeaaGreatDoor.text

theorem conv_bv {a : Option Addr} {n c : Nat} {l : List UInt8} {w : World} (h : BV w.cell? (.slice a n c) l) : (convert 25 9 (.slice a n c)).run Tryz.prog w = .ok (.string ⟨l.toArray⟩) w := by
  have hn := h.len.1
  cases a with
  | none =>
    rcases h.cell with rfl | ⟨blk, off, e, -⟩
    · exact run_convert_bytes_nil w _ _ Tryz.underlying25 Tryz.underlying5 n c _ Tryz.underlying9
    · cases e
  | some ad =>
    have hc : ∀ j v, ((l.map fun x : UInt8 => (x.toNat : Int)).map (Value.int .u8))[j]? = some v → w.cell? (ad.add j) = some v := by
      rcases rows_flat h.rows (byte_rows l) (by decide) with e | ⟨ad', e, hf⟩
      · have : l = [] := by simpa using e
        subst this
        intro j v hj
        simp at hj
      · injection e with e
        subst e
        intro j v hj
        refine hf j v ?_
        rw [byte_flat, ← hj]
        simp [Lib.byteCells, Function.comp_def]
    have hl := run_loadCells_list (P := Tryz.prog) w ad _ hc
    have hl' : (loadCells ad n).run Tryz.prog w = .ok ((l.map fun x : UInt8 => (x.toNat : Int)).map (Value.int .u8)).toArray w := by
      rw [hn]
      simpa using hl
    have h2 : (convert 25 9 (.slice (some ad) n c)).run Tryz.prog w = .ok (.string (strOfNums (l.map fun x : UInt8 => (x.toNat : Int)))) w := by
      rw [run_convert_bytes_string w _ _ _ _ n c Tryz.underlying25 Tryz.underlying5 Tryz.underlying9, run_bytesToString w _ n c _ hl', foldl_push_bytes]
      simp [strOfNums, ByteArray.empty, ByteArray.emptyWithCapacity]
      rfl
    rw [h2, strOf_bytes]

theorem rdN_zero {s : St} (h : (rdN s).2 = none) : (rdN s).1 = 0 := by
  cases s with
  | none => rfl
  | some l =>
    rw [rdN_go] at h ⊢
    cases hg : rdGo 0 0 l with
    | none => rfl
    | some p => obtain ⟨u, r⟩ := p; rw [hg] at h; cases h
theorem RdP.err {M : Mem} {g : Nat} {w : World} (h : RdP M g w none) : ∃ e : Int, w.cell? ⟨g, 1, none⟩ = some (.int .i64 e) ∧ e ≠ 0 := by
  obtain ⟨a, n, c, e, h1, h2⟩ := h
  exact ⟨e, h1.cell 1, h2⟩
theorem RdP.ok {M : Mem} {g : Nat} {w : World} {l : List UInt8} (h : RdP M g w (some l)) : w.cell? ⟨g, 1, none⟩ = some (.int .i64 0) := by
  obtain ⟨a, n, c, h1, -⟩ := h
  exact h1.cell 1
theorem rdLen_fail {s : St} {m : Int} (h : (rdN s).2 = none) : rdLen m s = (0, none) := by
  unfold rdLen
  generalize rdN s = p at h
  obtain ⟨n, t⟩ := p
  obtain rfl : t = none := h
  rfl
theorem rdLen_bad {s : St} {m n : Int} {r : List UInt8} (h : rdN s = (n, some r)) (hb : n < 0 ∨ m < n) : rdLen m s = (0, none) := by
  unfold rdLen
  rw [h]
  exact if_pos hb
theorem rdLen_good {s : St} {m n : Int} {r : List UInt8} (h : rdN s = (n, some r)) (hb : ¬ (n < 0 ∨ m < n)) : rdLen m s = (n.toNat, some r) := by
  unfold rdLen
  rw [h]
  exact if_neg hb

set_option maxRecDepth 100000 in
set_option maxHeartbeats 4000000 in
theorem length_any (M : Mem) (g : Nat) (w : World) (s : St) (hM : Sub M (but g w)) (most e : Int) (he : e ≠ 0) (hm : 0 ≤ most) (h : RdP M g w s) :
    Calls Tryz.prog 98 #[.pointer (some ⟨g, 0, none⟩), .int .i64 most, .int .i64 e] w (ReadP M g w (fun r _ => r = .returned (.int .i64 (rdLen most s).1)) (rdLen most s).2) := by
  have hN := Lib.hid (number_any M g w s hM h)
  clear h
  replace he := Lib.hid he
  go_enter Tryz.func98, Tryz.ntmps98
  go_wp2_with fail
  refine hN.out.mono ?_
  clear hN
  rintro e1 w1 ⟨rfl, h1, hg1⟩
  cases hq : (rdN s).2 with
  | none =>
    rw [hq] at h1
    have hz := rdN_zero hq
    have hL := Lib.hid (rdLen_fail (m := most) hq)
    rw [hz]
    obtain ⟨e', c1, hne⟩ := h1.err
    have hne' : (e' == 0) = false := by simpa using hne
    have hl1 := h1.lt
    replace h1 := Lib.hid h1
    replace hg1 := Lib.hid hg1
    have hm0 : ¬ most < 0 := by omega
    clear hq hz
    go_wp2
    go_ret
    rw [hL.out]
    exact ⟨rfl, h1.out, hg1.out⟩
  | some r =>
    rw [hq] at h1
    have hp : rdN s = ((rdN s).1, some r) := by rw [← hq]
    obtain ⟨n, hn⟩ : ∃ n, (rdN s).1 = n := ⟨_, rfl⟩
    rw [hn] at hp ⊢
    have hl1 := h1.lt
    by_cases hb : n < 0 ∨ most < n
    · have hL := Lib.hid (rdLen_bad hp hb)
      have hF := fun e he => Lib.hid (fail_any M g w1 (some r) e he h1)
      replace hg1 := Lib.hid hg1
      clear hp hn hq
      by_cases hn0 : n < 0
      · have hF1 := hF 3 (by decide)
        clear hF hb
        go_wp2_with fail
        refine hF1.out.mono ?_
        clear hF1
        rintro e2 w2 ⟨rfl, h2, hg2⟩
        obtain ⟨e', c1, hne⟩ := h2.err
        have hne' : (e' == 0) = false := by simpa using hne
        have hl2 := h2.lt
        have hG := Lib.hid (grown_trans hg1.out hg2)
        replace h2 := Lib.hid h2
        clear hg2
        go_wp2
        go_ret
        rw [hL.out]
        exact ⟨rfl, h2.out, hG.out⟩
      · have hn1 : most < n := by omega
        have hF1 := hF e he.out
        clear hF hb
        go_wp2_with fail
        refine hF1.out.mono ?_
        clear hF1
        rintro e2 w2 ⟨rfl, h2, hg2⟩
        obtain ⟨e', c1, hne⟩ := h2.err
        have hne' : (e' == 0) = false := by simpa using hne
        have hl2 := h2.lt
        have hG := Lib.hid (grown_trans hg1.out hg2)
        replace h2 := Lib.hid h2
        clear hg2
        go_wp2
        go_ret
        rw [hL.out]
        exact ⟨rfl, h2.out, hG.out⟩
    · have hL := Lib.hid (rdLen_good hp hb)
      have c1 := h1.ok
      have hn0 : ¬ n < 0 := by omega
      have hn1 : ¬ most < n := by omega
      have hnn : n = (n.toNat : Int) := by omega
      replace h1 := Lib.hid h1
      replace hg1 := Lib.hid hg1
      replace hnn := Lib.hid hnn
      clear hp hn hq hb
      go_wp2
      go_ret
      rw [hL.out]
      exact ⟨by rw [← hnn.out]; rfl, h1.out, hg1.out⟩

theorem count_any (M : Mem) (g : Nat) (w : World) (s : St) (hM : Sub M (but g w)) (most : Int) (hm : 0 ≤ most) (h : RdP M g w s) :
    Calls Tryz.prog 59 #[.pointer (some ⟨g, 0, none⟩), .int .i64 most] w (ReadP M g w (fun r _ => r = .returned (.int .i64 (rdLen most s).1)) (rdLen most s).2) := by
  have hN := Lib.hid (length_any M g w s hM most 5 (by decide) hm h)
  clear h
  go_enter Tryz.func59, Tryz.ntmps59
  go_wp2_with fail
  refine hN.out.mono ?_
  clear hN
  rintro e1 w1 ⟨rfl, h1, hg1⟩
  go_wp2
  go_ret
  exact ⟨rfl, h1, hg1⟩

theorem rdT_tk (m : Int) (s : St) : rdT m s = tk (rdLen m s).1 (rdLen m s).2 := by
  unfold rdT
  cases hq : rdLen m s with
  | mk n t => cases t <;> rfl
set_option maxRecDepth 100000 in
set_option maxHeartbeats 4000000 in
theorem rtext_any (M : Mem) (g : Nat) (w : World) (s : St) (hM : Sub M (but g w)) (most : Int) (hm : 0 ≤ most) (h : RdP M g w s) :
    Calls Tryz.prog 60 #[.pointer (some ⟨g, 0, none⟩), .int .i64 most] w (ReadP M g w (fun r _ => r = .returned (.string ⟨(rdT most s).1.toArray⟩)) (rdT most s).2) := by
  have hN := Lib.hid (length_any M g w s hM most 4 (by decide) hm h)
  clear h
  go_enter Tryz.func60, Tryz.ntmps60
  go_wp2_with fail
  refine hN.out.mono ?_
  clear hN
  rintro e1 w1 ⟨rfl, h1, hg1⟩
  have hT := Lib.hid (take_any M g w1 _ (rdLen most s).1 h1)
  rw [← rdT_tk] at hT
  replace hg1 := Lib.hid hg1
  clear h1
  obtain ⟨k, hk⟩ : ∃ k, (rdLen most s).1 = k := ⟨_, rfl⟩
  rw [hk] at hT ⊢
  clear hk
  go_wp2_with fail
  refine hT.out.mono ?_
  clear hT
  rintro e2 w2 ⟨⟨a, n, c, rfl, hV⟩, h2, hg2⟩
  have hG := Lib.hid (grown_trans hg1.out hg2)
  have hcv := conv_bv (hV.mono ((hM.trans (sub_of_grown hG.out)).trans (but_sub _ _)))
  replace h2 := Lib.hid h2
  clear hV hg2
  obtain ⟨t, ht⟩ : ∃ t, Hid ((rdT most s).1 = t) := ⟨_, Lib.hid rfl⟩
  rw [ht.out] at hcv
  go_wp2
  go_ret
  exact ⟨by rw [ht.out]; rfl, h2.out, hG.out⟩

end Go.Proofs.YtamkmdlfhlbbeaaGreatDoor.wire

namespace Go.Proofs.YtamkmdlfhlbbeaaGreatDoor.wire
open Go.RowKit Go.Proofs.YtamkmdlfhlbbeaaGreatDoor Go.Proofs.YtamkmdlfhlbbeaaGreatDoor.schema Go.Proofs.YtamkmdlfhlbbeaaGreatDoor.value Go.Proofs.YtamkmdlfhlbbeaaGreatDoor.text Go.Proofs.YtamkmdlfhlbbeaaGreatDoor.clause Go.Proofs.YtamkmdlfhlbbeaaGreatDoor.subj

theorem bv_of_bs {B : Nat} {v : Value} {l : List UInt8} {w : World} (h : BS B v l w) : BV w.cell? v l :=
  rows_of_owns h.out (l.map byteRow) (by simp) (byte_rows l) (byte_flat l).symm
theorem bs_form {B : Nat} {v : Value} {l : List UInt8} {w : World} (h : BS B v l w) : ∃ a c, v = .slice a l.length c := (bv_of_bs h).form
theorem bs_low {B B' : Nat} {v : Value} {l : List UInt8} {w : World} (h : BS B v l w) (hb : B' ≤ B) : BS B' v l w := by
  have ho := h.out
  refine ⟨ho.1, ?_⟩
  rcases ho.2 with h1 | ⟨g, cap, cur, h1, h2, h3⟩
  · exact Or.inl h1
  · exact Or.inr ⟨g, cap, cur, h1, by omega, h3⟩
theorem bs_blk {B : Nat} {v : Value} {l : List UInt8} {w : World} (h : BS B v l w) : ∀ k, v.ownBlock = some k → B ≤ k ∧ k < w.heap.size := h.out.lt
theorem below_own {B : Nat} {v : Value} {l : List UInt8} {w w' : World} (h : BS B v l w) (hB : B ≤ w.heap.size) (g : w.grownBy w' v.ownBlock) : Below B w w' :=
  (Below.refl B w).grown g hB (fun k hk => (bs_blk h k hk).1)

/-- 'append(b, c...)' of bytes that lie somewhere, be they none. -/
theorem wpList_append_bytes {ops : Array Oper} {rest : List Oper} {o : Oper} {a : Act} {Q : Exit → Act → World → Prop} {w : World} (hgd : o.guard = none) (s x : Operand)
    (ho : o.op = .call { callee := .builtin .append, args := #[s, x], argTypes := #[25, 25] })
    (B : Nat) (va : Option Addr) (n vc : Nat) (l : List UInt8) (hs : a.eval s = .slice va n vc) (hown : BS B (.slice va n vc) l w) (hn : n = l.length)
    (sa : Option Addr) (m c : Nat) (l2 : List UInt8) (hx : a.eval x = .slice sa m c) (hR : BV w.cell? (.slice sa m c) l2)
    (hl : n + m ≤ 140737488355328) (hB : B ≤ w.heap.size)
    (h : ∀ va' vc' w', BS B (.slice va' (n + m) vc') (l ++ l2) w' → n + m = (l ++ l2).length → Below B w w' → wpList Tryz.prog ops Q rest (a.put o.dst (.slice va' (n + m) vc')) w') :
    wpList Tryz.prog ops Q (o :: rest) a w := by
  subst hn
  have hm := hR.len.1
  subst hm
  obtain ⟨i0, hi, hz0, hz1, hz2⟩ := info_parts infoByte
  refine wpList_append_rows hgd s x _ ho B 5 i0 (.int .u8 0) 1 1 Tryz.underlying25 hi hz0 hz1 hz2 rfl (by decide) (.slice va l.length vc) l.length (Lib.byteCells l) hs hown.out sa l2.length c (l2.map byteRow) w.cell? hx hR.rows (fun _ _ e => e) (byte_rows l2) (byte_one' l2) (by unfold maxLen; omega) (by omega) hB ?_
  intro v' w' h2 h3
  have e1 : Lib.byteCells l ++ (l2.map byteRow).flatten = Lib.byteCells (l ++ l2) := by rw [byte_flat]; simp [Lib.byteCells]
  have e2 : l.length + l2.length = (l ++ l2).length := by simp
  rw [e1] at h2
  have hbs : BS B v' (l ++ l2) w' := by
    show w'.ownsRow B _ 1 _ (l ++ l2).length (Lib.byteCells (l ++ l2))
    rw [← e2]
    exact h2
  obtain ⟨va', vc', rfl⟩ := bs_form hbs
  have hb := below_own hown hB h3
  rw [← e2] at hbs ⊢
  exact h va' vc' w' hbs e2 hb
/-- 'append(b, s...)' of a text. -/
theorem wpList_append_text {ops : Array Oper} {rest : List Oper} {o : Oper} {a : Act} {Q : Exit → Act → World → Prop} {w : World} (hgd : o.guard = none) (s x : Operand)
    (ho : o.op = .call { callee := .builtin .append, args := #[s, x], argTypes := #[25, 9] })
    (B : Nat) (va : Option Addr) (n vc : Nat) (l : List UInt8) (hs : a.eval s = .slice va n vc) (hown : BS B (.slice va n vc) l w) (hn : n = l.length)
    (t : ByteArray) (hx : a.eval x = .string t)
    (hl : n + t.size ≤ 140737488355328) (hB : B ≤ w.heap.size)
    (h : ∀ va' vc' w', BS B (.slice va' (n + t.size) vc') (l ++ t.data.toList) w' → n + t.size = (l ++ t.data.toList).length → Below B w w' → wpList Tryz.prog ops Q rest (a.put o.dst (.slice va' (n + t.size) vc')) w') :
    wpList Tryz.prog ops Q (o :: rest) a w := by
  subst hn
  obtain ⟨i0, hi, hz0, hz1, hz2⟩ := info_parts infoByte
  refine Lib.wpList_append_own_string w hgd s x _ _ ho B 5 i0 Tryz.underlying25 Tryz.underlying9 hi hz0 hz1 hz2 (.slice va l.length vc) l.length (Lib.byteCells l) hs hown.out t hx (by unfold maxLen; omega) hl hB ?_
  intro v' w' h2 h3 _
  have e0 : t.data.toList.length = t.size := by simp
  have e1 : Lib.byteCells l ++ Lib.strCells t = Lib.byteCells (l ++ t.data.toList) := by simp [Lib.byteCells, Lib.strCells]
  have e2 : l.length + t.size = (l ++ t.data.toList).length := by simp
  rw [e1] at h2
  have hbs : BS B v' (l ++ t.data.toList) w' := by
    show w'.ownsRow B _ 1 _ (l ++ t.data.toList).length (Lib.byteCells (l ++ t.data.toList))
    rw [← e2]
    exact h2
  obtain ⟨va', vc', rfl⟩ := bs_form hbs
  have hb := below_own hown hB h3
  rw [← e2] at hbs ⊢
  exact h va' vc' w' hbs e2 hb

end Go.Proofs.YtamkmdlfhlbbeaaGreatDoor.wire

namespace Go.Proofs.YtamkmdlfhlbbeaaGreatDoor.wire
open Go.RowKit Go.Proofs.YtamkmdlfhlbbeaaGreatDoor Go.Proofs.YtamkmdlfhlbbeaaGreatDoor.draw Go.Proofs.YtamkmdlfhlbbeaaGreatDoor.text

/-- Bytes of the call's own come out. -/
def OutB (B : Nat) (l : List UInt8) (e : Ending) (w : World) : Prop := ∃ a n c, e = .returned (.slice a n c) ∧ n = l.length ∧ BS B (.slice a n c) l w

set_option maxRecDepth 100000 in
set_option maxHeartbeats 4000000 in
theorem own_any (a a' : Option Addr) (n c n' c' : Nat) (l l2 : List UInt8) (w : World) (h : BV w.cell? (.slice a n c) l) (h2 : BV w.cell? (.slice a' n' c') l2) (hl : n + n' ≤ 1099511627776) :
    Calls Tryz.prog 97 #[.slice a n c, .slice a' n' c'] w fun e w' => OutB w.heap.size (l ++ l2) e w' ∧ Below w.heap.size w w' := by
  have hn := h.len.1
  have hn' := h2.len.1
  replace h := Lib.hid h
  replace h2 := Lib.hid h2
  replace hn := Lib.hid hn
  replace hn' := Lib.hid hn'
  obtain ⟨i0, hi, hz0, hz1, hz2⟩ := info_parts infoByte
  go_enter Tryz.func97, Tryz.ntmps97
  go_wp2_with (at_make; refine wpList_make_own _ rfl _ _ 25 rfl w.heap.size 5 i0 (.int .u8 0) 1 Tryz.underlying25 hi hz0 hz1 _ _ _ (n + n') rfl rfl (by simp) ?b2 ?b3 (Nat.le_refl _) ?_)
  case b2 => rw [hz2]; omega
  case b3 => unfold maxLen; omega
  intro w0 hown0 hgrow0
  have hb0 : Below w.heap.size w w0 := ⟨hgrow0.os, hgrow0.tape, hgrow0.output, hgrow0.size, fun k hk => hgrow0.block k hk (by simp)⟩
  have hs0 := hb0.size
  have hB0 := Lib.hid (show BS w.heap.size (.slice (some ⟨w.heap.size, 0, none⟩) 0 (n + n')) [] w0 from hown0)
  have hV := Lib.hid (h.out.mono (sub_of_below hb0))
  replace hb0 := Lib.hid hb0
  clear hown0 hgrow0
  go_wp2_with (first
    | (at_builtin; refine wpList_append_bytes rfl _ _ rfl w.heap.size _ 0 _ [] rfl hB0.out rfl a n c l rfl hV.out (by omega) (by omega) ?_; intro va vc w1 hB1 hl1 hb1; simp only [Nat.zero_add, List.nil_append] at hB1 hl1 ⊢; have hb2 := Lib.hid (hb0.out.trans hb1); have hs1 := hb2.out.size; have hV2 := Lib.hid (h2.out.mono (sub_of_below hb2.out)); replace hB1 := Lib.hid hB1; replace hl1 := Lib.hid hl1; clear hb1 hV hB0)
    | (at_builtin; refine wpList_append_bytes rfl _ _ rfl w.heap.size _ n _ l rfl hB1.out hl1.out a' n' c' l2 rfl hV2.out (by omega) (by omega) ?_; intro va2 vc2 w2 hB3 hl3 hb3; have hb4 := Lib.hid (hb2.out.trans hb3); replace hB3 := Lib.hid hB3; replace hl3 := Lib.hid hl3; clear hb3))
  go_ret
  exact ⟨⟨_, _, _, rfl, hl3.out, hB3.out⟩, hb4.out⟩

end Go.Proofs.YtamkmdlfhlbbeaaGreatDoor.wire

namespace Go.Proofs.YtamkmdlfhlbbeaaGreatDoor.wire
open Go.RowKit Go.Proofs.YtamkmdlfhlbbeaaGreatDoor Go.Proofs.YtamkmdlfhlbbeaaGreatDoor.draw Go.Proofs.YtamkmdlfhlbbeaaGreatDoor.text Go.Proofs.YtamkmdlfhlbbeaaGreatDoor.subj

set_option maxRecDepth 100000 in
set_option maxHeartbeats 4000000 in
theorem groups_any (n : Int) (w : World) (h1 : -9223372036854775808 ≤ n) (h2 : n ≤ 9223372036854775807) :
    Calls Tryz.prog 104 #[.int .i64 n] w fun e w' => OutB w.heap.size (putN n) e w' ∧ Below w.heap.size w w' := by
  have hZ := zz_bits h1 h2
  have hz := Lib.hid (zz_lt h1 (by omega))
  unfold putN
  generalize zz n = z at hZ hz
  go_enter Tryz.func104, Tryz.ntmps104
  go_wp2
  clear hZ
  go_loopw [3, 4] (fun s3 s4 wr => ∃ (u : Nat) (va : Option Addr) (m vc : Nat) (acc : List UInt8), s3 = .int .u64 u ∧ s4 = .slice va m vc ∧ Hid (m = acc.length ∧ acc ++ grp u = grp z) ∧ Hid (BS w.heap.size (.slice va m vc) acc wr) ∧ Hid (Below w.heap.size w wr)) (fun s3 _ _ => (intOf s3).toNat)
  case atStart => exact ⟨z, none, 0, 0, [], rfl, rfl, Lib.hid ⟨rfl, rfl⟩, Lib.hid (bs_nil _ _), Lib.hid (Below.refl _ _)⟩
  case round =>
    obtain ⟨u, va, m, vc, acc, rfl, rfl, hA, hB, hb⟩ := hrel
    have hm := hA.out.1
    have hG := hA.out.2
    have hfew : m ≤ 9 := by
      have h3 := grp_few hz.out
      have h4 := grp_pos u
      rw [← hG, List.length_append] at h3
      omega
    have hs0 := hb.out.size
    replace hm := Lib.hid hm
    by_cases hlt : u < 128
    · have hu : ¬ (128 : Int) ≤ (u : Int) := by omega
      have hE := Lib.hid (show acc ++ [UInt8.ofNat u] = grp z by rw [← hG, grp_lt hlt])
      have hc := byte_last hlt
      clear hG
      replace hA := Lib.hid hA
      go_wp2_with (at_builtin; refine wpList_append_byte rfl _ _ rfl w.heap.size va m vc acc (UInt8.ofNat u) rfl hB.out hm.out rfl rfl (by omega) (by omega) ?_; intro g cap w2 hB2 hb2 hlt2; replace hB2 := Lib.hid hB2; have hb3 := Lib.hid (hb.out.trans hb2); clear hb2)
      go_ret
      exact ⟨⟨_, _, _, rfl, by rw [← hE.out, List.length_append, ← hm.out]; rfl, by rw [← hE.out]; exact hB2.out⟩, hb3.out⟩
    · have hu : (128 : Int) ≤ (u : Int) := by omega
      have hE := Lib.hid (show (acc ++ [UInt8.ofNat (u % 128 + 128)]) ++ grp (u / 128) = grp z by rw [← hG, grp_ge hlt]; simp)
      have hc := byte_more' u
      clear hG
      replace hA := Lib.hid hA
      go_wp2_with (at_builtin; refine wpList_append_byte rfl _ _ rfl w.heap.size va m vc acc (UInt8.ofNat (u % 128 + 128)) rfl hB.out hm.out rfl rfl (by omega) (by omega) ?_; intro g cap w2 hB2 hb2 hlt2; replace hB2 := Lib.hid hB2; have hb3 := Lib.hid (hb.out.trans hb2); clear hb2)
      refine ⟨⟨u / 128, _, _, _, acc ++ [UInt8.ofNat (u % 128 + 128)], by simp, rfl, Lib.hid ⟨by rw [List.length_append, ← hm.out]; rfl, hE.out⟩, hB2, hb3⟩, ?_⟩
      simp only [intOf]
      omega

theorem put_bytes {B : Nat} {l : List UInt8} {e : Ending} {w : World} (h : OutB B l e w) : ∃ a n c, e = .returned (.slice a n c) ∧ n = l.length ∧ BV w.cell? (.slice a n c) l := by
  obtain ⟨a, n, c, h1, h2, h3⟩ := h
  exact ⟨a, n, c, h1, h2, bv_of_bs h3⟩
theorem OutB.low {B B' : Nat} {l : List UInt8} {e : Ending} {w : World} (h : OutB B l e w) (hb : B' ≤ B) : OutB B' l e w := by
  obtain ⟨a, n, c, h1, h2, h3⟩ := h
  exact ⟨a, n, c, h1, h2, bs_low h3 hb⟩

set_option maxRecDepth 100000 in
set_option maxHeartbeats 4000000 in
theorem putN_any (a : Option Addr) (m c : Nat) (l : List UInt8) (n : Int) (w : World) (h : BV w.cell? (.slice a m c) l) (hm : m ≤ 1073741824) (h1 : -9223372036854775808 ≤ n) (h2 : n ≤ 9223372036854775807) :
    Calls Tryz.prog 68 #[.slice a m c, .int .i64 n] w fun e w' => OutB w.heap.size (l ++ putN n) e w' ∧ Below w.heap.size w w' := by
  have hG := Lib.hid (groups_any n w h1 h2)
  have hf := putN_few h1 (show n < 9223372036854775808 by omega)
  have hV := Lib.hid h
  clear h
  obtain ⟨L, hL⟩ : ∃ L, Hid (putN n = L) := ⟨_, Lib.hid rfl⟩
  rw [hL.out] at hf hG ⊢
  go_enter Tryz.func68, Tryz.ntmps68
  go_wp2_with fail
  refine hG.out.mono ?_
  clear hG
  rintro e w1 ⟨hO, hb1⟩
  have hs := hb1.size
  obtain ⟨a1, n1, c1, rfl, hn1, hV1⟩ := put_bytes hO
  have hw := Lib.hid (own_any a a1 m c n1 c1 l L w1 (hV.out.mono (sub_of_below hb1)) hV1 (by omega))
  replace hb1 := Lib.hid hb1
  clear hO hV1 hn1 hV
  go_wp2_with fail
  refine hw.out.mono ?_
  clear hw
  rintro e w2 ⟨⟨a2, n2, c2, rfl, hn2, hB2⟩, hb2⟩
  have hb3 := Lib.hid (hb1.out.trans (hb2.mono hs))
  replace hB2 := Lib.hid hB2
  replace hn2 := Lib.hid hn2
  clear hb2
  go_wp2
  go_ret
  exact ⟨⟨_, _, _, rfl, hn2.out, bs_low hB2.out hs⟩, hb3.out⟩

set_option maxRecDepth 100000 in
set_option maxHeartbeats 4000000 in
theorem putT_any (a : Option Addr) (m c : Nat) (l : List UInt8) (t : ByteArray) (w : World) (h : BV w.cell? (.slice a m c) l) (hm : m ≤ 1073741824) (ht : t.size ≤ 1073741824) :
    Calls Tryz.prog 69 #[.slice a m c, .string t] w fun e w' => OutB w.heap.size (l ++ putT t.data.toList) e w' ∧ Below w.heap.size w w' := by
  have hG := Lib.hid (groups_any (t.size : Int) w (by omega) (by omega))
  have hf := putN_few (n := (t.size : Int)) (by omega) (by omega)
  have hP : putT t.data.toList = putN (t.size : Int) ++ t.data.toList := by unfold putT; simp
  have hV := Lib.hid h
  clear h
  obtain ⟨L, hL⟩ : ∃ L, Hid (putN (t.size : Int) = L) := ⟨_, Lib.hid rfl⟩
  rw [hL.out] at hf hG hP
  rw [hP]
  clear hP
  go_enter Tryz.func69, Tryz.ntmps69
  go_wp2_with fail
  refine hG.out.mono ?_
  clear hG
  rintro e w1 ⟨⟨a1, n1, c1, rfl, hn1, hB1⟩, hb1⟩
  have hs := hb1.size
  have hn1' : n1 ≤ 10 := by omega
  replace hb1 := Lib.hid hb1
  replace hB1 := Lib.hid hB1
  replace hn1 := Lib.hid hn1
  go_wp2_with (at_builtin; refine wpList_append_text rfl _ _ rfl w.heap.size a1 n1 c1 L rfl hB1.out hn1.out t rfl (by omega) (by omega) ?_; intro va vc w2 hB2 hn2 hb2; have hb3 := Lib.hid (hb1.out.trans hb2); have hs2 := hb3.out.size; have hV2 := bv_of_bs hB2; have hw := Lib.hid (own_any a va m c (n1 + t.size) vc l (L ++ t.data.toList) w2 (hV.out.mono (sub_of_below hb3.out)) hV2 (by omega)); clear hb2 hB2 hn2 hV2)
  refine hw.out.mono ?_
  clear hw
  rintro e w3 ⟨⟨a2, n2, c2, rfl, hn2, hB2⟩, hb4⟩
  have hb5 := Lib.hid (hb3.out.trans (hb4.mono hs2))
  replace hB2 := Lib.hid hB2
  replace hn2 := Lib.hid hn2
  clear hb4
  go_wp2
  go_ret
  exact ⟨⟨_, _, _, rfl, hn2.out, bs_low hB2.out hs2⟩, hb5.out⟩

set_option maxRecDepth 100000 in
set_option maxHeartbeats 4000000 in
theorem new_any (a : Option Addr) (m c : Nat) (l : List UInt8) (w : World) (h : BV w.cell? (.slice a m c) l) (hm : m ≤ 1073741824) :
    Calls Tryz.prog 58 #[.slice a m c] w fun e w' => ∃ g, e = .returned (.pointer (some ⟨g, 0, none⟩)) ∧ w.heap.size ≤ g ∧ RdP (but g w') g w' (some l) ∧ Below w.heap.size w w' := by
  have hw := Lib.hid (own_any a none m c 0 0 l [] w h (BV.nil _) (by omega))
  clear h
  go_enter Tryz.func58, Tryz.ntmps58
  go_wp2_with fail
  refine hw.out.mono ?_
  clear hw
  rintro e w1 ⟨⟨a1, n1, c1, rfl, hn1, hB1⟩, hb1⟩
  rw [List.append_nil] at hn1 hB1
  have hs := hb1.size
  have hO := Lib.hid (Own.new w1 #[.slice a1 n1 c1, .int .i64 0] 132)
  have hV := Lib.hid (bv_of_bs hB1)
  have hbk := Lib.hid (bs_blk hB1)
  have hb2 := Lib.hid (hb1.alloc hs (.cells #[.slice a1 n1 c1, .int .i64 0] 132))
  clear hB1 hb1
  replace hn1 := Lib.hid hn1
  go_wp2
  go_ret
  refine ⟨_, rfl, hs, ⟨a1, n1, c1, hO.out, ?_⟩, hb2.out⟩
  have h0 := hV.out.mono (sub_of_below ((Below.refl w1.heap.size w1).alloc (Nat.le_refl _) (.cells #[.slice a1 n1 c1, .int .i64 0] 132)))
  refine rows_in (M := but w1.heap.size _) h0 (fun k hk p hp => ?_)
  have := (hbk.out k hk).2
  unfold but
  rw [if_neg (by omega)]


end Go.Proofs.YtamkmdlfhlbbeaaGreatDoor.wire
