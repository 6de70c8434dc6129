/- The readers of words: what they hold, said plainly, and the methods of the program's and of the reference's. -/
import Derived.Test.YtnghpjijfdpmkaaDoorMetN
import Derived.Test.YtnghpjijfdpmkaaDoorMetF
import Derived.Test.YtnghpjijfdpmkaaDoorMetM
namespace Go.Proofs.YtnghpjijfdpmkaaDoor.metric
open Go.RowKit Go.Proofs.YtnghpjijfdpmkaaDoor Go.Proofs.YtnghpjijfdpmkaaDoor.text

/-- Words that are left, and whether something was wrong. -/
abbrev WS := List ByteArray × Bool
def takeW (s : WS) : ByteArray := s.1.headD ⟨#[]⟩
def restW (s : WS) : WS := (s.1.tail, s.2 || s.1.isEmpty)
def needW (x : ByteArray) (s : WS) : WS := ((restW s).1, if takeW s = x then (restW s).2 else true)
def numV (s : WS) : Int := (parseS (takeW s).data.toList).1
def numR (s : WS) : WS := ((restW s).1, if (parseS (takeW s).data.toList).2 = 0 then (restW s).2 else true)
def hasB (x : ByteArray) (s : WS) : Bool := match s.1 with
  | [] => false
  | y :: _ => decide (y = x)
def hasR (x : ByteArray) (s : WS) : WS := if hasB x s = true then (s.1.tail, s.2) else s
/-- No word is long. -/
def Short (s : WS) : Prop := ∀ x ∈ s.1, x.size ≤ 140737488355328
theorem Short.take {s : WS} (h : Short s) : (takeW s).size ≤ 140737488355328 := by
  obtain ⟨l, b⟩ := s
  cases l with
  | nil => exact Nat.zero_le _
  | cons x r => exact h x (by simp)
theorem Short.rest {s : WS} (h : Short s) : Short (restW s) := fun x hx => h x (List.mem_of_mem_tail hx)

/-- A reader in its own block b, and blocks that are held beside it. -/
structure PS (w : World) (T : TypeId) (b : Nat) (S : WS) (L : List Blk) (u : World) : Prop where
  own : ∃ a c, Own u b #[.slice a S.1.length c, .bool S.2] T ∧ S.1.length ≤ c ∧ c ≤ 9223372036854775807 ∧
    (S.1 = [] ∨ ∃ blk off, a = some ⟨blk, off, none⟩ ∧ w.heap.size ≤ b ∧ blk < b ∧ (∀ p ∈ L, p.1 ≠ blk) ∧ ∀ i x, S.1[i]? = some x → u.cell? ⟨blk, off + i, none⟩ = some (.string x))
  base : w.heap.size ≤ b
  held : ∀ p ∈ L, Own u p.1 p.2.1 p.2.2 ∧ p.1 ≠ b ∧ w.heap.size ≤ p.1
  below : Below w.heap.size w u
  short : Short S
theorem PS.size {w u : World} {T : TypeId} {b : Nat} {S : WS} {L : List Blk} (h : PS w T b S L u) : b < u.heap.size := by
  obtain ⟨a, c, h1, -⟩ := h.own
  exact h1.lt
theorem PS.grow {w u v : World} {T : TypeId} {b : Nat} {S : WS} {L : List Blk} (h : PS w T b S L u) (hb : Below u.heap.size u v) : PS w T b S L v := by
  obtain ⟨a, c, h1, h2, h3, h4⟩ := h.own
  refine ⟨⟨a, c, h1.below hb h1.lt, h2, h3, ?_⟩, h.base, fun p hp => ⟨(h.held p hp).1.below hb (h.held p hp).1.lt, (h.held p hp).2⟩, h.below.trans (hb.mono h.below.size), h.short⟩
  rcases h4 with h4 | ⟨blk, off, h5, h6, h7, h8, h9⟩
  · exact Or.inl h4
  · exact Or.inr ⟨blk, off, h5, h6, h7, h8, fun i x hx => sub_of_below hb _ _ (h9 i x hx)⟩
/-- A store into the first block that is held. -/
theorem PS.put {w u : World} {T : TypeId} {b g : Nat} {S : WS} {A : Array Value} {t : TypeId} {L : List Blk} (h : PS w T b S ((g, A, t) :: L) u) (hL : ∀ p ∈ L, p.1 ≠ g) (i : Nat) (v : Value) :
    PS w T b S ((g, A.setIfInBounds i v, t) :: L) (u.setCell ⟨g, i, none⟩ v) := by
  obtain ⟨a, c, h1, h2, h3, h4⟩ := h.own
  obtain ⟨g1, g2, g3⟩ := h.held _ (List.mem_cons_self)
  refine ⟨⟨a, c, h1.setOther (by show b ≠ g; exact fun e => g2 e.symm) v, h2, h3, ?_⟩, h.base, fun p hp => ?_, h.below.setCell g3 _, h.short⟩
  · rcases h4 with h4 | ⟨blk, off, h5, h6, h7, h8, h9⟩
    · exact Or.inl h4
    · have hne : g ≠ blk := h8 _ (List.mem_cons_self)
      refine Or.inr ⟨blk, off, h5, h6, h7, fun p hp => ?_, fun i' x hx => ?_⟩
      · rcases List.mem_cons.1 hp with rfl | hp
        · exact hne
        · exact h8 p (List.mem_cons_of_mem _ hp)
      · exact (grown_setS u g i v).cell (h9 i' x hx) (by intro e; injection e with e; exact hne e.symm)
  · rcases List.mem_cons.1 hp with rfl | hp
    · exact ⟨g1.set i v, g2, g3⟩
    · have h5 := h.held p (List.mem_cons_of_mem _ hp)
      exact ⟨h5.1.setOther (hL p hp) v, h5.2⟩
/-- Some block behind the reader's has turned. -/
theorem PS.kept {w u v : World} {T : TypeId} {b r : Nat} {S : WS} {L : List Blk} (h : PS w T b S L u) (g : u.grownBy v (some r)) (hr : b < r) (hL : ∀ p ∈ L, p.1 ≠ r) : PS w T b S L v := by
  obtain ⟨a, c, h1, h2, h3, h4⟩ := h.own
  refine ⟨⟨a, c, h1.kept g (by intro e; injection e with e; omega), h2, h3, ?_⟩, h.base, fun p hp => ⟨(h.held p hp).1.kept g (by intro e; injection e with e; exact hL p hp e.symm), (h.held p hp).2⟩, h.below.trans (below_of_grown g h.below.size (by have := h.base; omega)), h.short⟩
  rcases h4 with h4 | ⟨blk, off, h5, h6, h7, h8, h9⟩
  · exact Or.inl h4
  · exact Or.inr ⟨blk, off, h5, h6, h7, h8, fun i x hx => g.cell (h9 i x hx) (by intro e; injection e with e; simp only at e; omega)⟩
/-- The reader's own cells. -/
theorem PS.cells {w u : World} {T : TypeId} {b : Nat} {S : WS} {L : List Blk} (h : PS w T b S L u) :
    (S.1 = [] ∧ ∃ a c, u.cell? ⟨b, 0, none⟩ = some (.slice a 0 c)) ∨ ∃ x r blk off c, S.1 = x :: r ∧ r.length + 1 ≤ c ∧ c ≤ 9223372036854775807 ∧ u.cell? ⟨b, 0, none⟩ = some (.slice (some ⟨blk, off, none⟩) (r.length + 1) c) ∧ u.cell? ⟨blk, off, none⟩ = some (.string x) := by
  obtain ⟨a, c, h1, h2, h3, h4⟩ := h.own
  have c0 := h1.cell 0
  rcases h4 with h4 | ⟨blk, off, h5, h6, h7, h8, h9⟩
  · refine Or.inl ⟨h4, a, c, ?_⟩
    rw [c0, h4]
    rfl
  · cases hS : S.1 with
    | nil => exact Or.inl ⟨rfl, a, c, by rw [c0, hS]; rfl⟩
    | cons x r =>
      refine Or.inr ⟨x, r, blk, off, c, rfl, by rw [hS] at h2; exact h2, h3, ?_, ?_⟩
      · rw [c0, hS, h5]; rfl
      · exact h9 0 x (by rw [hS]; rfl)
theorem PS.flag {w u : World} {T : TypeId} {b : Nat} {S : WS} {L : List Blk} (h : PS w T b S L u) : u.cell? ⟨b, 1, none⟩ = some (.bool S.2) ∧ u.frozen? ⟨b, 0, none⟩ = false ∧ u.frozen? ⟨b, 1, none⟩ = false := by
  obtain ⟨a, c, h1, -⟩ := h.own
  exact ⟨h1.cell 1, h1.free 0, h1.free 1⟩
/-- The mark that something was wrong. -/
theorem PS.mark {w u : World} {T : TypeId} {b : Nat} {S : WS} {L : List Blk} (h : PS w T b S L u) : PS w T b (S.1, true) L (u.setCell ⟨b, 1, none⟩ (.bool true)) := by
  obtain ⟨a, c, h1, h2, h3, h4⟩ := h.own
  refine ⟨⟨a, c, h1.set 1 _, h2, h3, ?_⟩, h.base, fun p hp => ⟨(h.held p hp).1.setOther (h.held p hp).2.1 _, (h.held p hp).2⟩, h.below.setCell h.base _, h.short⟩
  rcases h4 with h4 | ⟨blk, off, h5, h6, h7, h8, h9⟩
  · exact Or.inl h4
  · exact Or.inr ⟨blk, off, h5, h6, h7, h8, fun i x hx => (grown_setS u b 1 _).cell (h9 i x hx) (by intro e; injection e with e; exact absurd e (Nat.ne_of_lt h7))⟩
/-- One word less. -/
theorem PS.step {w u : World} {T : TypeId} {b : Nat} {S : WS} {L : List Blk} {x : ByteArray} {r : List ByteArray} {blk off c : Nat} (h : PS w T b S L u) (hS : S.1 = x :: r) (hc : u.cell? ⟨b, 0, none⟩ = some (.slice (some ⟨blk, off, none⟩) (r.length + 1) c)) (a' : Option Addr)
    (ha : r = [] ∨ a' = some ⟨blk, off + 1, none⟩) : PS w T b (r, S.2) L (u.setCell ⟨b, 0, none⟩ (.slice a' r.length (c - 1))) := by
  obtain ⟨a, c2, h1, h2, h3, h4⟩ := h.own
  have c0 := h1.cell 0
  rw [hc, hS] at c0
  injection c0 with c0
  injection c0 with e1 e2 e3
  subst e3
  rw [hS] at h2
  simp only [List.length_cons] at h2
  refine ⟨⟨a', c - 1, h1.set 0 _, by show r.length ≤ c - 1; omega, by omega, ?_⟩, h.base, fun p hp => ⟨(h.held p hp).1.setOther (h.held p hp).2.1 _, (h.held p hp).2⟩, h.below.setCell h.base _, fun y hy => h.short y (by rw [hS]; exact List.mem_cons_of_mem _ hy)⟩
  rcases ha with ha | ha
  · exact Or.inl ha
  · rcases h4 with h4 | ⟨blk', off', h5, h6, h7, h8, h9⟩
    · rw [hS] at h4; cases h4
    · rw [← e1] at h5
      injection h5 with h5
      injection h5 with h5 h5'
      subst h5 h5'
      refine Or.inr ⟨blk, off + 1, ha, h6, h7, h8, fun i y hy => ?_⟩
      have h10 := h9 (i + 1) y (by rw [hS]; exact hy)
      rw [show off + 1 + i = off + (i + 1) by omega]
      exact (grown_setS u b 0 _).cell h10 (by intro e; injection e with e; exact absurd e (Nat.ne_of_lt h7))
theorem PS.of {w u : World} {T : TypeId} {b : Nat} {S S' : WS} {L : List Blk} (h : PS w T b S L u) (e : S = S') : PS w T b S' L u := e ▸ h
theorem restW_nil {S : WS} (h : S.1 = []) : restW S = (S.1, true) ∧ takeW S = ⟨#[]⟩ := by
  unfold restW takeW
  rw [h]
  exact ⟨by simp, rfl⟩
theorem restW_cons {S : WS} {x : ByteArray} {r : List ByteArray} (h : S.1 = x :: r) : restW S = (r, S.2) ∧ takeW S = x := by
  unfold restW takeW
  rw [h]
  exact ⟨by simp, rfl⟩
/-- What taking a word leaves. -/
def TakenIs (w : World) (T : TypeId) (b : Nat) (S : WS) (L : List Blk) (e : Ending) (u : World) : Prop := e = .returned (.string (takeW S)) ∧ PS w T b (restW S) L u
def NeedIs (w : World) (T : TypeId) (b : Nat) (x : ByteArray) (S : WS) (L : List Blk) (e : Ending) (u : World) : Prop := e = .returned (.tuple #[]) ∧ PS w T b (needW x S) L u
def NumIs (w : World) (T : TypeId) (b : Nat) (S : WS) (L : List Blk) (e : Ending) (u : World) : Prop := e = .returned (.int .i64 (numV S)) ∧ PS w T b (numR S) L u
def HasIs (w : World) (T : TypeId) (b : Nat) (x : ByteArray) (S : WS) (L : List Blk) (e : Ending) (u : World) : Prop := e = .returned (.bool (hasB x S)) ∧ PS w T b (hasR x S) L u
theorem bytes_eqB {a b : ByteArray} (h : a = b) : (a.toList == b.toList) = true := by rw [h]; simp
theorem bytes_ne {a b : ByteArray} (h : ¬ a = b) : ¬ a.toList = b.toList := by
  intro e
  apply h
  rw [ByteArray.toList_eq, ByteArray.toList_eq] at e
  cases a; cases b
  simp only at e
  congr
  exact Array.toList_inj.1 e
theorem bytes_neB {a b : ByteArray} (h : ¬ a = b) : (a.toList == b.toList) = false := by simpa using bytes_ne h
theorem numv_ways (x : ByteArray) : ∃ n e : Int, Hid (parseV x.data.toList = .tuple #[.int .i64 n, .int .i64 e]) ∧ Hid (n = (parseS x.data.toList).1) ∧ ((e = 0 ∧ Hid ((parseS x.data.toList).2 = 0)) ∨ ((e != 0) = true ∧ Hid (¬ (parseS x.data.toList).2 = 0))) := by
  refine ⟨_, _, rfl, rfl, ?_⟩
  by_cases h : (parseS x.data.toList).2 = 0
  · exact Or.inl ⟨h, h⟩
  · exact Or.inr ⟨by simpa using h, h⟩


set_option maxRecDepth 100000 in
set_option maxHeartbeats 4000000 in
theorem next_p {w u : World} {b : Nat} {S : WS} {L : List Blk} (h : PS w 70 b S L u) : Calls Tryd.prog 35 #[.pointer (some ⟨b, 0, none⟩)] u (TakenIs w 70 b S L) := by
  obtain ⟨f1, f2, f3⟩ := h.flag
  rcases h.cells with ⟨hS, a, c, h0⟩ | ⟨x, r, blk, off, c, hS, hc1, hc2, h0, hx⟩
  · have hE := Lib.hid (restW_nil hS)
    replace h := Lib.hid h
    replace hS := Lib.hid hS
    go_enter Tryd.func35, Tryd.ntmps35
    go_wp2
    go_ret
    exact ⟨by rw [hE.out.2]; rfl, h.out.mark.of hE.out.1.symm⟩
  · have hE := Lib.hid (restW_cons hS)
    replace h := Lib.hid h
    replace hS := Lib.hid hS
    have n0 : ¬ (r.length : Int) + 1 = 0 := by omega
    have n1 : (0 : Int) < (r.length : Int) + 1 := by omega
    rcases Nat.lt_or_ge 1 c with h1 | h1
    · have h1' : ¬ c = 1 := by omega
      go_enter Tryd.func35, Tryd.ntmps35
      go_wp2
      go_ret
      exact ⟨by rw [hE.out.2]; rfl, (h.out.step hS.out h0 _ (Or.inr rfl)).of hE.out.1.symm⟩
    · obtain rfl : c = 1 := by omega
      obtain rfl : r = [] := List.eq_nil_of_length_eq_zero (by omega)
      go_enter Tryd.func35, Tryd.ntmps35
      go_wp2
      go_ret
      exact ⟨by rw [hE.out.2]; rfl, (h.out.step hS.out h0 _ (Or.inl rfl)).of hE.out.1.symm⟩

set_option maxRecDepth 100000 in
set_option maxHeartbeats 4000000 in
theorem need_p {w u : World} {b : Nat} {S : WS} {L : List Blk} (x : ByteArray) (h : PS w 70 b S L u) : Calls Tryd.prog 37 #[.pointer (some ⟨b, 0, none⟩), .string x] u (NeedIs w 70 b x S L) := by
  replace h := Lib.hid h
  go_enter Tryd.func37, Tryd.ntmps37
  go_wp2_with fail
  refine (next_p h.out).mono ?_
  rintro e u1 ⟨rfl, h1⟩
  clear h
  obtain ⟨f1, f2, f3⟩ := h1.flag
  by_cases hx : takeW S = x
  · have hE := Lib.hid (show restW S = needW x S by unfold needW; rw [if_pos hx])
    have h2 := bytes_eqB hx
    replace h1 := Lib.hid h1
    clear hx
    go_wp2
    go_end0
    exact ⟨rfl, h1.out.of hE.out⟩
  · have hE := Lib.hid (show ((restW S).1, true) = needW x S by unfold needW; rw [if_neg hx])
    have h2 := bytes_neB hx
    replace h1 := Lib.hid h1
    clear hx
    go_wp2
    go_end0
    exact ⟨rfl, h1.out.mark.of hE.out⟩

set_option maxRecDepth 100000 in
set_option maxHeartbeats 4000000 in
theorem number_p {w u : World} {b : Nat} {S : WS} {L : List Blk} (h : PS w 70 b S L u) (hT : NTabs w) : Calls Tryd.prog 38 #[.pointer (some ⟨b, 0, none⟩)] u (NumIs w 70 b S L) := by
  have hsh := Lib.hid h.short.take
  replace h := Lib.hid h
  replace hT := Lib.hid hT
  obtain ⟨n, e0, hv, hn, hw⟩ := numv_ways (takeW S)
  go_enter Tryd.func38, Tryd.ntmps38
  go_wp2_with fail
  refine (next_p h.out).mono ?_
  rintro e u1 ⟨rfl, h1⟩
  clear h
  replace h1 := Lib.hid h1
  go_wp2_with fail
  refine (parse_m (takeW S) _ hsh.out (hT.out.below h1.out.below)).mono ?_
  rintro e u2 ⟨rfl, hb⟩
  rw [hv.out]
  replace h1 := Lib.hid (h1.out.grow hb); clear hb
  obtain ⟨f1, f2, f3⟩ := h1.out.flag
  rcases hw with ⟨rfl, hw⟩ | ⟨he, hw⟩
  · have hE := Lib.hid (show restW S = numR S by unfold numR; rw [if_pos hw.out])
    go_wp2
    go_ret
    exact ⟨by rw [hn.out]; rfl, h1.out.of hE.out⟩
  · have hE := Lib.hid (show ((restW S).1, true) = numR S by unfold numR; rw [if_neg hw.out])
    go_wp2
    go_ret
    exact ⟨by rw [hn.out]; rfl, h1.out.mark.of hE.out⟩

set_option maxRecDepth 100000 in
set_option maxHeartbeats 4000000 in
theorem next_r {w u : World} {b : Nat} {S : WS} {L : List Blk} (h : PS w 83 b S L u) : Calls Tryd.prog 41 #[.pointer (some ⟨b, 0, none⟩)] u (TakenIs w 83 b S L) := by
  obtain ⟨f1, f2, f3⟩ := h.flag
  rcases h.cells with ⟨hS, a, c, h0⟩ | ⟨x, r, blk, off, c, hS, hc1, hc2, h0, hx⟩
  · have hE := Lib.hid (restW_nil hS)
    replace h := Lib.hid h
    replace hS := Lib.hid hS
    go_enter Tryd.func41, Tryd.ntmps41
    go_wp2
    go_ret
    exact ⟨by rw [hE.out.2]; rfl, h.out.mark.of hE.out.1.symm⟩
  · have hE := Lib.hid (restW_cons hS)
    replace h := Lib.hid h
    replace hS := Lib.hid hS
    have n0 : ¬ (r.length : Int) + 1 = 0 := by omega
    have n1 : (0 : Int) < (r.length : Int) + 1 := by omega
    rcases Nat.lt_or_ge 1 c with h1 | h1
    · have h1' : ¬ c = 1 := by omega
      go_enter Tryd.func41, Tryd.ntmps41
      go_wp2
      go_ret
      exact ⟨by rw [hE.out.2]; rfl, (h.out.step hS.out h0 _ (Or.inr rfl)).of hE.out.1.symm⟩
    · obtain rfl : c = 1 := by omega
      obtain rfl : r = [] := List.eq_nil_of_length_eq_zero (by omega)
      go_enter Tryd.func41, Tryd.ntmps41
      go_wp2
      go_ret
      exact ⟨by rw [hE.out.2]; rfl, (h.out.step hS.out h0 _ (Or.inl rfl)).of hE.out.1.symm⟩

set_option maxRecDepth 100000 in
set_option maxHeartbeats 4000000 in
theorem need_r {w u : World} {b : Nat} {S : WS} {L : List Blk} (x : ByteArray) (h : PS w 83 b S L u) : Calls Tryd.prog 42 #[.pointer (some ⟨b, 0, none⟩), .string x] u (NeedIs w 83 b x S L) := by
  replace h := Lib.hid h
  go_enter Tryd.func42, Tryd.ntmps42
  go_wp2_with fail
  refine (next_r h.out).mono ?_
  rintro e u1 ⟨rfl, h1⟩
  clear h
  obtain ⟨f1, f2, f3⟩ := h1.flag
  by_cases hx : takeW S = x
  · have hE := Lib.hid (show restW S = needW x S by unfold needW; rw [if_pos hx])
    have h2 := bytes_eqB hx
    replace h1 := Lib.hid h1
    clear hx
    go_wp2
    go_end0
    exact ⟨rfl, h1.out.of hE.out⟩
  · have hE := Lib.hid (show ((restW S).1, true) = needW x S by unfold needW; rw [if_neg hx])
    have h2 := bytes_neB hx
    replace h1 := Lib.hid h1
    clear hx
    go_wp2
    go_end0
    exact ⟨rfl, h1.out.mark.of hE.out⟩

set_option maxRecDepth 100000 in
set_option maxHeartbeats 4000000 in
theorem number_r {w u : World} {b : Nat} {S : WS} {L : List Blk} (h : PS w 83 b S L u) : Calls Tryd.prog 43 #[.pointer (some ⟨b, 0, none⟩)] u (NumIs w 83 b S L) := by
  have hsh := Lib.hid h.short.take
  replace h := Lib.hid h

  obtain ⟨n, e0, hv, hn, hw⟩ := numv_ways (takeW S)
  go_enter Tryd.func43, Tryd.ntmps43
  go_wp2_with fail
  refine (next_r h.out).mono ?_
  rintro e u1 ⟨rfl, h1⟩
  clear h
  replace h1 := Lib.hid h1
  go_wp2_with fail
  refine (parse_ref (takeW S) _ (by have := hsh.out; unfold maxLen; omega)).mono ?_
  rintro e u2 ⟨rfl, rfl⟩
  rw [hv.out]
  skip
  obtain ⟨f1, f2, f3⟩ := h1.out.flag
  rcases hw with ⟨rfl, hw⟩ | ⟨he, hw⟩
  · have hE := Lib.hid (show restW S = numR S by unfold numR; rw [if_pos hw.out])
    go_wp2
    go_ret
    exact ⟨by rw [hn.out]; rfl, h1.out.of hE.out⟩
  · have hE := Lib.hid (show ((restW S).1, true) = numR S by unfold numR; rw [if_neg hw.out])
    go_wp2
    go_ret
    exact ⟨by rw [hn.out]; rfl, h1.out.mark.of hE.out⟩

theorem has_ways (x : ByteArray) (S : WS) : (S.1 = [] ∧ Hid (hasB x S = false) ∧ Hid (hasR x S = S)) ∨ (∃ r, S.1 = x :: r ∧ Hid (hasB x S = true) ∧ Hid (hasR x S = (r, S.2))) ∨ (∃ y r, S.1 = y :: r ∧ ¬ y = x ∧ Hid (hasB x S = false) ∧ Hid (hasR x S = S)) := by
  cases hS : S.1 with
  | nil =>
    have e : hasB x S = false := by unfold hasB; rw [hS]
    exact Or.inl ⟨rfl, e, by show _ = _; unfold hasR; rw [if_neg (by rw [e]; decide)]⟩
  | cons y r =>
    by_cases hy : y = x
    · subst hy
      have e : hasB y S = true := by unfold hasB; rw [hS]; simp
      exact Or.inr (Or.inl ⟨r, rfl, e, by show _ = _; unfold hasR; rw [if_pos e, hS]; rfl⟩)
    · have e : hasB x S = false := by unfold hasB; rw [hS]; simp [hy]
      exact Or.inr (Or.inr ⟨y, r, rfl, hy, e, by show _ = _; unfold hasR; rw [if_neg (by rw [e]; decide)]⟩)

set_option maxRecDepth 100000 in
set_option maxHeartbeats 4000000 in
theorem has_p {w u : World} {b : Nat} {S : WS} {L : List Blk} (x : ByteArray) (h : PS w 70 b S L u) : Calls Tryd.prog 39 #[.pointer (some ⟨b, 0, none⟩), .string x] u (HasIs w 70 b x S L) := by
  obtain ⟨f1, f2, f3⟩ := h.flag
  rcases has_ways x S with ⟨hS, hB, hR⟩ | ⟨r, hS, hB, hR⟩ | ⟨y, r, hS, hy, hB, hR⟩
  · rcases h.cells with ⟨-, a, c, h0⟩ | ⟨x', r', blk, off, c, hS', -⟩
    · replace h := Lib.hid h
      replace hS := Lib.hid hS
      go_enter Tryd.func39, Tryd.ntmps39
      go_wp2
      go_ret
      exact ⟨by rw [hB.out]; rfl, h.out.of hR.out.symm⟩
    · rw [hS] at hS'; cases hS'
  · rcases h.cells with ⟨hS', -⟩ | ⟨x', r', blk, off, c, hS', hc1, hc2, h0, hx⟩
    · rw [hS] at hS'; cases hS'
    · rw [hS] at hS'
      injection hS' with e1 e2
      subst e1 e2
      replace h := Lib.hid h
      replace hS := Lib.hid hS
      have n0 : ¬ (r.length : Int) + 1 = 0 := by omega
      have n1 : (0 : Int) < (r.length : Int) + 1 := by omega
      rcases Nat.lt_or_ge 1 c with h1 | h1
      · have h1' : ¬ c = 1 := by omega
        go_enter Tryd.func39, Tryd.ntmps39
        go_wp2
        go_ret
        exact ⟨by rw [hB.out]; rfl, (h.out.step hS.out h0 _ (Or.inr rfl)).of hR.out.symm⟩
      · obtain rfl : c = 1 := by omega
        obtain rfl : r = [] := List.eq_nil_of_length_eq_zero (by omega)
        go_enter Tryd.func39, Tryd.ntmps39
        go_wp2
        go_ret
        exact ⟨by rw [hB.out]; rfl, (h.out.step hS.out h0 _ (Or.inl rfl)).of hR.out.symm⟩
  · rcases h.cells with ⟨hS', -⟩ | ⟨x', r', blk, off, c, hS', hc1, hc2, h0, hx⟩
    · rw [hS] at hS'; cases hS'
    · rw [hS] at hS'
      injection hS' with e1 e2
      subst e1 e2
      replace h := Lib.hid h
      replace hS := Lib.hid hS
      have n0 : ¬ (r.length : Int) + 1 = 0 := by omega
      have n1 : (0 : Int) < (r.length : Int) + 1 := by omega
      have hy2 := bytes_neB hy
      replace hy := Lib.hid hy
      go_enter Tryd.func39, Tryd.ntmps39
      go_wp2
      go_ret
      exact ⟨by rw [hB.out]; rfl, h.out.of hR.out.symm⟩

end Go.Proofs.YtnghpjijfdpmkaaDoor.metric

