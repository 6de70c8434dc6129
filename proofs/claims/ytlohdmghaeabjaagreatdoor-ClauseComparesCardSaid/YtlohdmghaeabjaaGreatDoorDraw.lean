/- Walks of the drawing functions of flagstonedraw: Mod, New, Left, Next. -/
import Derived.Test.YtlohdmghaeabjaaGreatDoorChecked
import Derived.Test.YtlohdmghaeabjaaGreatDoorBase
import Derived.WalkKit
import Derived.WalkSpells
import Derived.WalkLawsBesides
import Derived.Deep.QuietTactic
import Derived.BigQuiet
import Derived.Lib.Hide
namespace Go.Proofs.YtlohdmghaeabjaaGreatDoor.draw
open Go.RowKit

set_option maxHeartbeats 400000 in
theorem mod_any (x n : Int) (w : World) (hn : 1 ≤ n) (hn2 : n ≤ 4294967296) (_hx : -9223372036854775808 ≤ x) (_hx2 : x ≤ 9223372036854775807) :
    Calls Tryz.prog 15 #[.int .i64 x, .int .i64 n] w fun e w' => IntIn 0 n e ∧ w = w' := by
  have h1 : x.tmod n < n := Int.tmod_lt_of_pos x (by omega)
  have h2 : -n < x.tmod n := by have := Int.lt_tmod_of_pos x (show 0 < n by omega); omega
  go_enter Tryz.func15, Tryz.ntmps15
  go_wp2
  all_goals go_ret
  · exact ⟨⟨_, rfl, by omega, by omega⟩, rfl⟩
  · exact ⟨⟨_, rfl, by omega, by omega⟩, rfl⟩

/-- The codes' own block b: a list, and a place in it. -/
def HeadK (b : Nat) (a : Option Addr) (n c : Nat) (w : World) (k : Nat) : Prop := w.heap[b]? = some (.cells #[.slice a n c, .int .i64 k] 70 (0, 0)) ∧ k ≤ n
def Head (b : Nat) (a : Option Addr) (n c : Nat) (w : World) : Prop := ∃ k, HeadK b a n c w k
/-- The codes: their own block, and the bytes of the list. -/
def Codes (b : Nat) (a : Option Addr) (n c : Nat) (w : World) : Prop :=
  Head b a n c w ∧ n ≤ 1000 ∧ (n = 0 ∨ ∃ blk off, a = some ⟨blk, off, none⟩ ∧ ∀ i, i < n → ∃ u : Int, 0 ≤ u ∧ u ≤ 255 ∧ but b w ⟨blk, off + i, none⟩ = some (.int .u8 u))

theorem HeadK.own {b : Nat} {a : Option Addr} {n c : Nat} {w : World} {k : Nat} (h : HeadK b a n c w k) : Own w b #[.slice a n c, .int .i64 k] 70 := h.1
theorem Head.lt {b : Nat} {a : Option Addr} {n c : Nat} {w : World} (h : Head b a n c w) : b < w.heap.size := by
  obtain ⟨k, h⟩ := h
  exact h.own.lt
theorem Head.kept {b : Nat} {a : Option Addr} {n c : Nat} {w u : World} {r : Option Nat} (h : Head b a n c w) (g : w.grownBy u r) (hr : r ≠ some b) : Head b a n c u := by
  obtain ⟨k, h⟩ := h
  exact ⟨k, h.own.kept g hr, h.2⟩
theorem Head.below {b : Nat} {a : Option Addr} {n c : Nat} {w u : World} {B : Nat} (h : Head b a n c w) (g : Below B w u) (hB : b < B) : Head b a n c u := by
  obtain ⟨k, h⟩ := h
  exact ⟨k, h.own.below g hB, h.2⟩
theorem Head.alloc {b : Nat} {a : Option Addr} {n c : Nat} {w : World} (h : Head b a n c w) (o : Obj) : Head b a n c (w.alloc o) := h.kept (World.grownBy_alloc w o none) (by simp)
theorem Head.drewN {b : Nat} {a : Option Addr} {n c : Nat} {w : World} (h : Head b a n c w) (q : Nat) : Head b a n c (w.drewN q) := h
theorem Head.drew {b : Nat} {a : Option Addr} {n c : Nat} {w : World} (h : Head b a n c w) : Head b a n c w.drew := h
theorem Head.set {b : Nat} {a : Option Addr} {n c : Nat} {w : World} (h : Head b a n c w) {p : Addr} (hp : b ≠ p.block) (v : Value) : Head b a n c (w.setCell p v) := by
  obtain ⟨k, h⟩ := h
  exact ⟨k, h.own.setOther hp v, h.2⟩
theorem Codes.lt {b : Nat} {a : Option Addr} {n c : Nat} {w : World} (h : Codes b a n c w) : b < w.heap.size := h.1.lt
/-- The codes are codes still. -/
theorem Codes.still {b : Nat} {a : Option Addr} {n c : Nat} {w u : World} (h : Codes b a n c w) (g : w.grownBy u (some b)) (hh : Head b a n c u) : Codes b a n c u := by
  refine ⟨hh, h.2.1, ?_⟩
  rcases h.2.2 with h4 | ⟨blk, off, ha, h4⟩
  · exact Or.inl h4
  · refine Or.inr ⟨blk, off, ha, fun i hi => ?_⟩
    obtain ⟨x, h0, h1, h2⟩ := h4 i hi
    exact ⟨x, h0, h1, sub_of_grown g _ _ h2⟩
theorem Codes.below {b : Nat} {a : Option Addr} {n c : Nat} {w u : World} (h : Codes b a n c w) (g : Below w.heap.size w u) : Codes b a n c u := h.still (grown_of_below g _) (h.1.below g h.lt)
theorem Codes.alloc {b : Nat} {a : Option Addr} {n c : Nat} {w : World} (h : Codes b a n c w) (o : Obj) : Codes b a n c (w.alloc o) := h.still (World.grownBy_alloc w o _) (h.1.alloc o)

theorem Codes.drew {b : Nat} {a : Option Addr} {n c : Nat} {w : World} (h : Codes b a n c w) : Codes b a n c w.drew := h

set_option maxHeartbeats 400000 in
theorem left_any (b : Nat) (w : World) (a : Option Addr) (n c k : Nat) (h : HeadK b a n c w k) (_hn : n ≤ 1000) :
    Calls Tryz.prog 52 #[.pointer (some ⟨b, 0, none⟩)] w fun e w' => e = .returned (.bool (decide (k < n))) ∧ ∃ q, w' = w.drewN q := by
  have c0 := h.own.cell 0
  have c1 := h.own.cell 1
  obtain ⟨-, hk⟩ := h
  simp at c0 c1
  go_enter Tryz.func52, Tryz.ntmps52
  go_wp2
  go_quiet (fail)
  go_wp2
  go_ret
  exact ⟨rfl, _, rfl⟩

/-- What a draw does: something of a kind comes out, the codes' place has moved, nothing else has turned. -/
def Drawn (b : Nat) (a : Option Addr) (n c : Nat) (w : World) (P : Ending → World → Prop) (e : Ending) (w' : World) : Prop := P e w' ∧ Head b a n c w' ∧ w.grownBy w' (some b)

set_option maxHeartbeats 400000 in
theorem next_none (b : Nat) (w : World) (m : Int) (h0 : 1 ≤ m) (h1 : m ≤ 256) (a : Option Addr) (n c k : Nat) (h : HeadK b a n c w k) (hn : n ≤ 1000) (hlt : n ≤ k) :
    Calls Tryz.prog 19 #[.pointer (some ⟨b, 0, none⟩), .int .i64 m] w (Drawn b a n c w fun e _ => IntIn 0 m e) := by
  have hL : decide (k < n) = false := by simp; omega
  have hh := Lib.hid h
  clear h
  go_enter Tryz.func19, Tryz.ntmps19
  go_wp2_with (go_at_call 52; refine (left_any b _ a n c k hh.out hn).mono ?_; rintro e w' ⟨rfl, q, rfl⟩; rw [hL]; clear hL)
  go_ret
  exact ⟨⟨_, rfl, by omega, by omega⟩, ⟨_, hh.out⟩, grown_drewN _ _ _⟩

theorem HeadK.step {b : Nat} {w : World} {a : Option Addr} {n c k : Nat} (h : HeadK b a n c w k) (hk : k < n) : HeadK b a n c (w.setCell ⟨b, 1, none⟩ (.int .i64 ((k : Int) + 1))) (k + 1) := by
  have := h.own.set 1 (.int .i64 ((k : Int) + 1))
  exact ⟨this, hk⟩
theorem grown_setCell (w : World) (b o : Nat) (v : Value) : w.grownBy (w.setCell ⟨b, o, none⟩ v) (some b) :=
  ⟨rfl, rfl, rfl, by simp [World.setCell], fun k _ hne => Below.heap_setCell w ⟨b, o, none⟩ v k (by intro e; exact hne (by rw [e]))⟩

set_option maxHeartbeats 400000 in
theorem next_some (b : Nat) (w : World) (m : Int) (h0 : 1 ≤ m) (h1 : m ≤ 256) (a : Option Addr) (n c k : Nat) (h : HeadK b a n c w k) (hC : Codes b a n c w) (hlt : k < n) :
    Calls Tryz.prog 19 #[.pointer (some ⟨b, 0, none⟩), .int .i64 m] w (Drawn b a n c w fun e _ => IntIn 0 m e) := by
  have hL : decide (k < n) = true := by simp; omega
  have hh := Lib.hid h
  have c0 := h.own.cell 0
  have c1 := h.own.cell 1
  have f1 := h.own.free 1
  simp at c0 c1
  obtain ⟨-, hk⟩ := h
  obtain ⟨-, hn, hr⟩ := hC
  rcases hr with hr | ⟨blk, off, rfl, hr⟩
  · omega
  obtain ⟨u, hu0, hu1, hu⟩ := hr k hlt
  clear hr
  have hne : ¬ blk = b := by
    intro e; unfold but at hu; rw [if_pos e] at hu; cases hu
  have c2 := but_sub _ _ _ _ hu
  clear hu
  go_enter Tryz.func19, Tryz.ntmps19
  go_wp2_with (go_at_call 52; refine (left_any b _ _ n c k hh.out hn).mono ?_; rintro e w' ⟨rfl, q, rfl⟩; rw [hL]; clear hL)
  go_quiet (fail)
  go_wp2
  go_ret
  refine ⟨⟨_, rfl, Int.emod_nonneg _ (by omega), Int.emod_lt_of_pos _ (by omega)⟩, ⟨_, HeadK.step (w := w) hh.out hlt⟩, ?_⟩
  exact grown_trans (grown_drewN w q _) (grown_trans (grown_setCell _ _ _ _) (grown_drewN _ _ _))

theorem next_any (b : Nat) (a : Option Addr) (n c : Nat) (w : World) (m : Int) (h0 : 1 ≤ m) (h1 : m ≤ 256) (h : Codes b a n c w) :
    Calls Tryz.prog 19 #[.pointer (some ⟨b, 0, none⟩), .int .i64 m] w (Drawn b a n c w fun e _ => IntIn 0 m e) := by
  obtain ⟨k, hk⟩ := h.1
  by_cases hlt : k < n
  · exact next_some b w m h0 h1 a n c k hk h hlt
  · exact next_none b w m h0 h1 a n c k hk h.2.1 (by omega)

/-- A list of bytes as it came in. -/
def BytesAt (m : Mem) (a : Option Addr) (n c : Nat) : Prop :=
  n ≤ c ∧ c ≤ maxLen ∧ (n = 0 ∨ ∃ blk off, a = some ⟨blk, off, none⟩ ∧ ∀ i, i < n → ∃ u : Int, 0 ≤ u ∧ u ≤ 255 ∧ m ⟨blk, off + i, none⟩ = some (.int .u8 u))

theorem BytesAt.mono {m m' : Mem} (hs : Sub m m') {a : Option Addr} {n c : Nat} (h : BytesAt m a n c) : BytesAt m' a n c := by
  obtain ⟨h1, h2, h3⟩ := h
  refine ⟨h1, h2, ?_⟩
  rcases h3 with h3 | ⟨blk, off, ha, h3⟩
  · exact Or.inl h3
  · refine Or.inr ⟨blk, off, ha, fun i hi => ?_⟩
    obtain ⟨u, h4, h5, h6⟩ := h3 i hi
    exact ⟨u, h4, h5, hs _ _ h6⟩

theorem bytes_of_row {w : World} {a : Option Addr} {len cap : Nat} {zs : List Int} (h : IsRow .u8 w a len cap zs) : BytesAt w.cell? a len cap := by
  rcases h with ⟨rfl, rfl, rfl, -⟩ | ⟨x, rfl, hl, hm, hz, hc, hw⟩
  · exact ⟨Nat.le_refl _, by simp, Or.inl rfl⟩
  · refine ⟨hl, hm, ?_⟩
    by_cases h0 : len = 0
    · exact Or.inl h0
    have hs : x.spot = none := by
      have h1 := hc 0 (by omega)
      unfold World.cell? at h1
      cases hsp : x.spot with
      | none => rfl
      | some i =>
        exfalso
        have : ((x.add 0).spot.isSome) = true := by unfold Addr.add; split <;> simp_all
        split at h1
        · rw [if_pos this] at h1; cases h1
        · cases h1
    obtain ⟨blk, off, sp⟩ := x
    simp only at hs
    subst hs
    refine Or.inr ⟨blk, off, rfl, fun i hi => ?_⟩
    have h1 := hc i (by omega)
    have h2 : (zs.getD i 0) ∈ zs := by rw [List.getD_eq_getElem?_getD, List.getElem?_eq_getElem (by omega)]; exact List.getElem_mem _
    have h3 := hw _ h2
    have h4 : 0 ≤ zs.getD i 0 ∧ zs.getD i 0 ≤ 255 := by simpa [Lit.wf, IntKind.min, IntKind.max, IntKind.signed, IntKind.bits] using h3
    have e : (⟨blk, off, none⟩ : Addr).add i = ⟨blk, off + i, none⟩ := by unfold Addr.add; split <;> simp_all
    rw [e] at h1
    exact ⟨_, h4.1, h4.2, h1⟩

def Made (w : World) (e : Ending) (w' : World) : Prop := e = .returned (.pointer (some ⟨w.heap.size, 0, none⟩)) ∧ (∃ a n c, Codes w.heap.size a n c w') ∧ Below w.heap.size w w'

theorem codes_new (w : World) (a : Option Addr) (n c : Nat) (h : n ≤ 1000) (hr : n = 0 ∨ ∃ blk off, a = some ⟨blk, off, none⟩ ∧ ∀ i, i < n → ∃ u : Int, 0 ≤ u ∧ u ≤ 255 ∧ w.cell? ⟨blk, off + i, none⟩ = some (.int .u8 u)) :
    Codes w.heap.size a n c (w.alloc (.cells #[.slice a n c, .int .i64 0] 70)) := by
  refine ⟨⟨0, heap_alloc_new w _, Nat.zero_le _⟩, h, ?_⟩
  rcases hr with hr | ⟨blk, off, ha, hr⟩
  · exact Or.inl hr
  · refine Or.inr ⟨blk, off, ha, fun i hi => ?_⟩
    obtain ⟨u, h0, h1, h2⟩ := hr i hi
    refine ⟨u, h0, h1, ?_⟩
    have hlt := World.block_lt_of_cell? w _ h2
    unfold but
    rw [if_neg (by simp at hlt ⊢; omega)]
    exact (World.cell?_of_block (Below.heap_alloc w _ _ hlt)).trans h2

set_option maxHeartbeats 400000 in
theorem new_any (a : Option Addr) (n c : Nat) (most : Int) (w : World) (h0 : 0 ≤ most) (h1 : most ≤ 1000) (h : BytesAt w.cell? a n c) :
    Calls Tryz.prog 12 #[.slice a n c, .int .i64 most] w (Made w) := by
  obtain ⟨m, rfl⟩ := Int.eq_ofNat_of_zero_le h0
  obtain ⟨hn, hc, hr⟩ := h
  unfold maxLen at hc
  by_cases hm : m < n
  · rcases hr with hr | ⟨blk, off, rfl, hr⟩
    · omega
    have H := Lib.hid hr
    clear hr
    go_enter Tryz.func12, Tryz.ntmps12
    go_wp2
    go_ret
    have hr := H.out
    exact ⟨rfl, ⟨_, _, _, codes_new w _ _ _ (by omega) (Or.inr ⟨blk, off, rfl, fun i hi => hr i (by omega)⟩)⟩, (Below.refl _ _).alloc (Nat.le_refl _) _⟩
  · have H := Lib.hid hr
    clear hr
    go_enter Tryz.func12, Tryz.ntmps12
    go_wp2
    go_ret
    have hr := H.out
    exact ⟨rfl, ⟨_, _, _, codes_new w _ _ _ (by omega) hr⟩, (Below.refl _ _).alloc (Nat.le_refl _) _⟩

end Go.Proofs.YtlohdmghaeabjaaGreatDoor.draw

