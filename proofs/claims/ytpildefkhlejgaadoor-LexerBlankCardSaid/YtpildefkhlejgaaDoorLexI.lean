/- A text of drawn pieces: some text that is not long. -/
import Derived.Test.YtpildefkhlejgaaDoorDraw
import Derived.Test.YtpildefkhlejgaaDoorTextZ
namespace Go.Proofs.YtpildefkhlejgaaDoor.lex
open Go.RowKit Go.Proofs.YtpildefkhlejgaaDoor.text Go.Proofs.YtpildefkhlejgaaDoor.draw

/-- The table of the pieces. -/
def Pieces (m : Mem) : Prop := ∀ j : Nat, j < 32 → ∃ s : ByteArray, m ⟨0, j, none⟩ = some (.string s) ∧ s.size ≤ 20
theorem Pieces.mono {m m' : Mem} (hs : Sub m m') (h : Pieces m) : Pieces m' := by
  intro j hj
  obtain ⟨s, h1, h2⟩ := h j hj
  exact ⟨s, hs _ _ h1, h2⟩

/-- What a draw does, said exactly: the place has moved if there was a code left. -/
def Moved (b : Nat) (a : Option Addr) (n c k : Nat) (w : World) (P : Ending → Prop) (e : Ending) (w' : World) : Prop := P e ∧ HeadK b a n c w' k ∧ w.grownBy w' (some b)
set_option maxHeartbeats 400000 in
theorem next_at_end (b : Nat) (w : World) (m : Int) (h0 : 1 ≤ m) (h1 : m ≤ 256) (a : Option Addr) (n c k : Nat) (h : HeadK b a n c w k) (hn : n ≤ 1000) (hlt : n ≤ k) :
    Calls Tryd.prog 19 #[.pointer (some ⟨b, 0, none⟩), .int .i64 m] w (Moved b a n c k w (IntIn 0 m)) := by
  have hL : decide (k < n) = false := by simp; omega
  have hh := Lib.hid h
  clear h
  go_enter Tryd.func19, Tryd.ntmps19
  go_wp2_with (go_at_call 18; refine (left_any b _ a n c k hh.out hn).mono ?_; rintro e w' ⟨rfl, q, rfl⟩; rw [hL]; clear hL)
  go_ret
  exact ⟨⟨_, rfl, by omega, by omega⟩, hh.out, grown_drewN _ _ _⟩
set_option maxHeartbeats 400000 in
theorem next_more (b : Nat) (w : World) (m : Int) (h0 : 1 ≤ m) (h1 : m ≤ 256) (a : Option Addr) (n c k : Nat) (h : HeadK b a n c w k) (hC : Codes b a n c w) (hlt : k < n) :
    Calls Tryd.prog 19 #[.pointer (some ⟨b, 0, none⟩), .int .i64 m] w (Moved b a n c (k + 1) w (IntIn 0 m)) := by
  have hL : decide (k < n) = true := by simp; omega
  have hh := Lib.hid h
  have c0 := h.own.cell 0
  have c1 := h.own.cell 1
  have f1 := h.own.free 1
  simp at c0 c1
  obtain ⟨-, hk⟩ := h
  obtain ⟨-, hn, hr⟩ := hC
  rcases hr with hr | ⟨blk, off, rfl, hr⟩
  · omega
  obtain ⟨u, hu0, hu1, hu⟩ := hr k hlt
  clear hr
  have hne : ¬ blk = b := by
    intro e; unfold but at hu; rw [if_pos e] at hu; cases hu
  have c2 := but_sub _ _ _ _ hu
  clear hu
  go_enter Tryd.func19, Tryd.ntmps19
  go_wp2_with (go_at_call 18; refine (left_any b _ _ n c k hh.out hn).mono ?_; rintro e w' ⟨rfl, q, rfl⟩; rw [hL]; clear hL)
  go_quiet (fail)
  go_wp2
  go_ret
  refine ⟨⟨_, rfl, Int.emod_nonneg _ (by omega), Int.emod_lt_of_pos _ (by omega)⟩, HeadK.step (w := w) hh.out hlt, ?_⟩
  exact grown_trans (grown_drewN w q _) (grown_trans (grown_setCell _ _ _ _) (grown_drewN _ _ _))
/-- .. either way. -/
theorem next_any_k (b : Nat) (w : World) (m : Int) (h0 : 1 ≤ m) (h1 : m ≤ 256) (a : Option Addr) (n c k : Nat) (h : HeadK b a n c w k) (hC : Codes b a n c w) :
    Calls Tryd.prog 19 #[.pointer (some ⟨b, 0, none⟩), .int .i64 m] w (fun e w' => ∃ k', k ≤ k' ∧ Moved b a n c k' w (IntIn 0 m) e w') := by
  by_cases hlt : k < n
  · exact (next_more b w m h0 h1 a n c k h hC hlt).mono fun e w' hm => ⟨k + 1, by omega, hm⟩
  · exact (next_at_end b w m h0 h1 a n c k h hC.2.1 (by omega)).mono fun e w' hm => ⟨k, Nat.le_refl _, hm⟩

def MadeN (most : Int) (w : World) (e : Ending) (w' : World) : Prop := e = .returned (.pointer (some ⟨w.heap.size, 0, none⟩)) ∧ (∃ (a : Option Addr) (n c : Nat), (n : Int) ≤ most ∧ Codes w.heap.size a n c w') ∧ Below w.heap.size w w'
set_option maxHeartbeats 400000 in
theorem new_most (a : Option Addr) (n c : Nat) (most : Int) (w : World) (h0 : 0 ≤ most) (h1 : most ≤ 1000) (h : BytesAt w.cell? a n c) :
    Calls Tryd.prog 13 #[.slice a n c, .int .i64 most] w (MadeN most w) := by
  obtain ⟨m, rfl⟩ := Int.eq_ofNat_of_zero_le h0
  obtain ⟨hn, hc, hr⟩ := h
  unfold maxLen at hc
  by_cases hm : m < n
  · rcases hr with hr | ⟨blk, off, rfl, hr⟩
    · omega
    have H := Lib.hid hr
    clear hr
    go_enter Tryd.func13, Tryd.ntmps13
    go_wp2
    go_ret
    have hr := H.out
    exact ⟨rfl, ⟨_, _, _, Int.le_refl _, codes_new w _ _ _ (by omega) (Or.inr ⟨blk, off, rfl, fun i hi => hr i (by omega)⟩)⟩, (Below.refl _ _).alloc (Nat.le_refl _) _⟩
  · have H := Lib.hid hr
    clear hr
    go_enter Tryd.func13, Tryd.ntmps13
    go_wp2
    go_ret
    have hr := H.out
    exact ⟨rfl, ⟨_, _, _, by omega, codes_new w _ _ _ (by omega) hr⟩, (Below.refl _ _).alloc (Nat.le_refl _) _⟩

/-- The place of the codes, read off the world. -/
def posOf (b : Nat) (w : World) : Nat := match w.cell? ⟨b, 1, none⟩ with | some (.int _ k) => k.toNat | _ => 0
theorem pos_head {b : Nat} {a : Option Addr} {n c k : Nat} {w : World} (h : HeadK b a n c w k) : posOf b w = k := by
  have := h.own.cell 1
  unfold posOf
  rw [this]
  rfl
theorem headK_codes {b : Nat} {a : Option Addr} {n c k : Nat} {w : World} (h : HeadK b a n c w k) : Head b a n c w := ⟨k, h⟩
theorem headK_kept {b : Nat} {a : Option Addr} {n c k : Nat} {w u : World} {r : Option Nat} (h : HeadK b a n c w k) (g : w.grownBy u r) (hr : r ≠ some b) : HeadK b a n c u k := ⟨h.own.kept g hr, h.2⟩

def seps : Array Value := #[.string ⟨#[32]⟩, .string ⟨#[]⟩, .string ⟨#[10]⟩, .string ⟨#[32, 32]⟩]
/-- A text comes out, the codes' place has moved, nothing else has turned. -/
def SrcPost (b n : Nat) (w : World) (e : Ending) (w' : World) : Prop := ∃ s : ByteArray, e = .returned (.string s) ∧ (s.size ≤ 40000 ∧ s.size ≤ 30 * n) ∧ w.grownBy w' (some b)

set_option maxRecDepth 100000 in
set_option maxHeartbeats 4000000 in
theorem source_any (b : Nat) (a : Option Addr) (n c : Nat) (w : World) (h : Codes b a n c w) (hg : Pieces (but b w)) :
    Calls Tryd.prog 12 #[.pointer (some ⟨b, 0, none⟩)] w (SrcPost b n w) := by
  have hn := h.2.1
  obtain ⟨k0, hk0⟩ := h.1
  have hk0n := hk0.2
  replace h := Lib.hid h
  replace hk0 := Lib.hid hk0
  replace hg := Lib.hid hg
  go_enter Tryd.func12, Tryd.ntmps12
  go_wp2
  go_loopw [3] (fun v wr => ∃ (k : Nat) (s : ByteArray), v = .string s ∧ s.size ≤ 30 * k ∧ k ≤ n ∧ Hid (HeadK b a n c wr k) ∧ Hid (w.grownBy wr (some b))) (fun _ wr => n - posOf b wr)
  case atStart => exact ⟨k0, _, rfl, Nat.zero_le _, hk0n, hk0.out, grown_refl _ _⟩
  case round =>
    obtain ⟨k, s, rfl, hs, hk, hH, hG⟩ := hrel
    have hm0 := Lib.hid (pos_head hH.out)
    go_wp2_with fail
    refine (left_any b _ a n c k hH.out hn).mono ?_
    rintro e w1 ⟨rfl, q, rfl⟩
    have hH1 := Lib.hid (show HeadK b a n c (wr.drewN q) k from hH.out)
    have hG1 := Lib.hid (grown_trans hG.out (grown_drewN wr q (some b)))
    by_cases hlt : k < n
    · have hL := Lib.hid (show decide (k < n) = true by simp; omega)
      rw [hL.out]
      go_wp2_with fail
      refine (next_more b _ 32 (by omega) (by omega) a n c k hH1.out (h.out.still hG1.out (headK_codes hH1.out)) hlt).mono ?_
      rintro e w2 ⟨⟨m, rfl, hm0', hm1⟩, hH2, hG2⟩
      obtain ⟨j, rfl⟩ := Int.eq_ofNat_of_zero_le hm0'
      have hG3 := Lib.hid (grown_trans hG1.out hG2)
      obtain ⟨p, hp, hps⟩ := (hg.out.mono (sub_of_grown hG3.out)) j (by omega)
      have hp := but_sub _ _ _ _ hp
      replace hH2 := Lib.hid (headK_kept hH2 (World.grownBy_alloc w2 (.cells seps 9) none) (by simp))
      have hG4 := Lib.hid (grown_trans hG3.out (World.grownBy_alloc w2 (.cells seps 9) (some b)))
      have hO := Lib.hid (Own.new w2 seps 9)
      have hbw : b < w2.heap.size := by
        have := h.out.lt
        have := hG3.out.size
        omega
      clear hG2 hm0'
      go_wp2_with fail
      refine (next_any_k b _ 4 (by omega) (by omega) a n c (k + 1) hH2.out (h.out.still hG4.out (headK_codes hH2.out))).mono ?_
      rintro e w3 ⟨k', hkk, ⟨m, rfl, hm0', hm1'⟩, hH3, hG5⟩
      obtain ⟨j2, rfl⟩ := Int.eq_ofNat_of_zero_le hm0'
      have hO3 := hO.out.kept hG5 (by simp; omega)
      obtain ⟨q2, hq2, hq2s⟩ : ∃ q2 : ByteArray, w3.cell? ⟨w2.heap.size, j2, none⟩ = some (.string q2) ∧ q2.size ≤ 2 := by
        rw [hO3.cell j2]
        rcases (show j2 = 0 ∨ j2 = 1 ∨ j2 = 2 ∨ j2 = 3 by omega) with rfl | rfl | rfl | rfl
        · exact ⟨_, rfl, by decide⟩
        · exact ⟨_, rfl, by decide⟩
        · exact ⟨_, rfl, by decide⟩
        · exact ⟨_, rfl, by decide⟩
      have hk3 := hH3.2
      have hm3 := Lib.hid (pos_head hH3)
      replace hH3 := Lib.hid hH3
      have hG6 := Lib.hid (grown_trans hG4.out hG5)
      have hz := Lib.hid (show (s ++ p ++ q2).size ≤ 30 * k' by rw [ByteArray.size_append, ByteArray.size_append]; omega)
      have hsz1 : (s ++ p).size ≤ 40000 := by rw [ByteArray.size_append]; omega
      clear hG5 hO3 hm0'
      go_wp2
      go_roundw
      case rel => exact ⟨k', _, rfl, hz.out, hk3, hH3, hG6⟩
      case measure => rw [hm3.out, hm0.out]; omega
    · have hL := Lib.hid (show decide (k < n) = false by simp; omega)
      rw [hL.out]
      go_wp2
      go_ret
      exact ⟨s, rfl, ⟨by omega, by omega⟩, hG1.out⟩

end Go.Proofs.YtpildefkhlejgaaDoor.lex
