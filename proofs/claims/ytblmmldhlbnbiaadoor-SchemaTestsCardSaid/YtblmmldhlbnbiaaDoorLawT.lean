/- The law SchemaTests. -/
import Derived.Test.YtblmmldhlbnbiaaDoorLawA
import Derived.Deep.RegionLaw
import Derived.Deep.RegionHeld3
import Derived.Deep.RegionLawGrows
import Derived.Deep.AppendLies
import Derived.Deep.DrawnRows
namespace Go.Proofs.YtblmmldhlbnbiaaDoor.law
open Go.RowKit Go.Proofs.YtblmmldhlbnbiaaDoor.schema Go.Proofs.YtblmmldhlbnbiaaDoor.draw

attribute [local go_sem ↓] Go.wp_at_zero Go.wp_at_succ

def xx : ByteArray := ⟨#[120]⟩
def declX (t : Int) : Array Value := #[.string ⟨#[117, 115, 101, 114]⟩, .string ⟨#[120]⟩, .int .i64 t]

theorem vd_one (d : VD) : ∀ u ∈ d.row, u.oneCell' = true := by simp [VD.row, Value.oneCell']

def exprA (p : Int) (v : Value) : Array Value := #[.int .i64 (6 + p), .string ⟨#[117, 115, 101, 114]⟩, .string ⟨#[120]⟩, v, .slice none 0 0]
/-- What holds at the head of the loop that draws the values. -/
def RelT (w2 : World) (b : Nat) (a : Option Addr) (n c : Nat) (p q : Int) (k : Nat) (wr : World) : Prop :=
  Head b a n c wr ∧ w2.grownBy wr (some b) ∧ Own wr w2.heap.size (declX (1 + q)) 41 ∧
    ∃ va vc, ∃ l : List VD, l.length = k ∧ Own wr (w2.heap.size + 1) (exprA p (.slice va k vc)) 26 ∧ wr.ownsRow (w2.heap.size + 2) 44 4 (.slice va k vc) k (l.map VD.row).flatten
theorem rel_start (w2 : World) (b : Nat) (a : Option Addr) (n c : Nat) (p q : Int) (h : Head b a n c w2) :
    RelT w2 b a n c p q 0 ((w2.alloc (.cells (declX (1 + q)) 41)).alloc (.cells (exprA p (.slice none 0 0)) 26)) := by
  refine ⟨(h.alloc _).alloc _, g_alloc (g_alloc (grown_refl _ _) _) _, (Own.new w2 _ _).alloc _, none, 0, [], rfl, ?_, World.ownsRow_nil _ _ _ _⟩
  have := Own.new (w2.alloc (.cells (declX (1 + q)) 41)) (exprA p (.slice none 0 0)) 26
  simpa using this

theorem rel_next {w2 w5 w6 : World} {b : Nat} {a : Option Addr} {n c : Nat} {p q : Int} {k : Nat} {v : Value} {l : List VD} {d : VD} {o : Obj} {gg cap : Nat} (hb : b < w2.heap.size) (hl : l.length = k)
    (hH : Head b a n c w5) (hG : w2.grownBy w5 (some b)) (hD : Own w5 w2.heap.size (declX (1 + q)) 41) (hE : Own w5 (w2.heap.size + 1) (exprA p v) 26)
    (hown : w5.ownsRow (w2.heap.size + 2) 44 4 v k (l.map VD.row).flatten) (hg : (w5.alloc o).grownBy w6 v.ownBlock)
    (hown6 : w6.ownsRow (w2.heap.size + 2) 44 4 (.slice (some ⟨gg, 0, none⟩) (k + 1) cap) (k + 1) ((l.map VD.row).flatten ++ d.row)) :
    RelT w2 b a n c p q (k + 1) (w6.setCell ⟨w2.heap.size + 1, 3, none⟩ (.slice (some ⟨gg, 0, none⟩) (k + 1) cap)) := by
  have ho := hown.alloc o
  refine ⟨((hH.alloc o).kept hg (row_far ho (by omega))).set (by simp; omega) _, g_setCell (g_own (g_alloc hG o) hg (fun i e => by have := (ho.lt i e).1; omega)) (by simp) _,
    (own_past ho (hD.alloc o) hg (by omega)).setOther (by simp) _, some ⟨gg, 0, none⟩, cap, l ++ [d], by simp [hl], ?_, ?_⟩
  · exact (own_past ho (hE.alloc o) hg (by omega)).set 3 _
  · have e : ((l ++ [d]).map VD.row).flatten = (l.map VD.row).flatten ++ d.row := by simp
    rw [e]
    exact ownsRow_setCell_below hown6 (by simp) _

theorem decl_rows {w : World} {D : Nat} {q : Int} (h : Own w D (declX (1 + q)) 41) : RowsAt w.cell? 3 (.slice (some ⟨D, 0, none⟩) 1 1) ([(⟨user, xx, 1 + q⟩ : DD)].map DD.row) :=
  rows_of_own h 3 [DD.row ⟨user, xx, 1 + q⟩] (by simp [DD.row]) (by rfl) 1 (by simp) (by decide)
theorem expr_at {m : Mem} {p : Int} {v : Value} {l : List VD} (h : RowsAt m 4 v (l.map VD.row)) : EAt m (.mk (6 + p) user xx l []) [.int .i64 (6 + p), .string ⟨#[117, 115, 101, 114]⟩, .string ⟨#[120]⟩, v, .slice none 0 0] :=
  EAt.mk [] h (rows_nil _ _) rfl (fun i r k hi => by simp at hi)
theorem sub_drew (w : World) : Sub w.cell? w.drew.cell? := fun _ _ h => h

theorem info44 : (Tryd.prog.info? 44).map (fun i => (i.zero, i.size, i.bytes)) = some (some (.agg #[.int .i64 0, .int .i64 0, .string ⟨#[]⟩, .slice none 0 0]), 4, 56) := by kernel_rfl

set_option maxHeartbeats 1000000 in
theorem tests_walk (op t : Int) (a : Option Addr) (n c : Nat) (w : World) (h : BytesAt w.cell? a n c) (hg : ∀ b, w.heap.size ≤ b → Glob (but b w))
    (ho : -9223372036854775808 ≤ op ∧ op ≤ 9223372036854775807) (ht : -9223372036854775808 ≤ t ∧ t ≤ 9223372036854775807) :
    Calls Tryd.prog 4 #[.int .i64 op, .int .i64 t, .slice a n c] w fun e w' => e = .returned (.bool true) ∧ Below w.heap.size w w' := by
  obtain ⟨ho1, ho2⟩ := ho
  obtain ⟨ht1, ht2⟩ := ht
  have hA := Lib.hid h
  have hg0 := Lib.hid hg
  clear h hg
  go_enter Tryd.func4, Tryd.ntmps4
  go_wp2_with fail
  refine (awake_any _).mono ?_
  rintro e w1 ⟨rfl, hb1⟩
  have hB1 := Lib.hid hb1
  clear hb1
  go_wp2_with fail
  refine (mod_any _ _ _ (by omega) (by omega) ho1 ho2).mono ?_
  rintro e w1 ⟨⟨p, rfl, hp0, hp1⟩, rfl⟩
  go_wp2_with fail
  refine (mod_any _ _ _ (by omega) (by omega) ht1 ht2).mono ?_
  rintro e w1 ⟨⟨q, rfl, hq0, hq1⟩, rfl⟩
  go_wp2_with fail
  refine (new_any a n c 20 _ (by omega) (by omega) (hA.out.mono (sub_of_below hB1.out))).mono ?_
  rintro e w2 ⟨rfl, ⟨a', n', c', hC⟩, hb2⟩
  have hsz : w.heap.size ≤ w1.heap.size := hB1.out.size
  have hlt := hC.lt
  have hB2 := Lib.hid (hB1.out.trans (hb2.mono hsz))
  have hC2 := Lib.hid hC
  have hg2 := Lib.hid ((hg0.out w1.heap.size hsz).mono (sub_of_grown (grown_of_below ((hB1.out.trans (hb2.mono hsz)).mono (Nat.le_refl _)) _)))
  have hsz2 : w1.heap.size ≤ w2.heap.size := hb2.size
  clear hC hb2
  go_wp2_with fail
  have hS := Lib.hid (rel_start w2 w1.heap.size a' n' c' p q hC2.out.1)
  obtain ⟨i0, hi, hz0, hz1, hz2⟩ := info_parts info44
  go_loopw [10] (fun i wr => ∃ k : Nat, k ≤ 3 ∧ i = .int .i64 k ∧ Hid (RelT w2 w1.heap.size a' n' c' p q k wr)) (fun i _ => 3 - (intOf i).toNat)
  case atStart => exact ⟨0, by omega, rfl, hS.out⟩
  case round =>
    obtain ⟨k, hk, rfl, hR⟩ := hrel
    obtain ⟨hH, hG, hD, va, vc, l, hl, hE, hown⟩ := hR.out
    have hCr := Lib.hid (hC2.out.still hG hH)
    have hgr := Lib.hid (hg2.out.mono (sub_of_grown hG))
    have hsr := hG.size
    have hH0 := Lib.hid hH
    have hG0 := Lib.hid hG
    have hD0 := Lib.hid hD
    have hE0 := Lib.hid hE
    have hown0 := Lib.hid hown
    have hl0 := Lib.hid hl
    clear hH hG hD hE hown hl
    go_wp2_with fail
    refine (next_any _ a' n' c' _ 3 (by omega) (by omega) hCr.out).mono ?_
    rintro e w3 ⟨⟨m, rfl, hm0, hm1⟩, hH, hG⟩
    have hG3 := Lib.hid (g_call hG0.out hG)
    have hH3 := Lib.hid hH
    have hD3 := Lib.hid (hD0.out.kept hG (by simp; omega))
    have hE3 := Lib.hid (hE0.out.kept hG (by simp; omega))
    have hC3 := Lib.hid (hCr.out.still hG hH)
    have hg3 := Lib.hid (hgr.out.mono (sub_of_grown hG))
    have hown3 := Lib.hid (owns_kept hown0.out hG (by omega))
    have hl3 : w2.heap.size + 1 < w3.heap.size := hE3.out.lt
    clear hH hG
    by_cases hkm : (k : Int) < m
    · have c3 := hE3.out.cell 3
      have f3 := hE3.out.free 3
      simp [exprA] at c3
      go_wp2_with fail
      go_region_law
        ((first
          | (refine step_append_lies _ (by rfl) _ _ _ (by rfl) (w2.heap.size + 2) 44 i0 _ 4 56 Tryd.underlying23 hi hz0 hz1 hz2 rfl (by omega) (.slice va k vc) k _ (by rfl) (hown5.out.alloc _) ⟨w5.heap.size, 0, none⟩ 1 1 d.row (by rfl) (by rfl) (World.news_of_block (cs := d.row.toArray) (t := 44) (fr := (0, 0)) (heap_alloc_new w5 _)) (vd_one d) (by omega) (by unfold maxLen; omega) (by omega) (by simp; omega) (w5.heap.size + 1) (by simp) ?_; intro gg cap w6 hown6 hgrow6 hat hlt6; have hE6 := own_past (hown5.out.alloc _) (hE5.out.alloc _) hgrow6 (show w2.heap.size + 1 < w2.heap.size + 2 from Nat.lt_succ_self _); have c6 := hE6.cell 3; have f6 := hE6.free 3; simp [exprA] at c6)
          | (go_simp; go_at_call 14; refine (next_any _ a' n' c' _ 3 (by omega) (by omega) hC3.out.drew).mono ?_; rintro e w4 ⟨⟨m2, rfl, hm20, hm21⟩, hH4, hG4⟩; have hG5 := Lib.hid (g_call (g_drew hG3.out) hG4); have hE4 := Lib.hid (hE3.out.drew.kept hG4 (by simp; omega)); have hD4 := Lib.hid (hD3.out.drew.kept hG4 (by simp; omega)); have hC4 := Lib.hid (hC3.out.drew.still hG4 hH4); have hg4 := Lib.hid (hg3.out.mono (sub_of_grown (g_call (g_drew (grown_refl _ _)) hG4))); have c4 := hE4.out.cell 3; simp [exprA] at c4; have hown4 := Lib.hid (owns_kept (owns_drew hown3.out) hG4 (by omega)); have hs4 : w3.heap.size ≤ w4.heap.size := hG4.size; clear hH4 hG4)
          | (go_simp; go_at_call 15; refine (value_any _ a' n' c' _ hC4.out hg4.out _).mono ?_; rintro e w5 ⟨⟨d, rfl, hd⟩, hH5, hG6⟩; have hG7 := Lib.hid (g_call hG5.out hG6); have hE5 := Lib.hid (hE4.out.kept hG6 (by simp; omega)); have hD5 := Lib.hid (hD4.out.kept hG6 (by simp; omega)); have hH6 := Lib.hid hH5; have hl5 : w2.heap.size + 1 < w5.heap.size := hE5.out.lt; have c5 := hE5.out.cell 3; simp [exprA] at c5; have hown5 := Lib.hid (owns_kept hown4.out hG6 (by omega)); have hs5 : w4.heap.size ≤ w5.heap.size := hG6.size; clear hH5 hG6 hd; unfold VD.row)))
      all_goals
        have hN := Lib.hid (rel_next (by omega) hl0.out hH6.out hG7.out hD5.out hE5.out hown5.out hgrow6 hown6)
        clear hgrow6 hown6
        go_wp2
        go_roundw
        case rel => exact ⟨k + 1, by omega, by go_num, hN.out⟩
        case measure => simp [intOf]; omega
    · have hl1 := hl0.out
      have HD := Lib.hid (decl_rows (q := q) hD3.out)
      have HE := Lib.hid (expr_at (p := p) (rows_of_owns hown3.out (l.map VD.row) (by simp [hl1]) (by intro r hr; obtain ⟨d, -, rfl⟩ := List.mem_map.1 hr; rfl) rfl))
      have HS := Lib.hid (sub_drew w3)
      have c0 := hE3.out.cell 0
      have c1 := hE3.out.cell 1
      have c2 := hE3.out.cell 2
      have c3 := hE3.out.cell 3
      have c4 := hE3.out.cell 4
      simp [exprA] at c0 c1 c2 c3 c4
      clear hl1
      go_wp2_with fail
      go_region_held3 (fun w' => w'.cell? ⟨w2.heap.size + 1, 0, none⟩ = some (.int .i64 (6 + p)) ∧ w'.cell? ⟨w2.heap.size + 1, 1, none⟩ = some (.string ⟨#[117, 115, 101, 114]⟩) ∧ w'.cell? ⟨w2.heap.size + 1, 2, none⟩ = some (.string ⟨#[120]⟩) ∧
          w'.cell? ⟨w2.heap.size + 1, 3, none⟩ = some (.slice va k vc) ∧ w'.cell? ⟨w2.heap.size + 1, 4, none⟩ = some (.slice none 0 0))
        (first | go_keep | exact ⟨d0, d1, d2, d3, d4⟩ | exact ⟨e0, e1, e2, e3, e4⟩)
        ((first
          | (go_at_call 10; refine (expr_any _ [] _ _ w3.cell? HD.out (rows_nil _ _) _ _ HE.out _ HS.out).mono ?_; rintro e u1 ⟨rfl, hb1⟩; have hb1' := Lib.hid hb1; have d0 := cell_later hb1 c0; have d1 := cell_later hb1 c1; have d2 := cell_later hb1 c2; have d3 := cell_later hb1 c3; have d4 := cell_later hb1 c4; clear hb1)
          | (go_at_call 13; refine (rexpr_any _ [] _ _ w3.cell? HD.out (rows_nil _ _) _ _ HE.out _ (HS.out.trans (sub_of_below hb1'.out))).mono ?_; rintro e u2 ⟨rfl, hb2⟩; have hb2' := Lib.hid hb2; have e0 := cell_later hb2 d0; have e1 := cell_later hb2 d1; have e2 := cell_later hb2 d2; have e3 := cell_later hb2 d3; have e4 := cell_later hb2 d4; clear hb2)))
      go_wp2
      go_ret
      have hs3 := hG3.out.size
      have hbw : Below w.heap.size w w3.drew := (hB2.out.trans (below_of_grown hG3.out (by omega) hsz)).drew
      exact ⟨rfl, (hbw.trans (hb1'.out.mono hbw.size)).trans (hb2'.out.mono (Nat.le_trans hbw.size hb1'.out.size))⟩

end Go.Proofs.YtblmmldhlbnbiaaDoor.law
