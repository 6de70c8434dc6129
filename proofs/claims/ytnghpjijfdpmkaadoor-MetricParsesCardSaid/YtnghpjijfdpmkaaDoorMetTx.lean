/- The texts of words of metrics that the law makes. -/
import Derived.Test.YtnghpjijfdpmkaaDoorMetBA
import Derived.Test.YtnghpjijfdpmkaaDoorMetY
import Derived.Deep.RegionHeld
namespace Go.Proofs.YtnghpjijfdpmkaaDoor.metric
open Go.RowKit Go.Proofs.YtnghpjijfdpmkaaDoor Go.Proofs.YtnghpjijfdpmkaaDoor.text
attribute [local go_sem ↓] Go.wp_at_zero Go.wp_at_succ

theorem bytesIn_blw {w w' : World} {a : Option Addr} {n : Nat} (h : BytesIn w.cell? a n) (hb : Below w.heap.size w w') : BytesIn w'.cell? a n := by
  refine ⟨h.1, ?_⟩
  rcases h.2 with h2 | ⟨blk, off, ha, h2⟩
  · exact Or.inl h2
  · refine Or.inr ⟨blk, off, ha, fun i hi => ?_⟩
    obtain ⟨u, h3, h4, h5⟩ := h2 i hi
    exact ⟨u, h3, h4, sub_of_below hb _ _ h5⟩
abbrev wordsT : Array Value := #[.string ⟨#[115, 117, 109]⟩, .string ⟨#[99, 111, 117, 110, 116]⟩, .string ⟨#[115, 104, 97, 114, 101]⟩, .string ⟨#[114, 97, 116, 105, 111]⟩, .string ⟨#[111, 102]⟩, .string ⟨#[116, 111]⟩, .string ⟨#[119, 105, 116, 104, 105, 110]⟩, .string ⟨#[99, 97, 112]⟩, .string ⟨#[108, 101, 97, 115, 116]⟩, .string ⟨#[98, 101, 102, 111, 114, 101]⟩, .string ⟨#[98, 117, 121]⟩, .string ⟨#[118, 105, 115, 105, 116]⟩, .string ⟨#[49]⟩, .string ⟨#[50, 48]⟩, .string ⟨#[45, 51]⟩, .string ⟨#[48]⟩, .string ⟨#[49, 48, 57, 57, 53, 49, 49, 54, 50, 55, 55, 55, 54]⟩, .string ⟨#[49, 48, 57, 57, 53, 49, 49, 54, 50, 55, 55, 55, 55]⟩, .string ⟨#[48, 48, 55]⟩, .string ⟨#[111, 110]⟩, .string ⟨#[66, 117, 121]⟩, .string ⟨#[120, 95, 49]⟩]
abbrev sepT : Array Value := #[.string ⟨#[32]⟩, .string ⟨#[32, 32]⟩, .string ⟨#[10]⟩, .string ⟨#[9]⟩]
def sepX : Nat → ByteArray
  | 0 => ⟨#[32]⟩
  | 1 => ⟨#[32, 32]⟩
  | 2 => ⟨#[10]⟩
  | _ => ⟨#[9]⟩
theorem sepX_sz (q : Nat) : (sepX q).size ≤ 2 := by
  match q with
  | 0 => show 1 ≤ 2; decide
  | 1 => show 2 ≤ 2; decide
  | 2 => show 1 ≤ 2; decide
  | q + 3 => show 1 ≤ 2; decide
theorem sepT_cell (w : World) {q : Nat} (h : q < 4) : (w.alloc (.cells sepT 9)).cell? ⟨w.heap.size, q, none⟩ = some (.string (sepX q)) := by
  rw [(Own.new w sepT 9).cell q]
  rcases (show q = 0 ∨ q = 1 ∨ q = 2 ∨ q = 3 by omega) with rfl | rfl | rfl | rfl <;> rfl
theorem wordT {q : Nat} (h : q < 22) : ∃ x : ByteArray, wordsT[q]? = some (.string x) ∧ x.size ≤ 13 := by
  rcases (show q = 0 ∨ q = 1 ∨ q = 2 ∨ q = 3 ∨ q = 4 ∨ q = 5 ∨ q = 6 ∨ q = 7 ∨ q = 8 ∨ q = 9 ∨ q = 10 ∨ q = 11 ∨ q = 12 ∨ q = 13 ∨ q = 14 ∨ q = 15 ∨ q = 16 ∨ q = 17 ∨ q = 18 ∨ q = 19 ∨ q = 20 ∨ q = 21 by omega) with rfl | rfl | rfl | rfl | rfl | rfl | rfl | rfl | rfl | rfl | rfl | rfl | rfl | rfl | rfl | rfl | rfl | rfl | rfl | rfl | rfl | rfl
  all_goals exact ⟨_, rfl, by decide⟩

set_option maxRecDepth 100000 in
set_option maxHeartbeats 16000000 in
theorem text_any (a : Option Addr) (n c : Nat) (w : World) (h : BytesIn w.cell? a n) :
    Calls Tryd.prog 13 #[.slice a n c] w fun e w' => (∃ x : ByteArray, e = .returned (.string x) ∧ x.size ≤ 300) ∧ Below w.heap.size w w' := by
  replace h := Lib.hid h
  have hG := Lib.hid (Own.new w wordsT 9)
  have hB := Lib.hid (show Below w.heap.size w (w.alloc (.cells wordsT 9)) from (Below.refl _ _).alloc (Nat.le_refl _) _)
  go_enter Tryd.func13, Tryd.ntmps13
  go_wp2_with fail
  go_loopw [4, 5] (fun s4 s5 wr => ∃ (i : Nat) (T : ByteArray), i ≤ 20 ∧ i ≤ n ∧ s5 = .int .i64 i ∧ s4 = .string T ∧ T.size ≤ 15 * i ∧ Hid (Own wr w.heap.size wordsT 9) ∧ Hid (Below w.heap.size w wr)) (fun _ s5 _ => 20 - (intOf s5).toNat)
  case atStart => exact ⟨0, _, by omega, by omega, rfl, rfl, Nat.le_refl _, hG, hB⟩
  case round =>
    clear hG hB
    obtain ⟨i, T, hi, hin, rfl, rfl, hTs, hG, hB⟩ := hrel
    by_cases hlt : i < n ∧ i < 20
    · have hI : (i : Int) < (n : Int) := by omega
      have hI0 : (0 : Int) ≤ (i : Int) := Int.natCast_nonneg _
      have hI2 : (i : Int) < 20 := by omega
      obtain ⟨-, hbl⟩ := bytesIn_blw h.out hB.out
      rcases hbl with h0 | ⟨blk, off, ha2, hbl⟩
      · omega
      subst ha2
      obtain ⟨u, u0, u1, hu⟩ := hbl i hlt.1
      clear hbl
      obtain ⟨q, hq⟩ : ∃ q : Nat, Hid ((q : Int) = u % 22) := ⟨(u % 22).toNat, Lib.hid (by have := Int.emod_nonneg u (show (22 : Int) ≠ 0 by decide); omega)⟩
      have hq4 : q < 22 := by have := Int.emod_lt_of_pos u (show (0 : Int) < 22 by decide); have := hq.out; omega
      have hqm : u.tmod 22 = (q : Int) := by rw [Int.tmod_eq_emod_of_nonneg u0]; exact hq.out.symm
      have hqm2 : u % 22 = (q : Int) := hq.out.symm
      obtain ⟨r, hr⟩ : ∃ r : Nat, Hid ((r : Int) = u / 64) := ⟨(u / 64).toNat, Lib.hid (by omega)⟩
      have hr4 : r < 4 := by have := hr.out; omega
      have hrm : u.tdiv 64 = (r : Int) := by rw [Int.tdiv_eq_ediv_of_nonneg u0]; exact hr.out.symm
      have hrm2 : u / 64 = (r : Int) := hr.out.symm
      have huw : IntKind.i64.wrap u = u := IntWalk.i64_in _ (by omega)
      have hq0 : (0 : Int) ≤ (q : Int) := Int.natCast_nonneg _
      have hq5 : (q : Int) < 22 := by omega
      have hrw : IntKind.u8.wrap (r : Int) = (r : Int) := IntWalk.u8_in _ (by omega)
      have hr0 : (0 : Int) ≤ (r : Int) := Int.natCast_nonneg _
      have hr5 : (r : Int) < 4 := by omega
      obtain ⟨x, hx1, hx2⟩ := wordT hq4
      have hx : wr.cell? ⟨w.heap.size, q, none⟩ = some (.string x) := by rw [hG.out.cell q]; exact hx1
      have hsz := sepX_sz r
      have hc1 : ¬ 9223372036854775807 < T.size + x.size := by omega
      have hc2 : ¬ 9223372036854775807 < (T ++ x).size + (sepX r).size := by rw [ByteArray.size_append]; omega
      have hc3 : ¬ 9223372036854775807 < T.size + x.size + (sepX r).size := by omega
      have hGd := hG.out.drew
      have hBd : Below w.heap.size w wr.drew := blw_drewN hB.out 1
      clear hx1 hG hB
      go_wp2_with fail
      refine wp_region_held_drew (S := fun W => W.cell? ⟨blk, off + i, none⟩ = some (.int .u8 u) ∧ W.cell? ⟨w.heap.size, q, none⟩ = some (.string x)) (by kernel_rfl) ⟨hu, hx⟩ (fun hHeld => ?_)
      generalize wr.drew = wd at hHeld hGd hBd ⊢
      refine wpAnyH_take (i := 0) (oi := ?oi1) (v := ?v1) ?ho1 (by kernel_rfl) (by kernel_rfl) (by kernel_rfl) ?hp1 (Or.inl ⟨?hw1, ?hy1⟩) (by assumption) ?rest1
      case ho1 => simp only [List.getElem?_toArray, List.getElem?_cons_zero]; rfl
      case hp1 => exact fun _ _ _ h => h
      case hw1 => rfl
      case hy1 =>
        intro W hSw
        go_simp
        try exact rfl
      simp only [Act.put]
      refine wpAnyH_take (i := 1) (oi := ?oi2) (v := ?v2) ?ho2 (by kernel_rfl) (by kernel_rfl) (by kernel_rfl) ?hp2 (Or.inl ⟨?hw2, ?hy2⟩) (by assumption) ?rest2
      case ho2 => simp only [List.getElem?_toArray, List.getElem?_cons_succ, List.getElem?_cons_zero]; rfl
      case hp2 => exact fun _ _ _ h => h
      case hw2 => rfl
      case hy2 =>
        intro W hSw
        go_simp
        try exact rfl
      simp only [Act.put]
      refine wpAnyH_take (i := 2) (oi := ?oi3) (v := ?v3) ?ho3 (by kernel_rfl) (by kernel_rfl) (by kernel_rfl) ?hp3 (Or.inl ⟨?hw3, ?hy3⟩) (by assumption) ?rest3
      case ho3 => simp only [List.getElem?_toArray, List.getElem?_cons_succ, List.getElem?_cons_zero]; rfl
      case hp3 => exact fun _ _ _ h => h
      case hw3 => rfl
      case hy3 =>
        intro W hSw
        go_simp
        try exact rfl
      simp only [Act.put]
      refine wpAnyH_take (i := 3) (oi := ?oi4) (v := ?v4) ?ho4 (by kernel_rfl) (by kernel_rfl) (by kernel_rfl) ?hp4 (Or.inl ⟨?hw4, ?hy4⟩) (by assumption) ?rest4
      case ho4 => simp only [List.getElem?_toArray, List.getElem?_cons_succ, List.getElem?_cons_zero]; rfl
      case hp4 => exact fun _ _ _ h => h
      case hw4 => rfl
      case hy4 =>
        intro W hSw
        go_simp
        try exact rfl
      simp only [Act.put]
      refine wpAnyH_take (i := 14) (oi := ?oi5) (v := ?v5) ?ho5 (by kernel_rfl) (by kernel_rfl) (by kernel_rfl) ?hp5 (Or.inl ⟨?hw5, ?hy5⟩) (by assumption) ?rest5
      case ho5 => simp only [List.getElem?_toArray, List.getElem?_cons_succ, List.getElem?_cons_zero]; rfl
      case hp5 => exact fun _ _ _ h => h
      case hw5 => rfl
      case hy5 =>
        intro W hSw
        go_simp
        try exact rfl
      simp only [Act.put]
      refine wpAnyH_take (i := 15) (oi := ?oi6) (v := ?v6) ?ho6 (by kernel_rfl) (by kernel_rfl) (by kernel_rfl) ?hp6 (Or.inl ⟨?hw6, ?hy6⟩) (by assumption) ?rest6
      case ho6 => simp only [List.getElem?_toArray, List.getElem?_cons_succ, List.getElem?_cons_zero]; rfl
      case hp6 => exact fun _ _ _ h => h
      case hw6 => rfl
      case hy6 =>
        intro W hSw
        go_simp
        try exact rfl
      simp only [Act.put]
      refine wpAnyH_take (i := 4) (oi := ?oi7) (v := ?v7) ?ho7 (by kernel_rfl) (by kernel_rfl) (by kernel_rfl) ?hp7 (Or.inl ⟨?hw7, ?hy7⟩) (by assumption) ?rest7
      case ho7 => simp only [List.getElem?_toArray, List.getElem?_cons_succ, List.getElem?_cons_zero]; rfl
      case hp7 => exact fun _ _ _ h => h
      case hw7 => rfl
      case hy7 =>
        intro W hSw
        go_simp
        try exact rfl
      simp only [Act.put]
      refine wpAnyH_take (i := 16) (oi := ?oi8) (v := ?v8) ?ho8 (by kernel_rfl) (by kernel_rfl) (by kernel_rfl) ?hp8 (Or.inl ⟨?hw8, ?hy8⟩) (by assumption) ?rest8
      case ho8 => simp only [List.getElem?_toArray, List.getElem?_cons_succ, List.getElem?_cons_zero]; rfl
      case hp8 => exact fun _ _ _ h => h
      case hw8 => rfl
      case hy8 =>
        intro W hSw
        go_simp
        try exact rfl
      simp only [Act.put]
      refine wpAnyH_take (i := 5) (oi := ?oi9) (v := ?v9) ?ho9 (by kernel_rfl) (by kernel_rfl) (by kernel_rfl) ?hp9 (Or.inl ⟨?hw9, ?hy9⟩) (by assumption) ?rest9
      case ho9 => simp only [List.getElem?_toArray, List.getElem?_cons_succ, List.getElem?_cons_zero]; rfl
      case hp9 => exact fun _ _ _ h => h
      case hw9 => rfl
      case hy9 =>
        intro W hSw
        obtain ⟨e1, e2⟩ := (show W.cell? ⟨blk, off + i, none⟩ = some (.int .u8 u) ∧ W.cell? ⟨w.heap.size, q, none⟩ = some (.string x) from hSw)
        go_simp
        try exact rfl
      simp only [Act.put]
      refine wpAnyH_take (i := 17) (oi := ?oi10) (v := ?v10) ?ho10 (by kernel_rfl) (by kernel_rfl) (by kernel_rfl) ?hp10 (Or.inl ⟨?hw10, ?hy10⟩) (by assumption) ?rest10
      case ho10 => simp only [List.getElem?_toArray, List.getElem?_cons_succ, List.getElem?_cons_zero]; rfl
      case hp10 => exact fun _ _ _ h => h
      case hw10 => rfl
      case hy10 =>
        intro W hSw
        obtain ⟨e1, e2⟩ := (show W.cell? ⟨blk, off + i, none⟩ = some (.int .u8 u) ∧ W.cell? ⟨w.heap.size, q, none⟩ = some (.string x) from hSw)
        go_simp
        try exact rfl
      simp only [Act.put]
      refine wpAnyH_take (i := 6) (oi := ?oi11) (v := ?v11) ?ho11 (by kernel_rfl) (by kernel_rfl) (by kernel_rfl) ?hp11 (Or.inl ⟨?hw11, ?hy11⟩) (by assumption) ?rest11
      case ho11 => simp only [List.getElem?_toArray, List.getElem?_cons_succ, List.getElem?_cons_zero]; rfl
      case hp11 => exact fun _ _ _ h => h
      case hw11 => rfl
      case hy11 =>
        intro W hSw
        go_simp
        try exact rfl
      simp only [Act.put]
      refine wpAnyH_take (i := 7) (oi := ?oi12) (v := ?v12) ?ho12 (by kernel_rfl) (by kernel_rfl) (by kernel_rfl) ?hp12 (Or.inl ⟨?hw12, ?hy12⟩) (by assumption) ?rest12
      case ho12 => simp only [List.getElem?_toArray, List.getElem?_cons_succ, List.getElem?_cons_zero]; rfl
      case hp12 => exact fun _ _ _ h => h
      case hw12 => rfl
      case hy12 =>
        intro W hSw
        go_simp
        try exact rfl
      simp only [Act.put]
      refine wpAnyH_take (i := 8) (oi := ?oi13) (v := ?v13) ?ho13 (by kernel_rfl) (by kernel_rfl) (by kernel_rfl) ?hp13 (Or.inl ⟨?hw13, ?hy13⟩) (by assumption) ?rest13
      case ho13 => simp only [List.getElem?_toArray, List.getElem?_cons_succ, List.getElem?_cons_zero]; rfl
      case hp13 => exact fun _ _ _ h => h
      case hw13 => rfl
      case hy13 =>
        intro W hSw
        go_simp
        try exact rfl
      simp only [Act.put]
      refine wpAnyH_take (i := 9) (oi := ?oi14) (v := ?v14) ?ho14 (by kernel_rfl) (by kernel_rfl) (by kernel_rfl) ?hp14 (Or.inl ⟨?hw14, ?hy14⟩) (by assumption) ?rest14
      case ho14 => simp only [List.getElem?_toArray, List.getElem?_cons_succ, List.getElem?_cons_zero]; rfl
      case hp14 => exact fun _ _ _ h => h
      case hw14 => rfl
      case hy14 =>
        intro W hSw
        go_simp
        try exact rfl
      simp only [Act.put]
      refine wpAnyH_take (i := 18) (oi := ?oi15) (v := ?v15) ?ho15 (by kernel_rfl) (by kernel_rfl) (by kernel_rfl) ?hp15 (Or.inl ⟨?hw15, ?hy15⟩) (by assumption) ?rest15
      case ho15 => simp only [List.getElem?_toArray, List.getElem?_cons_succ, List.getElem?_cons_zero]; rfl
      case hp15 => exact fun _ _ _ h => h
      case hw15 => rfl
      case hy15 =>
        intro W hSw
        go_simp
        try exact rfl
      simp only [Act.put]
      refine wpAnyH_take (i := 10) (oi := ?oi16) (v := ?v16) ?ho16 (by kernel_rfl) (by kernel_rfl) (by kernel_rfl) ?hp16 (Or.inl ⟨?hw16, ?hy16⟩) (by assumption) ?rest16
      case ho16 => simp only [List.getElem?_toArray, List.getElem?_cons_succ, List.getElem?_cons_zero]; rfl
      case hp16 => exact fun _ _ _ h => h
      case hw16 => rfl
      case hy16 =>
        intro W hSw
        go_simp
        try exact rfl
      simp only [Act.put]
      refine wpAnyH_take (i := 11) (oi := ?oi17) (v := ?v17) ?ho17 (by kernel_rfl) (by kernel_rfl) (by kernel_rfl) ?hp17 (Or.inl ⟨?hw17, ?hy17⟩) (by assumption) ?rest17
      case ho17 => simp only [List.getElem?_toArray, List.getElem?_cons_succ, List.getElem?_cons_zero]; rfl
      case hp17 => exact fun _ _ _ h => h
      case hw17 => rfl
      case hy17 =>
        intro W hSw
        obtain ⟨e1, e2⟩ := (show W.cell? ⟨blk, off + i, none⟩ = some (.int .u8 u) ∧ W.cell? ⟨w.heap.size, q, none⟩ = some (.string x) from hSw)
        go_simp
        try exact rfl
      simp only [Act.put]
      refine wpAnyH_take (i := 12) (oi := ?oi18) (v := ?v18) ?ho18 (by kernel_rfl) (by kernel_rfl) (by kernel_rfl) ?hp18 (Or.inl ⟨?hw18, ?hy18⟩) (by assumption) ?rest18
      case ho18 => simp only [List.getElem?_toArray, List.getElem?_cons_succ, List.getElem?_cons_zero]; rfl
      case hp18 => exact fun _ _ _ h => h
      case hw18 => rfl
      case hy18 =>
        intro W hSw
        go_simp
        try exact rfl
      simp only [Act.put]
      refine wpAnyH_ready (rs := [13]) (by kernel_rfl) (by simp) ?_
      refine AllReadyH.cons rfl (fun K hK => ?_) AllReadyH.nil
      go_simp
      have hL := sepT_cell wd hr4
      replace hGd := hGd.alloc (.cells sepT 9)
      replace hBd := hBd.alloc hBd.size (.cells sepT 9)
      have hu2 := (World.cell?_alloc_some wd ⟨blk, off + i, none⟩ (.cells sepT 9) (by rw [hHeld.1]; rfl)).trans hHeld.1
      have hx2 := (World.cell?_alloc_some wd ⟨w.heap.size, q, none⟩ (.cells sepT 9) (by rw [hHeld.2]; rfl)).trans hHeld.2
      refine hK.out _ _ ⟨hu2, hx2⟩ (fun hHeld => ?_)
      clear hK K hu2 hx2
      generalize wd.alloc (.cells sepT 9) = we at hHeld hGd hBd hL ⊢
      generalize wd.heap.size = bl at hL ⊢
      refine wpAnyH_take (i := 19) (oi := ?oi19) (v := ?v19) ?ho19 (by kernel_rfl) (by kernel_rfl) (by kernel_rfl) ?hp19 (Or.inl ⟨?hw19, ?hy19⟩) (by assumption) ?rest19
      case ho19 => simp only [List.getElem?_toArray, List.getElem?_cons_succ, List.getElem?_cons_zero]; rfl
      case hp19 => exact fun _ _ _ h => h
      case hw19 => rfl
      case hy19 =>
        intro W hSw
        go_simp
        try exact rfl
      simp only [Act.put]
      refine wpAnyH_ready (rs := [20]) (by kernel_rfl) (by simp) ?_
      refine AllReadyH.cons rfl (fun K hK => ?_) AllReadyH.nil
      go_simp
      refine hK.out _ _ hHeld (fun hHeld => ?_)
      clear hK K
      refine wpAnyH_take (i := 21) (oi := ?oi20) (v := ?v20) ?ho20 (by kernel_rfl) (by kernel_rfl) (by kernel_rfl) ?hp20 (Or.inl ⟨?hw20, ?hy20⟩) (by assumption) ?rest20
      case ho20 => simp only [List.getElem?_toArray, List.getElem?_cons_succ, List.getElem?_cons_zero]; rfl
      case hp20 => exact fun _ _ _ h => h
      case hw20 => rfl
      case hy20 =>
        intro W hSw
        go_simp
        try exact rfl
      simp only [Act.put]
      refine wpAnyH_take (i := 22) (oi := ?oi21) (v := ?v21) ?ho21 (by kernel_rfl) (by kernel_rfl) (by kernel_rfl) ?hp21 (Or.inl ⟨?hw21, ?hy21⟩) (by assumption) ?rest21
      case ho21 => simp only [List.getElem?_toArray, List.getElem?_cons_succ, List.getElem?_cons_zero]; rfl
      case hp21 => exact fun _ _ _ h => h
      case hw21 => rfl
      case hy21 =>
        intro W hSw
        go_simp
        try exact rfl
      simp only [Act.put]
      refine wpAnyH_done (by kernel_rfl) ?_ _
      go_wp2
      go_roundw
      case rel => exact ⟨i + 1, _, by omega, by omega, by go_num, rfl, by rw [ByteArray.size_append, ByteArray.size_append]; omega, Lib.hid hGd, Lib.hid hBd⟩
      case measure => (first | (simp [intOf]; omega) | simp [intOf])
    · have hend := hB.out
      by_cases hI : (i : Int) < (n : Int)
      · have hI2 : ¬ (i : Int) < 20 := by omega
        go_wp2
        go_ret
        exact ⟨⟨_, rfl, by omega⟩, hend⟩
      · go_wp2
        go_ret
        exact ⟨⟨_, rfl, by omega⟩, hend⟩

end Go.Proofs.YtnghpjijfdpmkaaDoor.metric

