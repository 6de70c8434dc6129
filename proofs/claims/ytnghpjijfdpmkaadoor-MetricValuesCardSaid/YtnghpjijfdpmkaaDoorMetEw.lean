/- Made events: the walk. -/
import Derived.Test.YtnghpjijfdpmkaaDoorMetEv
import Derived.Deep.DrawnRows
import Derived.Deep.DeepCutAuto
import Derived.Deep.CutBlock
import Derived.Deep.AppendLies
import Derived.Laws.AppendOwn
import Derived.Deep.Onto
namespace Go.Proofs.YtnghpjijfdpmkaaDoor.metric
open Go.RowKit Go.Proofs.YtnghpjijfdpmkaaDoor Go.Proofs.YtnghpjijfdpmkaaDoor.text
attribute [local go_sem ↓] Go.wp_at_zero Go.wp_at_succ

theorem EvS.start {w : World} {a : Option Addr} {n c : Nat} (h : BytesIn w.cell? a n) :
    EvS w a n c [] (.slice none 0 0) ((w.alloc (.cells #[.slice a n c, .int .i64 0] 64)).alloc (.cells (sq3 0 0 0) 3)) := by
  have hb : Below w.heap.size w ((w.alloc (.cells #[.slice a n c, .int .i64 0] 64)).alloc (.cells (sq3 0 0 0) 3)) := ((Below.refl _ _).alloc (Nat.le_refl _) _).alloc (by simp) _
  have h1 := (Own.new w #[.slice a n c, .int .i64 0] 64).alloc (.cells (sq3 0 0 0) 3)
  have h2 := Own.new (w.alloc (.cells #[.slice a n c, .int .i64 0] 64)) (sq3 0 0 0) 3
  have e : (w.alloc (.cells #[.slice a n c, .int .i64 0] 64)).heap.size = w.heap.size + 1 := by simp
  rw [e] at h2
  refine ⟨⟨⟨0, h1, Nat.zero_le _⟩, h.1, ?_⟩, ⟨0, 0, 0, h2⟩, World.ownsRow_nil _ _ _ _, fun e he => by simp at he, hb⟩
  rcases h.2 with h0 | ⟨blk, off, rfl, hr⟩
  · exact Or.inl h0
  · by_cases hn0 : n = 0
    · exact Or.inl hn0
    have hlt : blk < w.heap.size := by
      obtain ⟨u, u0, u1, hu⟩ := hr 0 (by omega)
      exact World.block_lt_of_cell? w _ hu
    refine Or.inr ⟨blk, off, rfl, hlt, fun i hi => ?_⟩
    obtain ⟨u, u0, u1, hu⟩ := hr i hi
    refine ⟨u, u0, u1, ?_⟩
    unfold but
    rw [if_neg (by show ¬ blk = w.heap.size; omega)]
    exact sub_of_below hb _ _ hu
def lenOf : Value → Nat
  | .slice _ n _ => n
  | _ => 0
/-- What the making gives. -/
def MadeEvs (w : World) (e : Ending) (w' : World) : Prop :=
  (∃ (v : Value) (E : List EV), e = .returned v ∧ w'.ownsRow w.heap.size 40 10 v E.length (flatE E) ∧ (∀ e ∈ E, -4 ≤ e.value ∧ e.value ≤ 35) ∧ E.length ≤ 60) ∧ Below w.heap.size w w'
theorem EvS.made {w wr : World} {a : Option Addr} {n c : Nat} {E : List EV} {v : Value} (h : EvS w a n c E v wr) (hl : E.length ≤ 60) : MadeEvs w (.returned v) wr :=
  ⟨⟨v, E, rfl, h.row.mono (by omega), h.small, hl⟩, h.below⟩

theorem EvS.append {w u u' : World} {a : Option Addr} {n c : Nat} {E : List EV} {v v' : Value} (h : EvS w a n c E v u) {e : EV} (h1 : -4 ≤ e.value) (h2 : e.value ≤ 35) (ho : u'.ownsRow (w.heap.size + 2) 40 10 v' (E.length + 1) (flatE E ++ (evA e).toList)) (hg : u.grownBy u' v.ownBlock) : EvS w a n c (E ++ [e]) v' u' := by
  obtain ⟨x, y, z, hq⟩ := h.seq
  have hl := h.row.lt
  have hs := h.size
  refine ⟨?_, ⟨x, y, z, own_past h.row hq hg (by omega)⟩, ?_, fun f hf => ?_, h.below.grown hg h.below.size (fun j hj => by have := (hl j hj).1; omega)⟩
  · cases hv : v.ownBlock with
    | none =>
      rw [hv] at hg
      exact h.src.still (grown_none hg _) (h.src.1.kept hg (by simp))
    | some r =>
      rw [hv] at hg
      exact h.src.other hg (by have := (hl r hv).1; omega)
  · have e1 : flatE (E ++ [e]) = flatE E ++ (evA e).toList := by unfold flatE; simp
    rw [e1, List.length_append]
    exact ho
  · rcases List.mem_append.1 hf with hf | hf
    · exact h.small f hf
    · rw [List.mem_singleton.1 hf]; exact ⟨h1, h2⟩

set_option maxRecDepth 100000 in
set_option maxHeartbeats 40000000 in
theorem events_any (a : Option Addr) (n c : Nat) (w : World) (h : BytesIn w.cell? a n) :
    Calls Tryd.prog 18 #[.slice a n c] w (MadeEvs w) := by
  have hS0 := Lib.hid (EvS.start (c := c) h)
  obtain ⟨i0, hi, hz0, hz1, hz2⟩ := info_parts infoEv
  clear h
  go_enter Tryd.func18, Tryd.ntmps18
  go_wp2_with fail
  generalize (w.alloc (.cells _ 64)).alloc (.cells _ 3) = w0 at hS0 ⊢
  go_loopw [4, 5, 7] (fun s4 s5 s7 wr => ∃ (E : List EV) (va : Option Addr) (vc : Nat) (tm L : Int), s4 = .slice va E.length vc ∧ s5 = .int .i64 tm ∧ s7 = .int .i64 L ∧ E.length ≤ 60 ∧ Hid (EvS w a n c E (.slice va E.length vc) wr)) (fun s4 _ _ _ => 60 - lenOf s4)
  case atStart => exact ⟨[], none, 0, 0, -1, rfl, rfl, rfl, by simp, hS0⟩
  case round =>
    clear hS0
    obtain ⟨E, va, vc, tm, L, rfl, rfl, rfl, hE, hS⟩ := hrel
    go_wp2_with fail
    refine (hS.out.more).mono ?_
    rintro e u1 ⟨⟨y, rfl⟩, hS1⟩
    replace hS1 := Lib.hid hS1
    clear hS
    cases y
    case false =>
      go_wp2
      go_ret
      exact hS1.out.made hE
    case true =>
    by_cases hlt : E.length < 60
    case neg =>
      have hl : ¬ (E.length : Int) < 60 := by omega
      go_wp2
      go_ret
      exact hS1.out.made hE
    have hl : (E.length : Int) < 60 := by omega
    go_wp2_with fail
    refine (hS1.out.draw 4 (by decide) (by decide)).mono ?_
    rintro e u2 ⟨⟨st, rfl, hst⟩, hS2, -⟩
    replace hS2 := Lib.hid hS2
    clear hS1
    go_wp2_with fail
    refine (hS2.out.draw 3 (by decide) (by decide)).mono ?_
    rintro e u3 ⟨⟨k, rfl, hk⟩, hS3, -⟩
    replace hS3 := Lib.hid hS3
    clear hS2
    go_upto_region 8 with fail
    go_cut [33] (fun s33 wy => ∃ y : Bool, s33 = .bool y ∧ wy = u3)
    case first =>
      by_cases h0 : st = 0
      · have h1 : ((st : Int) == 0) = true := by simpa using h0
        go_wp2
        go_meet
        exact ⟨_, rfl, rfl⟩
      · have h1 : ((st : Int) == 0) = false := by simpa using h0
        go_wp2
        go_meet
        exact ⟨_, rfl, rfl⟩
    case rest =>
    obtain ⟨y, rfl, hwc⟩ := hcut
    replace hwc := hwc.symm
    subst hwc
    go_upto_if 33 with fail
    go_cut [8] (fun s8 wy => ∃ st' : Int, s8 = .int .i64 st' ∧ wy = u3)
    case first =>
      cases y
      · go_wp2
        go_meet
        exact ⟨_, rfl, rfl⟩
      · go_wp2
        go_meet
        exact ⟨_, rfl, rfl⟩
    case rest =>
    obtain ⟨st', rfl, hwc⟩ := hcut
    replace hwc := hwc.symm
    subst hwc
    obtain ⟨q, hq, hqf⟩ := hS3.out.seqAt (k := k) (by omega)
    have hS4 := Lib.hid (hS3.out.seqPut (k := k) (by omega) (wrap64 (q + 1)))
    have hql := hS3.out.size
    have k0 : (0 : Int) ≤ (k : Int) := Int.natCast_nonneg _
    go_upto_region 12 with fail
    generalize u3.setCell _ _ = u4 at hS4 ⊢
    generalize wrap64 (tm + st') = tm2
    have hk3 : k < 3 := by omega
    obtain ⟨qv, hqv, -⟩ := hS4.out.seqAt hk3
    have hC := Lib.hid ((EvC.zero hS4.out).cons hqv (by simp))
    clear hS3 hS4 hq hqf hqv
    go_cut [10] (fun s10 wy => ∃ (eb : Nat) (e : EV), s10 = .pointer (some ⟨eb, 0, none⟩) ∧ e.value = 0 ∧ Hid (EvB w a n c E (.slice va E.length vc) eb (evA e) wy))
    case first =>
      refine wp_region_held_drew (S := fun W => EvC w a n c E (.slice va E.length vc) [(⟨w.heap.size + 1, k, none⟩, .int .i64 qv)] W) (by kernel_rfl) hC.out.drew (fun hHeld => ?_)
      generalize u4.drew = wd at hHeld ⊢
      refine wpAnyH_take (i := 1) (oi := ?oi1) (v := ?v1) ?ho1 (by kernel_rfl) (by kernel_rfl) (by kernel_rfl) ?hp1 (Or.inl ⟨?hw1, ?hy1⟩) (by assumption) ?rest1
      case ho1 => simp only [List.getElem?_toArray, List.getElem?_cons_succ, List.getElem?_cons_zero]; rfl
      case hp1 => exact fun _ _ _ h => h
      case hw1 => rfl
      case hy1 =>
        intro W hSw
        go_simp
        try exact rfl
      simp only [Act.put]
      refine wpAnyH_take (i := 4) (oi := ?oi2) (v := ?v2) ?ho2 (by kernel_rfl) (by kernel_rfl) (by kernel_rfl) ?hp2 (Or.inl ⟨?hw2, ?hy2⟩) (by assumption) ?rest2
      case ho2 => simp only [List.getElem?_toArray, List.getElem?_cons_succ, List.getElem?_cons_zero]; rfl
      case hp2 => exact fun _ _ _ h => h
      case hw2 => rfl
      case hy2 =>
        intro W hSw
        go_simp
        try exact rfl
      simp only [Act.put]
      refine wpAnyH_take (i := 5) (oi := ?oi3) (v := ?v3) ?ho3 (by kernel_rfl) (by kernel_rfl) (by kernel_rfl) ?hp3 (Or.inl ⟨?hw3, ?hy3⟩) (by assumption) ?rest3
      case ho3 => simp only [List.getElem?_toArray, List.getElem?_cons_succ, List.getElem?_cons_zero]; rfl
      case hp3 => exact fun _ _ _ h => h
      case hw3 => rfl
      case hy3 =>
        intro W hSw
        go_simp
        try exact rfl
      simp only [Act.put]
      refine wpAnyH_take (i := 6) (oi := ?oi4) (v := ?v4) ?ho4 (by kernel_rfl) (by kernel_rfl) (by kernel_rfl) ?hp4 (Or.inl ⟨?hw4, ?hy4⟩) (by assumption) ?rest4
      case ho4 => simp only [List.getElem?_toArray, List.getElem?_cons_succ, List.getElem?_cons_zero]; rfl
      case hp4 => exact fun _ _ _ h => h
      case hw4 => rfl
      case hy4 =>
        intro W hSw
        go_simp
        try exact rfl
      simp only [Act.put]
      refine wpAnyH_take (i := 7) (oi := ?oi5) (v := ?v5) ?ho5 (by kernel_rfl) (by kernel_rfl) (by kernel_rfl) ?hp5 (Or.inl ⟨?hw5, ?hy5⟩) (by assumption) ?rest5
      case ho5 => simp only [List.getElem?_toArray, List.getElem?_cons_succ, List.getElem?_cons_zero]; rfl
      case hp5 => exact fun _ _ _ h => h
      case hw5 => rfl
      case hy5 =>
        intro W hSw
        have hq1 := (hSw.cell (⟨w.heap.size + 1, k, none⟩, .int .i64 qv) (by simp)).1
        go_simp
        try exact rfl
      simp only [Act.put]
      refine wpAnyH_take (i := 8) (oi := ?oi6) (v := ?v6) ?ho6 (by kernel_rfl) (by kernel_rfl) (by kernel_rfl) ?hp6 (Or.inl ⟨?hw6, ?hy6⟩) (by assumption) ?rest6
      case ho6 => simp only [List.getElem?_toArray, List.getElem?_cons_succ, List.getElem?_cons_zero]; rfl
      case hp6 => exact fun _ _ _ h => h
      case hw6 => rfl
      case hy6 =>
        intro W hSw
        go_simp
        try exact rfl
      simp only [Act.put]
      refine wpAnyH_take (i := 9) (oi := ?oi7) (v := ?v7) ?ho7 (by kernel_rfl) (by kernel_rfl) (by kernel_rfl) ?hp7 (Or.inl ⟨?hw7, ?hy7⟩) (by assumption) ?rest7
      case ho7 => simp only [List.getElem?_toArray, List.getElem?_cons_succ, List.getElem?_cons_zero]; rfl
      case hp7 => exact fun _ _ _ h => h
      case hw7 => rfl
      case hy7 =>
        intro W hSw
        go_simp
        try exact rfl
      simp only [Act.put]
      refine wpAnyH_ready (rs := [0, 10, 13]) (by kernel_rfl) (by simp) ?_
      refine AllReadyH.cons rfl (fun K hK => ?_) (AllReadyH.cons rfl (fun K hK => ?_) (AllReadyH.cons rfl (fun K hK => ?_) (AllReadyH.nil)))
      · go_simp
        obtain ⟨xc, hxc⟩ := text_in (Own.new wd C3 9) rfl texts3 hk3
        have hbl : w.heap.size + 2 ≤ wd.heap.size := hHeld.s.size
        have hb : Below wd.heap.size wd (wd.alloc (.cells C3 9)) := (Below.refl _ _).alloc (Nat.le_refl _) _
        have hH2 := hHeld.world hb
        have hH3 := hH2.cons hxc (show wd.heap.size ≠ w.heap.size by omega)
        clear hb hxc
        refine hK.out _ _ hH2 (fun hHeld => ?_)
        clear hK K hHeld hH2
        replace hHeld := hH3
        clear hH3
        try unfold C3 at hHeld
        try unfold C3
        generalize wd.alloc (.cells _ 9) = wv8 at hHeld ⊢
        generalize wd.heap.size = bl at hHeld hbl ⊢
        refine wpAnyH_narrow (S' := fun W => EvC w a n c E (.slice va E.length vc) ((⟨bl, k, none⟩, .string xc) :: [(⟨w.heap.size + 1, k, none⟩, .int .i64 qv)]) W) (fun _ h => h.tail) _ _ _ _ ?_
        refine wpAnyH_take (i := 2) (oi := ?oi9) (v := ?v9) ?ho9 (by kernel_rfl) (by kernel_rfl) (by kernel_rfl) ?hp9 (Or.inl ⟨?hw9, ?hy9⟩) (by assumption) ?rest9
        case ho9 => simp only [List.getElem?_toArray, List.getElem?_cons_succ, List.getElem?_cons_zero]; rfl
        case hp9 => exact fun _ _ _ h => h
        case hw9 => rfl
        case hy9 =>
          intro W hSw
          go_simp
          try exact rfl
        simp only [Act.put]
        refine wpAnyH_take (i := 3) (oi := ?oi10) (v := ?v10) ?ho10 (by kernel_rfl) (by kernel_rfl) (by kernel_rfl) ?hp10 (Or.inl ⟨?hw10, ?hy10⟩) (by assumption) ?rest10
        case ho10 => simp only [List.getElem?_toArray, List.getElem?_cons_succ, List.getElem?_cons_zero]; rfl
        case hp10 => exact fun _ _ _ h => h
        case hw10 => rfl
        case hy10 =>
          intro W hSw
          have hq1 := (hSw.cell (⟨bl, k, none⟩, .string xc) (by simp)).1
          go_simp
          try exact rfl
        simp only [Act.put]
        refine wpAnyH_ready (rs := [10, 13]) (by kernel_rfl) (by simp) ?_
        refine AllReadyH.cons rfl (fun K hK => ?_) (AllReadyH.cons rfl (fun K hK => ?_) (AllReadyH.nil))
        · go_simp
          refine (hHeld.s.draw 6 (by decide) (by decide)).mono ?_
          rintro e wv11 ⟨⟨ki, rfl, hki⟩, hSn, hG⟩
          refine hK.out _ _ (hHeld.next hSn hG) (fun hHeld => ?_)
          clear hSn hK K hG
          refine wpAnyH_ready (rs := [11, 13]) (by kernel_rfl) (by simp) ?_
          refine AllReadyH.cons rfl (fun K hK => ?_) (AllReadyH.cons rfl (fun K hK => ?_) (AllReadyH.nil))
          · go_simp
            refine (id_any ki _).mono ?_
            rintro e wv12 ⟨⟨xi, rfl⟩, hb⟩
            refine hK.out _ _ (hHeld.world hb) (fun hHeld => ?_)
            clear hK K hb
            refine wpAnyH_take (i := 12) (oi := ?oi13) (v := ?v13) ?ho13 (by kernel_rfl) (by kernel_rfl) (by kernel_rfl) ?hp13 (Or.inl ⟨?hw13, ?hy13⟩) (by assumption) ?rest13
            case ho13 => simp only [List.getElem?_toArray, List.getElem?_cons_succ, List.getElem?_cons_zero]; rfl
            case hp13 => exact fun _ _ _ h => h
            case hw13 => rfl
            case hy13 =>
              intro W hSw
              go_simp
              try exact rfl
            simp only [Act.put]
            refine wpAnyH_ready (rs := [13]) (by kernel_rfl) (by simp) ?_
            refine AllReadyH.cons rfl (fun K hK => ?_) (AllReadyH.nil)
            · go_simp
              have hX := EvB.new hHeld.s Z10
              have hne : bl < wv12.heap.size := cell_lt (hHeld.cell (⟨bl, k, none⟩, .string xc) (by simp)).1
              refine hK.out _ _ (hHeld.world ((Below.refl _ _).alloc (Nat.le_refl _) _)) (fun hHeld => ?_)
              clear hK K
              try unfold Z10 at hX
              try unfold Z10 at hHeld
              try unfold Z10
              generalize wv12.alloc (.cells _ 40) = wv14 at hHeld hX ⊢
              generalize wv12.heap.size = eb at hX hne ⊢
              refine wpAnyH_ready (rs := [14]) (by kernel_rfl) (by simp) ?_
              refine AllReadyH.cons rfl (fun K hK => ?_) (AllReadyH.nil)
              · have hcc := cells10 (e := ⟨⟨#[]⟩, 0, 0, 0, ⟨#[]⟩, ⟨#[]⟩, ⟨#[]⟩, 0, 0, 0⟩) hX.box
                have c0 := hcc.1.1
                have c1 := hcc.1.2.1
                have c2 := hcc.1.2.2.1
                have c3 := hcc.1.2.2.2.1
                have c4 := hcc.1.2.2.2.2.1
                have c5 := hcc.1.2.2.2.2.2.1
                have c6 := hcc.1.2.2.2.2.2.2.1
                have c7 := hcc.1.2.2.2.2.2.2.2.1
                have c8 := hcc.1.2.2.2.2.2.2.2.2.1
                have c9 := hcc.1.2.2.2.2.2.2.2.2.2
                have f0 := hcc.2.1
                have f1 := hcc.2.2.1
                have f2 := hcc.2.2.2.1
                have f3 := hcc.2.2.2.2.1
                have f4 := hcc.2.2.2.2.2.1
                have f5 := hcc.2.2.2.2.2.2.1
                have f6 := hcc.2.2.2.2.2.2.2.1
                have f7 := hcc.2.2.2.2.2.2.2.2.1
                have f8 := hcc.2.2.2.2.2.2.2.2.2.1
                have f9 := hcc.2.2.2.2.2.2.2.2.2.2
                clear hcc
                go_simp
                have hlo := hX.lo
                have hfar : ∀ p ∈ (((⟨bl, k, none⟩, .string xc) :: [(⟨w.heap.size + 1, k, none⟩, .int .i64 qv)]) : List (Addr × Value)), p.1.block ≠ eb := by
                  intro p hp; simp only [List.mem_cons, List.not_mem_nil, or_false] at hp; rcases hp with rfl | rfl
                  · show bl ≠ eb; omega
                  · show w.heap.size + 1 ≠ eb; omega
                have hCs := hHeld.set hX hfar 0 (.string xc)
                replace hX := hX.set 0 (.string xc)
                replace hCs := hCs.set hX hfar 1 (.int .i64 qv)
                replace hX := hX.set 1 (.int .i64 qv)
                replace hCs := hCs.set hX hfar 2 (.int .i64 0)
                replace hX := hX.set 2 (.int .i64 0)
                replace hCs := hCs.set hX hfar 3 (.int .i64 tm2)
                replace hX := hX.set 3 (.int .i64 tm2)
                replace hCs := hCs.set hX hfar 4 (.string xi)
                replace hX := hX.set 4 (.string xi)
                replace hCs := hCs.set hX hfar 5 (.string ⟨#[]⟩)
                replace hX := hX.set 5 (.string ⟨#[]⟩)
                replace hCs := hCs.set hX hfar 6 (.string ⟨#[]⟩)
                replace hX := hX.set 6 (.string ⟨#[]⟩)
                replace hCs := hCs.set hX hfar 7 (.int .i64 0)
                replace hX := hX.set 7 (.int .i64 0)
                replace hCs := hCs.set hX hfar 8 (.int .i64 0)
                replace hX := hX.set 8 (.int .i64 0)
                replace hCs := hCs.set hX hfar 9 (.int .i64 0)
                replace hX := hX.set 9 (.int .i64 0)
                simp only [List.setIfInBounds_toArray, List.set_cons_zero, List.set_cons_succ] at hX
                refine hK.out _ _ hCs (fun hHeld => ?_)
                clear hK K hCs c0 c1 c2 c3 c4 c5 c6 c7 c8 c9 f0 f1 f2 f3 f4 f5 f6 f7 f8 f9
                refine wpAnyH_done (by kernel_rfl) ?_ _
                go_wp2
                go_meet
                exact ⟨eb, ⟨xc, qv, 0, tm2, xi, ⟨#[]⟩, ⟨#[]⟩, 0, 0, 0⟩, rfl, rfl, Lib.hid hX⟩
          · go_simp
            have hX := EvB.new hHeld.s Z10
            have hne : bl < wv11.heap.size := cell_lt (hHeld.cell (⟨bl, k, none⟩, .string xc) (by simp)).1
            refine hK.out _ _ (hHeld.world ((Below.refl _ _).alloc (Nat.le_refl _) _)) (fun hHeld => ?_)
            clear hK K
            try unfold Z10 at hX
            try unfold Z10 at hHeld
            try unfold Z10
            generalize wv11.alloc (.cells _ 40) = wv16 at hHeld hX ⊢
            generalize wv11.heap.size = eb at hX hne ⊢
            refine wpAnyH_ready (rs := [11]) (by kernel_rfl) (by simp) ?_
            refine AllReadyH.cons rfl (fun K hK => ?_) (AllReadyH.nil)
            · go_simp
              refine (id_any ki _).mono ?_
              rintro e wv17 ⟨⟨xi, rfl⟩, hb⟩
              replace hX := hX.world hb
              refine hK.out _ _ (hHeld.world hb) (fun hHeld => ?_)
              clear hK K hb
              refine wpAnyH_take (i := 12) (oi := ?oi18) (v := ?v18) ?ho18 (by kernel_rfl) (by kernel_rfl) (by kernel_rfl) ?hp18 (Or.inl ⟨?hw18, ?hy18⟩) (by assumption) ?rest18
              case ho18 => simp only [List.getElem?_toArray, List.getElem?_cons_succ, List.getElem?_cons_zero]; rfl
              case hp18 => exact fun _ _ _ h => h
              case hw18 => rfl
              case hy18 =>
                intro W hSw
                go_simp
                try exact rfl
              simp only [Act.put]
              refine wpAnyH_ready (rs := [14]) (by kernel_rfl) (by simp) ?_
              refine AllReadyH.cons rfl (fun K hK => ?_) (AllReadyH.nil)
              · have hcc := cells10 (e := ⟨⟨#[]⟩, 0, 0, 0, ⟨#[]⟩, ⟨#[]⟩, ⟨#[]⟩, 0, 0, 0⟩) hX.box
                have c0 := hcc.1.1
                have c1 := hcc.1.2.1
                have c2 := hcc.1.2.2.1
                have c3 := hcc.1.2.2.2.1
                have c4 := hcc.1.2.2.2.2.1
                have c5 := hcc.1.2.2.2.2.2.1
                have c6 := hcc.1.2.2.2.2.2.2.1
                have c7 := hcc.1.2.2.2.2.2.2.2.1
                have c8 := hcc.1.2.2.2.2.2.2.2.2.1
                have c9 := hcc.1.2.2.2.2.2.2.2.2.2
                have f0 := hcc.2.1
                have f1 := hcc.2.2.1
                have f2 := hcc.2.2.2.1
                have f3 := hcc.2.2.2.2.1
                have f4 := hcc.2.2.2.2.2.1
                have f5 := hcc.2.2.2.2.2.2.1
                have f6 := hcc.2.2.2.2.2.2.2.1
                have f7 := hcc.2.2.2.2.2.2.2.2.1
                have f8 := hcc.2.2.2.2.2.2.2.2.2.1
                have f9 := hcc.2.2.2.2.2.2.2.2.2.2
                clear hcc
                go_simp
                have hlo := hX.lo
                have hfar : ∀ p ∈ (((⟨bl, k, none⟩, .string xc) :: [(⟨w.heap.size + 1, k, none⟩, .int .i64 qv)]) : List (Addr × Value)), p.1.block ≠ eb := by
                  intro p hp; simp only [List.mem_cons, List.not_mem_nil, or_false] at hp; rcases hp with rfl | rfl
                  · show bl ≠ eb; omega
                  · show w.heap.size + 1 ≠ eb; omega
                have hCs := hHeld.set hX hfar 0 (.string xc)
                replace hX := hX.set 0 (.string xc)
                replace hCs := hCs.set hX hfar 1 (.int .i64 qv)
                replace hX := hX.set 1 (.int .i64 qv)
                replace hCs := hCs.set hX hfar 2 (.int .i64 0)
                replace hX := hX.set 2 (.int .i64 0)
                replace hCs := hCs.set hX hfar 3 (.int .i64 tm2)
                replace hX := hX.set 3 (.int .i64 tm2)
                replace hCs := hCs.set hX hfar 4 (.string xi)
                replace hX := hX.set 4 (.string xi)
                replace hCs := hCs.set hX hfar 5 (.string ⟨#[]⟩)
                replace hX := hX.set 5 (.string ⟨#[]⟩)
                replace hCs := hCs.set hX hfar 6 (.string ⟨#[]⟩)
                replace hX := hX.set 6 (.string ⟨#[]⟩)
                replace hCs := hCs.set hX hfar 7 (.int .i64 0)
                replace hX := hX.set 7 (.int .i64 0)
                replace hCs := hCs.set hX hfar 8 (.int .i64 0)
                replace hX := hX.set 8 (.int .i64 0)
                replace hCs := hCs.set hX hfar 9 (.int .i64 0)
                replace hX := hX.set 9 (.int .i64 0)
                simp only [List.setIfInBounds_toArray, List.set_cons_zero, List.set_cons_succ] at hX
                refine hK.out _ _ hCs (fun hHeld => ?_)
                clear hK K hCs c0 c1 c2 c3 c4 c5 c6 c7 c8 c9 f0 f1 f2 f3 f4 f5 f6 f7 f8 f9
                refine wpAnyH_done (by kernel_rfl) ?_ _
                go_wp2
                go_meet
                exact ⟨eb, ⟨xc, qv, 0, tm2, xi, ⟨#[]⟩, ⟨#[]⟩, 0, 0, 0⟩, rfl, rfl, Lib.hid hX⟩
        · go_simp
          have hX := EvB.new hHeld.s Z10
          have hne : bl < wv8.heap.size := cell_lt (hHeld.cell (⟨bl, k, none⟩, .string xc) (by simp)).1
          refine hK.out _ _ (hHeld.world ((Below.refl _ _).alloc (Nat.le_refl _) _)) (fun hHeld => ?_)
          clear hK K
          try unfold Z10 at hX
          try unfold Z10 at hHeld
          try unfold Z10
          generalize wv8.alloc (.cells _ 40) = wv20 at hHeld hX ⊢
          generalize wv8.heap.size = eb at hX hne ⊢
          refine wpAnyH_ready (rs := [10]) (by kernel_rfl) (by simp) ?_
          refine AllReadyH.cons rfl (fun K hK => ?_) (AllReadyH.nil)
          · go_simp
            refine (hX.draw 6 (by decide) (by decide)).mono ?_
            rintro e wv21 ⟨⟨ki, rfl, hki⟩, hXn, hG⟩
            refine hK.out _ _ (hHeld.next hXn.s hG) (fun hHeld => ?_)
            replace hX := hXn
            clear hXn hK K hG
            refine wpAnyH_ready (rs := [11]) (by kernel_rfl) (by simp) ?_
            refine AllReadyH.cons rfl (fun K hK => ?_) (AllReadyH.nil)
            · go_simp
              refine (id_any ki _).mono ?_
              rintro e wv22 ⟨⟨xi, rfl⟩, hb⟩
              replace hX := hX.world hb
              refine hK.out _ _ (hHeld.world hb) (fun hHeld => ?_)
              clear hK K hb
              refine wpAnyH_take (i := 12) (oi := ?oi23) (v := ?v23) ?ho23 (by kernel_rfl) (by kernel_rfl) (by kernel_rfl) ?hp23 (Or.inl ⟨?hw23, ?hy23⟩) (by assumption) ?rest23
              case ho23 => simp only [List.getElem?_toArray, List.getElem?_cons_succ, List.getElem?_cons_zero]; rfl
              case hp23 => exact fun _ _ _ h => h
              case hw23 => rfl
              case hy23 =>
                intro W hSw
                go_simp
                try exact rfl
              simp only [Act.put]
              refine wpAnyH_ready (rs := [14]) (by kernel_rfl) (by simp) ?_
              refine AllReadyH.cons rfl (fun K hK => ?_) (AllReadyH.nil)
              · have hcc := cells10 (e := ⟨⟨#[]⟩, 0, 0, 0, ⟨#[]⟩, ⟨#[]⟩, ⟨#[]⟩, 0, 0, 0⟩) hX.box
                have c0 := hcc.1.1
                have c1 := hcc.1.2.1
                have c2 := hcc.1.2.2.1
                have c3 := hcc.1.2.2.2.1
                have c4 := hcc.1.2.2.2.2.1
                have c5 := hcc.1.2.2.2.2.2.1
                have c6 := hcc.1.2.2.2.2.2.2.1
                have c7 := hcc.1.2.2.2.2.2.2.2.1
                have c8 := hcc.1.2.2.2.2.2.2.2.2.1
                have c9 := hcc.1.2.2.2.2.2.2.2.2.2
                have f0 := hcc.2.1
                have f1 := hcc.2.2.1
                have f2 := hcc.2.2.2.1
                have f3 := hcc.2.2.2.2.1
                have f4 := hcc.2.2.2.2.2.1
                have f5 := hcc.2.2.2.2.2.2.1
                have f6 := hcc.2.2.2.2.2.2.2.1
                have f7 := hcc.2.2.2.2.2.2.2.2.1
                have f8 := hcc.2.2.2.2.2.2.2.2.2.1
                have f9 := hcc.2.2.2.2.2.2.2.2.2.2
                clear hcc
                go_simp
                have hlo := hX.lo
                have hfar : ∀ p ∈ (((⟨bl, k, none⟩, .string xc) :: [(⟨w.heap.size + 1, k, none⟩, .int .i64 qv)]) : List (Addr × Value)), p.1.block ≠ eb := by
                  intro p hp; simp only [List.mem_cons, List.not_mem_nil, or_false] at hp; rcases hp with rfl | rfl
                  · show bl ≠ eb; omega
                  · show w.heap.size + 1 ≠ eb; omega
                have hCs := hHeld.set hX hfar 0 (.string xc)
                replace hX := hX.set 0 (.string xc)
                replace hCs := hCs.set hX hfar 1 (.int .i64 qv)
                replace hX := hX.set 1 (.int .i64 qv)
                replace hCs := hCs.set hX hfar 2 (.int .i64 0)
                replace hX := hX.set 2 (.int .i64 0)
                replace hCs := hCs.set hX hfar 3 (.int .i64 tm2)
                replace hX := hX.set 3 (.int .i64 tm2)
                replace hCs := hCs.set hX hfar 4 (.string xi)
                replace hX := hX.set 4 (.string xi)
                replace hCs := hCs.set hX hfar 5 (.string ⟨#[]⟩)
                replace hX := hX.set 5 (.string ⟨#[]⟩)
                replace hCs := hCs.set hX hfar 6 (.string ⟨#[]⟩)
                replace hX := hX.set 6 (.string ⟨#[]⟩)
                replace hCs := hCs.set hX hfar 7 (.int .i64 0)
                replace hX := hX.set 7 (.int .i64 0)
                replace hCs := hCs.set hX hfar 8 (.int .i64 0)
                replace hX := hX.set 8 (.int .i64 0)
                replace hCs := hCs.set hX hfar 9 (.int .i64 0)
                replace hX := hX.set 9 (.int .i64 0)
                simp only [List.setIfInBounds_toArray, List.set_cons_zero, List.set_cons_succ] at hX
                refine hK.out _ _ hCs (fun hHeld => ?_)
                clear hK K hCs c0 c1 c2 c3 c4 c5 c6 c7 c8 c9 f0 f1 f2 f3 f4 f5 f6 f7 f8 f9
                refine wpAnyH_done (by kernel_rfl) ?_ _
                go_wp2
                go_meet
                exact ⟨eb, ⟨xc, qv, 0, tm2, xi, ⟨#[]⟩, ⟨#[]⟩, 0, 0, 0⟩, rfl, rfl, Lib.hid hX⟩
      · go_simp
        refine (hHeld.s.draw 6 (by decide) (by decide)).mono ?_
        rintro e wv25 ⟨⟨ki, rfl, hki⟩, hSn, hG⟩
        refine hK.out _ _ (hHeld.next hSn hG) (fun hHeld => ?_)
        clear hSn hK K hG
        refine wpAnyH_ready (rs := [0, 11, 13]) (by kernel_rfl) (by simp) ?_
        refine AllReadyH.cons rfl (fun K hK => ?_) (AllReadyH.cons rfl (fun K hK => ?_) (AllReadyH.cons rfl (fun K hK => ?_) (AllReadyH.nil)))
        · go_simp
          obtain ⟨xc, hxc⟩ := text_in (Own.new wv25 C3 9) rfl texts3 hk3
          have hbl : w.heap.size + 2 ≤ wv25.heap.size := hHeld.s.size
          have hb : Below wv25.heap.size wv25 (wv25.alloc (.cells C3 9)) := (Below.refl _ _).alloc (Nat.le_refl _) _
          have hH2 := hHeld.world hb
          have hH3 := hH2.cons hxc (show wv25.heap.size ≠ w.heap.size by omega)
          clear hb hxc
          refine hK.out _ _ hH2 (fun hHeld => ?_)
          clear hK K hHeld hH2
          replace hHeld := hH3
          clear hH3
          try unfold C3 at hHeld
          try unfold C3
          generalize wv25.alloc (.cells _ 9) = wv26 at hHeld ⊢
          generalize wv25.heap.size = bl at hHeld hbl ⊢
          refine wpAnyH_narrow (S' := fun W => EvC w a n c E (.slice va E.length vc) ((⟨bl, k, none⟩, .string xc) :: [(⟨w.heap.size + 1, k, none⟩, .int .i64 qv)]) W) (fun _ h => h.tail) _ _ _ _ ?_
          refine wpAnyH_take (i := 2) (oi := ?oi27) (v := ?v27) ?ho27 (by kernel_rfl) (by kernel_rfl) (by kernel_rfl) ?hp27 (Or.inl ⟨?hw27, ?hy27⟩) (by assumption) ?rest27
          case ho27 => simp only [List.getElem?_toArray, List.getElem?_cons_succ, List.getElem?_cons_zero]; rfl
          case hp27 => exact fun _ _ _ h => h
          case hw27 => rfl
          case hy27 =>
            intro W hSw
            go_simp
            try exact rfl
          simp only [Act.put]
          refine wpAnyH_take (i := 3) (oi := ?oi28) (v := ?v28) ?ho28 (by kernel_rfl) (by kernel_rfl) (by kernel_rfl) ?hp28 (Or.inl ⟨?hw28, ?hy28⟩) (by assumption) ?rest28
          case ho28 => simp only [List.getElem?_toArray, List.getElem?_cons_succ, List.getElem?_cons_zero]; rfl
          case hp28 => exact fun _ _ _ h => h
          case hw28 => rfl
          case hy28 =>
            intro W hSw
            have hq1 := (hSw.cell (⟨bl, k, none⟩, .string xc) (by simp)).1
            go_simp
            try exact rfl
          simp only [Act.put]
          refine wpAnyH_ready (rs := [11, 13]) (by kernel_rfl) (by simp) ?_
          refine AllReadyH.cons rfl (fun K hK => ?_) (AllReadyH.cons rfl (fun K hK => ?_) (AllReadyH.nil))
          · go_simp
            refine (id_any ki _).mono ?_
            rintro e wv29 ⟨⟨xi, rfl⟩, hb⟩
            refine hK.out _ _ (hHeld.world hb) (fun hHeld => ?_)
            clear hK K hb
            refine wpAnyH_take (i := 12) (oi := ?oi30) (v := ?v30) ?ho30 (by kernel_rfl) (by kernel_rfl) (by kernel_rfl) ?hp30 (Or.inl ⟨?hw30, ?hy30⟩) (by assumption) ?rest30
            case ho30 => simp only [List.getElem?_toArray, List.getElem?_cons_succ, List.getElem?_cons_zero]; rfl
            case hp30 => exact fun _ _ _ h => h
            case hw30 => rfl
            case hy30 =>
              intro W hSw
              go_simp
              try exact rfl
            simp only [Act.put]
            refine wpAnyH_ready (rs := [13]) (by kernel_rfl) (by simp) ?_
            refine AllReadyH.cons rfl (fun K hK => ?_) (AllReadyH.nil)
            · go_simp
              have hX := EvB.new hHeld.s Z10
              have hne : bl < wv29.heap.size := cell_lt (hHeld.cell (⟨bl, k, none⟩, .string xc) (by simp)).1
              refine hK.out _ _ (hHeld.world ((Below.refl _ _).alloc (Nat.le_refl _) _)) (fun hHeld => ?_)
              clear hK K
              try unfold Z10 at hX
              try unfold Z10 at hHeld
              try unfold Z10
              generalize wv29.alloc (.cells _ 40) = wv31 at hHeld hX ⊢
              generalize wv29.heap.size = eb at hX hne ⊢
              refine wpAnyH_ready (rs := [14]) (by kernel_rfl) (by simp) ?_
              refine AllReadyH.cons rfl (fun K hK => ?_) (AllReadyH.nil)
              · have hcc := cells10 (e := ⟨⟨#[]⟩, 0, 0, 0, ⟨#[]⟩, ⟨#[]⟩, ⟨#[]⟩, 0, 0, 0⟩) hX.box
                have c0 := hcc.1.1
                have c1 := hcc.1.2.1
                have c2 := hcc.1.2.2.1
                have c3 := hcc.1.2.2.2.1
                have c4 := hcc.1.2.2.2.2.1
                have c5 := hcc.1.2.2.2.2.2.1
                have c6 := hcc.1.2.2.2.2.2.2.1
                have c7 := hcc.1.2.2.2.2.2.2.2.1
                have c8 := hcc.1.2.2.2.2.2.2.2.2.1
                have c9 := hcc.1.2.2.2.2.2.2.2.2.2
                have f0 := hcc.2.1
                have f1 := hcc.2.2.1
                have f2 := hcc.2.2.2.1
                have f3 := hcc.2.2.2.2.1
                have f4 := hcc.2.2.2.2.2.1
                have f5 := hcc.2.2.2.2.2.2.1
                have f6 := hcc.2.2.2.2.2.2.2.1
                have f7 := hcc.2.2.2.2.2.2.2.2.1
                have f8 := hcc.2.2.2.2.2.2.2.2.2.1
                have f9 := hcc.2.2.2.2.2.2.2.2.2.2
                clear hcc
                go_simp
                have hlo := hX.lo
                have hfar : ∀ p ∈ (((⟨bl, k, none⟩, .string xc) :: [(⟨w.heap.size + 1, k, none⟩, .int .i64 qv)]) : List (Addr × Value)), p.1.block ≠ eb := by
                  intro p hp; simp only [List.mem_cons, List.not_mem_nil, or_false] at hp; rcases hp with rfl | rfl
                  · show bl ≠ eb; omega
                  · show w.heap.size + 1 ≠ eb; omega
                have hCs := hHeld.set hX hfar 0 (.string xc)
                replace hX := hX.set 0 (.string xc)
                replace hCs := hCs.set hX hfar 1 (.int .i64 qv)
                replace hX := hX.set 1 (.int .i64 qv)
                replace hCs := hCs.set hX hfar 2 (.int .i64 0)
                replace hX := hX.set 2 (.int .i64 0)
                replace hCs := hCs.set hX hfar 3 (.int .i64 tm2)
                replace hX := hX.set 3 (.int .i64 tm2)
                replace hCs := hCs.set hX hfar 4 (.string xi)
                replace hX := hX.set 4 (.string xi)
                replace hCs := hCs.set hX hfar 5 (.string ⟨#[]⟩)
                replace hX := hX.set 5 (.string ⟨#[]⟩)
                replace hCs := hCs.set hX hfar 6 (.string ⟨#[]⟩)
                replace hX := hX.set 6 (.string ⟨#[]⟩)
                replace hCs := hCs.set hX hfar 7 (.int .i64 0)
                replace hX := hX.set 7 (.int .i64 0)
                replace hCs := hCs.set hX hfar 8 (.int .i64 0)
                replace hX := hX.set 8 (.int .i64 0)
                replace hCs := hCs.set hX hfar 9 (.int .i64 0)
                replace hX := hX.set 9 (.int .i64 0)
                simp only [List.setIfInBounds_toArray, List.set_cons_zero, List.set_cons_succ] at hX
                refine hK.out _ _ hCs (fun hHeld => ?_)
                clear hK K hCs c0 c1 c2 c3 c4 c5 c6 c7 c8 c9 f0 f1 f2 f3 f4 f5 f6 f7 f8 f9
                refine wpAnyH_done (by kernel_rfl) ?_ _
                go_wp2
                go_meet
                exact ⟨eb, ⟨xc, qv, 0, tm2, xi, ⟨#[]⟩, ⟨#[]⟩, 0, 0, 0⟩, rfl, rfl, Lib.hid hX⟩
          · go_simp
            have hX := EvB.new hHeld.s Z10
            have hne : bl < wv26.heap.size := cell_lt (hHeld.cell (⟨bl, k, none⟩, .string xc) (by simp)).1
            refine hK.out _ _ (hHeld.world ((Below.refl _ _).alloc (Nat.le_refl _) _)) (fun hHeld => ?_)
            clear hK K
            try unfold Z10 at hX
            try unfold Z10 at hHeld
            try unfold Z10
            generalize wv26.alloc (.cells _ 40) = wv33 at hHeld hX ⊢
            generalize wv26.heap.size = eb at hX hne ⊢
            refine wpAnyH_ready (rs := [11]) (by kernel_rfl) (by simp) ?_
            refine AllReadyH.cons rfl (fun K hK => ?_) (AllReadyH.nil)
            · go_simp
              refine (id_any ki _).mono ?_
              rintro e wv34 ⟨⟨xi, rfl⟩, hb⟩
              replace hX := hX.world hb
              refine hK.out _ _ (hHeld.world hb) (fun hHeld => ?_)
              clear hK K hb
              refine wpAnyH_take (i := 12) (oi := ?oi35) (v := ?v35) ?ho35 (by kernel_rfl) (by kernel_rfl) (by kernel_rfl) ?hp35 (Or.inl ⟨?hw35, ?hy35⟩) (by assumption) ?rest35
              case ho35 => simp only [List.getElem?_toArray, List.getElem?_cons_succ, List.getElem?_cons_zero]; rfl
              case hp35 => exact fun _ _ _ h => h
              case hw35 => rfl
              case hy35 =>
                intro W hSw
                go_simp
                try exact rfl
              simp only [Act.put]
              refine wpAnyH_ready (rs := [14]) (by kernel_rfl) (by simp) ?_
              refine AllReadyH.cons rfl (fun K hK => ?_) (AllReadyH.nil)
              · have hcc := cells10 (e := ⟨⟨#[]⟩, 0, 0, 0, ⟨#[]⟩, ⟨#[]⟩, ⟨#[]⟩, 0, 0, 0⟩) hX.box
                have c0 := hcc.1.1
                have c1 := hcc.1.2.1
                have c2 := hcc.1.2.2.1
                have c3 := hcc.1.2.2.2.1
                have c4 := hcc.1.2.2.2.2.1
                have c5 := hcc.1.2.2.2.2.2.1
                have c6 := hcc.1.2.2.2.2.2.2.1
                have c7 := hcc.1.2.2.2.2.2.2.2.1
                have c8 := hcc.1.2.2.2.2.2.2.2.2.1
                have c9 := hcc.1.2.2.2.2.2.2.2.2.2
                have f0 := hcc.2.1
                have f1 := hcc.2.2.1
                have f2 := hcc.2.2.2.1
                have f3 := hcc.2.2.2.2.1
                have f4 := hcc.2.2.2.2.2.1
                have f5 := hcc.2.2.2.2.2.2.1
                have f6 := hcc.2.2.2.2.2.2.2.1
                have f7 := hcc.2.2.2.2.2.2.2.2.1
                have f8 := hcc.2.2.2.2.2.2.2.2.2.1
                have f9 := hcc.2.2.2.2.2.2.2.2.2.2
                clear hcc
                go_simp
                have hlo := hX.lo
                have hfar : ∀ p ∈ (((⟨bl, k, none⟩, .string xc) :: [(⟨w.heap.size + 1, k, none⟩, .int .i64 qv)]) : List (Addr × Value)), p.1.block ≠ eb := by
                  intro p hp; simp only [List.mem_cons, List.not_mem_nil, or_false] at hp; rcases hp with rfl | rfl
                  · show bl ≠ eb; omega
                  · show w.heap.size + 1 ≠ eb; omega
                have hCs := hHeld.set hX hfar 0 (.string xc)
                replace hX := hX.set 0 (.string xc)
                replace hCs := hCs.set hX hfar 1 (.int .i64 qv)
                replace hX := hX.set 1 (.int .i64 qv)
                replace hCs := hCs.set hX hfar 2 (.int .i64 0)
                replace hX := hX.set 2 (.int .i64 0)
                replace hCs := hCs.set hX hfar 3 (.int .i64 tm2)
                replace hX := hX.set 3 (.int .i64 tm2)
                replace hCs := hCs.set hX hfar 4 (.string xi)
                replace hX := hX.set 4 (.string xi)
                replace hCs := hCs.set hX hfar 5 (.string ⟨#[]⟩)
                replace hX := hX.set 5 (.string ⟨#[]⟩)
                replace hCs := hCs.set hX hfar 6 (.string ⟨#[]⟩)
                replace hX := hX.set 6 (.string ⟨#[]⟩)
                replace hCs := hCs.set hX hfar 7 (.int .i64 0)
                replace hX := hX.set 7 (.int .i64 0)
                replace hCs := hCs.set hX hfar 8 (.int .i64 0)
                replace hX := hX.set 8 (.int .i64 0)
                replace hCs := hCs.set hX hfar 9 (.int .i64 0)
                replace hX := hX.set 9 (.int .i64 0)
                simp only [List.setIfInBounds_toArray, List.set_cons_zero, List.set_cons_succ] at hX
                refine hK.out _ _ hCs (fun hHeld => ?_)
                clear hK K hCs c0 c1 c2 c3 c4 c5 c6 c7 c8 c9 f0 f1 f2 f3 f4 f5 f6 f7 f8 f9
                refine wpAnyH_done (by kernel_rfl) ?_ _
                go_wp2
                go_meet
                exact ⟨eb, ⟨xc, qv, 0, tm2, xi, ⟨#[]⟩, ⟨#[]⟩, 0, 0, 0⟩, rfl, rfl, Lib.hid hX⟩
        · go_simp
          refine (id_any ki _).mono ?_
          rintro e wv37 ⟨⟨xi, rfl⟩, hb⟩
          refine hK.out _ _ (hHeld.world hb) (fun hHeld => ?_)
          clear hK K hb
          refine wpAnyH_ready (rs := [0, 13]) (by kernel_rfl) (by simp) ?_
          refine AllReadyH.cons rfl (fun K hK => ?_) (AllReadyH.cons rfl (fun K hK => ?_) (AllReadyH.nil))
          · go_simp
            obtain ⟨xc, hxc⟩ := text_in (Own.new wv37 C3 9) rfl texts3 hk3
            have hbl : w.heap.size + 2 ≤ wv37.heap.size := hHeld.s.size
            have hb : Below wv37.heap.size wv37 (wv37.alloc (.cells C3 9)) := (Below.refl _ _).alloc (Nat.le_refl _) _
            have hH2 := hHeld.world hb
            have hH3 := hH2.cons hxc (show wv37.heap.size ≠ w.heap.size by omega)
            clear hb hxc
            refine hK.out _ _ hH2 (fun hHeld => ?_)
            clear hK K hHeld hH2
            replace hHeld := hH3
            clear hH3
            try unfold C3 at hHeld
            try unfold C3
            generalize wv37.alloc (.cells _ 9) = wv38 at hHeld ⊢
            generalize wv37.heap.size = bl at hHeld hbl ⊢
            refine wpAnyH_narrow (S' := fun W => EvC w a n c E (.slice va E.length vc) ((⟨bl, k, none⟩, .string xc) :: [(⟨w.heap.size + 1, k, none⟩, .int .i64 qv)]) W) (fun _ h => h.tail) _ _ _ _ ?_
            refine wpAnyH_take (i := 2) (oi := ?oi39) (v := ?v39) ?ho39 (by kernel_rfl) (by kernel_rfl) (by kernel_rfl) ?hp39 (Or.inl ⟨?hw39, ?hy39⟩) (by assumption) ?rest39
            case ho39 => simp only [List.getElem?_toArray, List.getElem?_cons_succ, List.getElem?_cons_zero]; rfl
            case hp39 => exact fun _ _ _ h => h
            case hw39 => rfl
            case hy39 =>
              intro W hSw
              go_simp
              try exact rfl
            simp only [Act.put]
            refine wpAnyH_take (i := 3) (oi := ?oi40) (v := ?v40) ?ho40 (by kernel_rfl) (by kernel_rfl) (by kernel_rfl) ?hp40 (Or.inl ⟨?hw40, ?hy40⟩) (by assumption) ?rest40
            case ho40 => simp only [List.getElem?_toArray, List.getElem?_cons_succ, List.getElem?_cons_zero]; rfl
            case hp40 => exact fun _ _ _ h => h
            case hw40 => rfl
            case hy40 =>
              intro W hSw
              have hq1 := (hSw.cell (⟨bl, k, none⟩, .string xc) (by simp)).1
              go_simp
              try exact rfl
            simp only [Act.put]
            refine wpAnyH_take (i := 12) (oi := ?oi41) (v := ?v41) ?ho41 (by kernel_rfl) (by kernel_rfl) (by kernel_rfl) ?hp41 (Or.inl ⟨?hw41, ?hy41⟩) (by assumption) ?rest41
            case ho41 => simp only [List.getElem?_toArray, List.getElem?_cons_succ, List.getElem?_cons_zero]; rfl
            case hp41 => exact fun _ _ _ h => h
            case hw41 => rfl
            case hy41 =>
              intro W hSw
              go_simp
              try exact rfl
            simp only [Act.put]
            refine wpAnyH_ready (rs := [13]) (by kernel_rfl) (by simp) ?_
            refine AllReadyH.cons rfl (fun K hK => ?_) (AllReadyH.nil)
            · go_simp
              have hX := EvB.new hHeld.s Z10
              have hne : bl < wv38.heap.size := cell_lt (hHeld.cell (⟨bl, k, none⟩, .string xc) (by simp)).1
              refine hK.out _ _ (hHeld.world ((Below.refl _ _).alloc (Nat.le_refl _) _)) (fun hHeld => ?_)
              clear hK K
              try unfold Z10 at hX
              try unfold Z10 at hHeld
              try unfold Z10
              generalize wv38.alloc (.cells _ 40) = wv42 at hHeld hX ⊢
              generalize wv38.heap.size = eb at hX hne ⊢
              refine wpAnyH_ready (rs := [14]) (by kernel_rfl) (by simp) ?_
              refine AllReadyH.cons rfl (fun K hK => ?_) (AllReadyH.nil)
              · have hcc := cells10 (e := ⟨⟨#[]⟩, 0, 0, 0, ⟨#[]⟩, ⟨#[]⟩, ⟨#[]⟩, 0, 0, 0⟩) hX.box
                have c0 := hcc.1.1
                have c1 := hcc.1.2.1
                have c2 := hcc.1.2.2.1
                have c3 := hcc.1.2.2.2.1
                have c4 := hcc.1.2.2.2.2.1
                have c5 := hcc.1.2.2.2.2.2.1
                have c6 := hcc.1.2.2.2.2.2.2.1
                have c7 := hcc.1.2.2.2.2.2.2.2.1
                have c8 := hcc.1.2.2.2.2.2.2.2.2.1
                have c9 := hcc.1.2.2.2.2.2.2.2.2.2
                have f0 := hcc.2.1
                have f1 := hcc.2.2.1
                have f2 := hcc.2.2.2.1
                have f3 := hcc.2.2.2.2.1
                have f4 := hcc.2.2.2.2.2.1
                have f5 := hcc.2.2.2.2.2.2.1
                have f6 := hcc.2.2.2.2.2.2.2.1
                have f7 := hcc.2.2.2.2.2.2.2.2.1
                have f8 := hcc.2.2.2.2.2.2.2.2.2.1
                have f9 := hcc.2.2.2.2.2.2.2.2.2.2
                clear hcc
                go_simp
                have hlo := hX.lo
                have hfar : ∀ p ∈ (((⟨bl, k, none⟩, .string xc) :: [(⟨w.heap.size + 1, k, none⟩, .int .i64 qv)]) : List (Addr × Value)), p.1.block ≠ eb := by
                  intro p hp; simp only [List.mem_cons, List.not_mem_nil, or_false] at hp; rcases hp with rfl | rfl
                  · show bl ≠ eb; omega
                  · show w.heap.size + 1 ≠ eb; omega
                have hCs := hHeld.set hX hfar 0 (.string xc)
                replace hX := hX.set 0 (.string xc)
                replace hCs := hCs.set hX hfar 1 (.int .i64 qv)
                replace hX := hX.set 1 (.int .i64 qv)
                replace hCs := hCs.set hX hfar 2 (.int .i64 0)
                replace hX := hX.set 2 (.int .i64 0)
                replace hCs := hCs.set hX hfar 3 (.int .i64 tm2)
                replace hX := hX.set 3 (.int .i64 tm2)
                replace hCs := hCs.set hX hfar 4 (.string xi)
                replace hX := hX.set 4 (.string xi)
                replace hCs := hCs.set hX hfar 5 (.string ⟨#[]⟩)
                replace hX := hX.set 5 (.string ⟨#[]⟩)
                replace hCs := hCs.set hX hfar 6 (.string ⟨#[]⟩)
                replace hX := hX.set 6 (.string ⟨#[]⟩)
                replace hCs := hCs.set hX hfar 7 (.int .i64 0)
                replace hX := hX.set 7 (.int .i64 0)
                replace hCs := hCs.set hX hfar 8 (.int .i64 0)
                replace hX := hX.set 8 (.int .i64 0)
                replace hCs := hCs.set hX hfar 9 (.int .i64 0)
                replace hX := hX.set 9 (.int .i64 0)
                simp only [List.setIfInBounds_toArray, List.set_cons_zero, List.set_cons_succ] at hX
                refine hK.out _ _ hCs (fun hHeld => ?_)
                clear hK K hCs c0 c1 c2 c3 c4 c5 c6 c7 c8 c9 f0 f1 f2 f3 f4 f5 f6 f7 f8 f9
                refine wpAnyH_done (by kernel_rfl) ?_ _
                go_wp2
                go_meet
                exact ⟨eb, ⟨xc, qv, 0, tm2, xi, ⟨#[]⟩, ⟨#[]⟩, 0, 0, 0⟩, rfl, rfl, Lib.hid hX⟩
          · go_simp
            have hX := EvB.new hHeld.s Z10
            refine hK.out _ _ (hHeld.world ((Below.refl _ _).alloc (Nat.le_refl _) _)) (fun hHeld => ?_)
            clear hK K
            try unfold Z10 at hX
            try unfold Z10 at hHeld
            try unfold Z10
            generalize wv37.alloc (.cells _ 40) = wv44 at hHeld hX ⊢
            generalize wv37.heap.size = eb at hX ⊢
            refine wpAnyH_ready (rs := [0]) (by kernel_rfl) (by simp) ?_
            refine AllReadyH.cons rfl (fun K hK => ?_) (AllReadyH.nil)
            · go_simp
              obtain ⟨xc, hxc⟩ := text_in (Own.new wv44 C3 9) rfl texts3 hk3
              have hbl : w.heap.size + 2 ≤ wv44.heap.size := hHeld.s.size
              have hb : Below wv44.heap.size wv44 (wv44.alloc (.cells C3 9)) := (Below.refl _ _).alloc (Nat.le_refl _) _
              have hne : eb < wv44.heap.size := hX.box.lt
              replace hX := hX.world hb
              have hH2 := hHeld.world hb
              have hH3 := hH2.cons hxc (show wv44.heap.size ≠ w.heap.size by omega)
              clear hb hxc
              refine hK.out _ _ hH2 (fun hHeld => ?_)
              clear hK K hHeld hH2
              replace hHeld := hH3
              clear hH3
              try unfold C3 at hHeld
              try unfold C3 at hX
              try unfold C3
              generalize wv44.alloc (.cells _ 9) = wv45 at hHeld hX ⊢
              generalize wv44.heap.size = bl at hHeld hbl hne ⊢
              refine wpAnyH_narrow (S' := fun W => EvC w a n c E (.slice va E.length vc) ((⟨bl, k, none⟩, .string xc) :: [(⟨w.heap.size + 1, k, none⟩, .int .i64 qv)]) W) (fun _ h => h.tail) _ _ _ _ ?_
              refine wpAnyH_take (i := 2) (oi := ?oi46) (v := ?v46) ?ho46 (by kernel_rfl) (by kernel_rfl) (by kernel_rfl) ?hp46 (Or.inl ⟨?hw46, ?hy46⟩) (by assumption) ?rest46
              case ho46 => simp only [List.getElem?_toArray, List.getElem?_cons_succ, List.getElem?_cons_zero]; rfl
              case hp46 => exact fun _ _ _ h => h
              case hw46 => rfl
              case hy46 =>
                intro W hSw
                go_simp
                try exact rfl
              simp only [Act.put]
              refine wpAnyH_take (i := 3) (oi := ?oi47) (v := ?v47) ?ho47 (by kernel_rfl) (by kernel_rfl) (by kernel_rfl) ?hp47 (Or.inl ⟨?hw47, ?hy47⟩) (by assumption) ?rest47
              case ho47 => simp only [List.getElem?_toArray, List.getElem?_cons_succ, List.getElem?_cons_zero]; rfl
              case hp47 => exact fun _ _ _ h => h
              case hw47 => rfl
              case hy47 =>
                intro W hSw
                have hq1 := (hSw.cell (⟨bl, k, none⟩, .string xc) (by simp)).1
                go_simp
                try exact rfl
              simp only [Act.put]
              refine wpAnyH_take (i := 12) (oi := ?oi48) (v := ?v48) ?ho48 (by kernel_rfl) (by kernel_rfl) (by kernel_rfl) ?hp48 (Or.inl ⟨?hw48, ?hy48⟩) (by assumption) ?rest48
              case ho48 => simp only [List.getElem?_toArray, List.getElem?_cons_succ, List.getElem?_cons_zero]; rfl
              case hp48 => exact fun _ _ _ h => h
              case hw48 => rfl
              case hy48 =>
                intro W hSw
                go_simp
                try exact rfl
              simp only [Act.put]
              refine wpAnyH_ready (rs := [14]) (by kernel_rfl) (by simp) ?_
              refine AllReadyH.cons rfl (fun K hK => ?_) (AllReadyH.nil)
              · have hcc := cells10 (e := ⟨⟨#[]⟩, 0, 0, 0, ⟨#[]⟩, ⟨#[]⟩, ⟨#[]⟩, 0, 0, 0⟩) hX.box
                have c0 := hcc.1.1
                have c1 := hcc.1.2.1
                have c2 := hcc.1.2.2.1
                have c3 := hcc.1.2.2.2.1
                have c4 := hcc.1.2.2.2.2.1
                have c5 := hcc.1.2.2.2.2.2.1
                have c6 := hcc.1.2.2.2.2.2.2.1
                have c7 := hcc.1.2.2.2.2.2.2.2.1
                have c8 := hcc.1.2.2.2.2.2.2.2.2.1
                have c9 := hcc.1.2.2.2.2.2.2.2.2.2
                have f0 := hcc.2.1
                have f1 := hcc.2.2.1
                have f2 := hcc.2.2.2.1
                have f3 := hcc.2.2.2.2.1
                have f4 := hcc.2.2.2.2.2.1
                have f5 := hcc.2.2.2.2.2.2.1
                have f6 := hcc.2.2.2.2.2.2.2.1
                have f7 := hcc.2.2.2.2.2.2.2.2.1
                have f8 := hcc.2.2.2.2.2.2.2.2.2.1
                have f9 := hcc.2.2.2.2.2.2.2.2.2.2
                clear hcc
                go_simp
                have hlo := hX.lo
                have hfar : ∀ p ∈ (((⟨bl, k, none⟩, .string xc) :: [(⟨w.heap.size + 1, k, none⟩, .int .i64 qv)]) : List (Addr × Value)), p.1.block ≠ eb := by
                  intro p hp; simp only [List.mem_cons, List.not_mem_nil, or_false] at hp; rcases hp with rfl | rfl
                  · show bl ≠ eb; omega
                  · show w.heap.size + 1 ≠ eb; omega
                have hCs := hHeld.set hX hfar 0 (.string xc)
                replace hX := hX.set 0 (.string xc)
                replace hCs := hCs.set hX hfar 1 (.int .i64 qv)
                replace hX := hX.set 1 (.int .i64 qv)
                replace hCs := hCs.set hX hfar 2 (.int .i64 0)
                replace hX := hX.set 2 (.int .i64 0)
                replace hCs := hCs.set hX hfar 3 (.int .i64 tm2)
                replace hX := hX.set 3 (.int .i64 tm2)
                replace hCs := hCs.set hX hfar 4 (.string xi)
                replace hX := hX.set 4 (.string xi)
                replace hCs := hCs.set hX hfar 5 (.string ⟨#[]⟩)
                replace hX := hX.set 5 (.string ⟨#[]⟩)
                replace hCs := hCs.set hX hfar 6 (.string ⟨#[]⟩)
                replace hX := hX.set 6 (.string ⟨#[]⟩)
                replace hCs := hCs.set hX hfar 7 (.int .i64 0)
                replace hX := hX.set 7 (.int .i64 0)
                replace hCs := hCs.set hX hfar 8 (.int .i64 0)
                replace hX := hX.set 8 (.int .i64 0)
                replace hCs := hCs.set hX hfar 9 (.int .i64 0)
                replace hX := hX.set 9 (.int .i64 0)
                simp only [List.setIfInBounds_toArray, List.set_cons_zero, List.set_cons_succ] at hX
                refine hK.out _ _ hCs (fun hHeld => ?_)
                clear hK K hCs c0 c1 c2 c3 c4 c5 c6 c7 c8 c9 f0 f1 f2 f3 f4 f5 f6 f7 f8 f9
                refine wpAnyH_done (by kernel_rfl) ?_ _
                go_wp2
                go_meet
                exact ⟨eb, ⟨xc, qv, 0, tm2, xi, ⟨#[]⟩, ⟨#[]⟩, 0, 0, 0⟩, rfl, rfl, Lib.hid hX⟩
        · go_simp
          have hX := EvB.new hHeld.s Z10
          refine hK.out _ _ (hHeld.world ((Below.refl _ _).alloc (Nat.le_refl _) _)) (fun hHeld => ?_)
          clear hK K
          try unfold Z10 at hX
          try unfold Z10 at hHeld
          try unfold Z10
          generalize wv25.alloc (.cells _ 40) = wv50 at hHeld hX ⊢
          generalize wv25.heap.size = eb at hX ⊢
          refine wpAnyH_ready (rs := [0, 11]) (by kernel_rfl) (by simp) ?_
          refine AllReadyH.cons rfl (fun K hK => ?_) (AllReadyH.cons rfl (fun K hK => ?_) (AllReadyH.nil))
          · go_simp
            obtain ⟨xc, hxc⟩ := text_in (Own.new wv50 C3 9) rfl texts3 hk3
            have hbl : w.heap.size + 2 ≤ wv50.heap.size := hHeld.s.size
            have hb : Below wv50.heap.size wv50 (wv50.alloc (.cells C3 9)) := (Below.refl _ _).alloc (Nat.le_refl _) _
            have hne : eb < wv50.heap.size := hX.box.lt
            replace hX := hX.world hb
            have hH2 := hHeld.world hb
            have hH3 := hH2.cons hxc (show wv50.heap.size ≠ w.heap.size by omega)
            clear hb hxc
            refine hK.out _ _ hH2 (fun hHeld => ?_)
            clear hK K hHeld hH2
            replace hHeld := hH3
            clear hH3
            try unfold C3 at hHeld
            try unfold C3 at hX
            try unfold C3
            generalize wv50.alloc (.cells _ 9) = wv51 at hHeld hX ⊢
            generalize wv50.heap.size = bl at hHeld hbl hne ⊢
            refine wpAnyH_narrow (S' := fun W => EvC w a n c E (.slice va E.length vc) ((⟨bl, k, none⟩, .string xc) :: [(⟨w.heap.size + 1, k, none⟩, .int .i64 qv)]) W) (fun _ h => h.tail) _ _ _ _ ?_
            refine wpAnyH_take (i := 2) (oi := ?oi52) (v := ?v52) ?ho52 (by kernel_rfl) (by kernel_rfl) (by kernel_rfl) ?hp52 (Or.inl ⟨?hw52, ?hy52⟩) (by assumption) ?rest52
            case ho52 => simp only [List.getElem?_toArray, List.getElem?_cons_succ, List.getElem?_cons_zero]; rfl
            case hp52 => exact fun _ _ _ h => h
            case hw52 => rfl
            case hy52 =>
              intro W hSw
              go_simp
              try exact rfl
            simp only [Act.put]
            refine wpAnyH_take (i := 3) (oi := ?oi53) (v := ?v53) ?ho53 (by kernel_rfl) (by kernel_rfl) (by kernel_rfl) ?hp53 (Or.inl ⟨?hw53, ?hy53⟩) (by assumption) ?rest53
            case ho53 => simp only [List.getElem?_toArray, List.getElem?_cons_succ, List.getElem?_cons_zero]; rfl
            case hp53 => exact fun _ _ _ h => h
            case hw53 => rfl
            case hy53 =>
              intro W hSw
              have hq1 := (hSw.cell (⟨bl, k, none⟩, .string xc) (by simp)).1
              go_simp
              try exact rfl
            simp only [Act.put]
            refine wpAnyH_ready (rs := [11]) (by kernel_rfl) (by simp) ?_
            refine AllReadyH.cons rfl (fun K hK => ?_) (AllReadyH.nil)
            · go_simp
              refine (id_any ki _).mono ?_
              rintro e wv54 ⟨⟨xi, rfl⟩, hb⟩
              replace hX := hX.world hb
              refine hK.out _ _ (hHeld.world hb) (fun hHeld => ?_)
              clear hK K hb
              refine wpAnyH_take (i := 12) (oi := ?oi55) (v := ?v55) ?ho55 (by kernel_rfl) (by kernel_rfl) (by kernel_rfl) ?hp55 (Or.inl ⟨?hw55, ?hy55⟩) (by assumption) ?rest55
              case ho55 => simp only [List.getElem?_toArray, List.getElem?_cons_succ, List.getElem?_cons_zero]; rfl
              case hp55 => exact fun _ _ _ h => h
              case hw55 => rfl
              case hy55 =>
                intro W hSw
                go_simp
                try exact rfl
              simp only [Act.put]
              refine wpAnyH_ready (rs := [14]) (by kernel_rfl) (by simp) ?_
              refine AllReadyH.cons rfl (fun K hK => ?_) (AllReadyH.nil)
              · have hcc := cells10 (e := ⟨⟨#[]⟩, 0, 0, 0, ⟨#[]⟩, ⟨#[]⟩, ⟨#[]⟩, 0, 0, 0⟩) hX.box
                have c0 := hcc.1.1
                have c1 := hcc.1.2.1
                have c2 := hcc.1.2.2.1
                have c3 := hcc.1.2.2.2.1
                have c4 := hcc.1.2.2.2.2.1
                have c5 := hcc.1.2.2.2.2.2.1
                have c6 := hcc.1.2.2.2.2.2.2.1
                have c7 := hcc.1.2.2.2.2.2.2.2.1
                have c8 := hcc.1.2.2.2.2.2.2.2.2.1
                have c9 := hcc.1.2.2.2.2.2.2.2.2.2
                have f0 := hcc.2.1
                have f1 := hcc.2.2.1
                have f2 := hcc.2.2.2.1
                have f3 := hcc.2.2.2.2.1
                have f4 := hcc.2.2.2.2.2.1
                have f5 := hcc.2.2.2.2.2.2.1
                have f6 := hcc.2.2.2.2.2.2.2.1
                have f7 := hcc.2.2.2.2.2.2.2.2.1
                have f8 := hcc.2.2.2.2.2.2.2.2.2.1
                have f9 := hcc.2.2.2.2.2.2.2.2.2.2
                clear hcc
                go_simp
                have hlo := hX.lo
                have hfar : ∀ p ∈ (((⟨bl, k, none⟩, .string xc) :: [(⟨w.heap.size + 1, k, none⟩, .int .i64 qv)]) : List (Addr × Value)), p.1.block ≠ eb := by
                  intro p hp; simp only [List.mem_cons, List.not_mem_nil, or_false] at hp; rcases hp with rfl | rfl
                  · show bl ≠ eb; omega
                  · show w.heap.size + 1 ≠ eb; omega
                have hCs := hHeld.set hX hfar 0 (.string xc)
                replace hX := hX.set 0 (.string xc)
                replace hCs := hCs.set hX hfar 1 (.int .i64 qv)
                replace hX := hX.set 1 (.int .i64 qv)
                replace hCs := hCs.set hX hfar 2 (.int .i64 0)
                replace hX := hX.set 2 (.int .i64 0)
                replace hCs := hCs.set hX hfar 3 (.int .i64 tm2)
                replace hX := hX.set 3 (.int .i64 tm2)
                replace hCs := hCs.set hX hfar 4 (.string xi)
                replace hX := hX.set 4 (.string xi)
                replace hCs := hCs.set hX hfar 5 (.string ⟨#[]⟩)
                replace hX := hX.set 5 (.string ⟨#[]⟩)
                replace hCs := hCs.set hX hfar 6 (.string ⟨#[]⟩)
                replace hX := hX.set 6 (.string ⟨#[]⟩)
                replace hCs := hCs.set hX hfar 7 (.int .i64 0)
                replace hX := hX.set 7 (.int .i64 0)
                replace hCs := hCs.set hX hfar 8 (.int .i64 0)
                replace hX := hX.set 8 (.int .i64 0)
                replace hCs := hCs.set hX hfar 9 (.int .i64 0)
                replace hX := hX.set 9 (.int .i64 0)
                simp only [List.setIfInBounds_toArray, List.set_cons_zero, List.set_cons_succ] at hX
                refine hK.out _ _ hCs (fun hHeld => ?_)
                clear hK K hCs c0 c1 c2 c3 c4 c5 c6 c7 c8 c9 f0 f1 f2 f3 f4 f5 f6 f7 f8 f9
                refine wpAnyH_done (by kernel_rfl) ?_ _
                go_wp2
                go_meet
                exact ⟨eb, ⟨xc, qv, 0, tm2, xi, ⟨#[]⟩, ⟨#[]⟩, 0, 0, 0⟩, rfl, rfl, Lib.hid hX⟩
          · go_simp
            refine (id_any ki _).mono ?_
            rintro e wv57 ⟨⟨xi, rfl⟩, hb⟩
            replace hX := hX.world hb
            refine hK.out _ _ (hHeld.world hb) (fun hHeld => ?_)
            clear hK K hb
            refine wpAnyH_ready (rs := [0]) (by kernel_rfl) (by simp) ?_
            refine AllReadyH.cons rfl (fun K hK => ?_) (AllReadyH.nil)
            · go_simp
              obtain ⟨xc, hxc⟩ := text_in (Own.new wv57 C3 9) rfl texts3 hk3
              have hbl : w.heap.size + 2 ≤ wv57.heap.size := hHeld.s.size
              have hb : Below wv57.heap.size wv57 (wv57.alloc (.cells C3 9)) := (Below.refl _ _).alloc (Nat.le_refl _) _
              have hne : eb < wv57.heap.size := hX.box.lt
              replace hX := hX.world hb
              have hH2 := hHeld.world hb
              have hH3 := hH2.cons hxc (show wv57.heap.size ≠ w.heap.size by omega)
              clear hb hxc
              refine hK.out _ _ hH2 (fun hHeld => ?_)
              clear hK K hHeld hH2
              replace hHeld := hH3
              clear hH3
              try unfold C3 at hHeld
              try unfold C3 at hX
              try unfold C3
              generalize wv57.alloc (.cells _ 9) = wv58 at hHeld hX ⊢
              generalize wv57.heap.size = bl at hHeld hbl hne ⊢
              refine wpAnyH_narrow (S' := fun W => EvC w a n c E (.slice va E.length vc) ((⟨bl, k, none⟩, .string xc) :: [(⟨w.heap.size + 1, k, none⟩, .int .i64 qv)]) W) (fun _ h => h.tail) _ _ _ _ ?_
              refine wpAnyH_take (i := 2) (oi := ?oi59) (v := ?v59) ?ho59 (by kernel_rfl) (by kernel_rfl) (by kernel_rfl) ?hp59 (Or.inl ⟨?hw59, ?hy59⟩) (by assumption) ?rest59
              case ho59 => simp only [List.getElem?_toArray, List.getElem?_cons_succ, List.getElem?_cons_zero]; rfl
              case hp59 => exact fun _ _ _ h => h
              case hw59 => rfl
              case hy59 =>
                intro W hSw
                go_simp
                try exact rfl
              simp only [Act.put]
              refine wpAnyH_take (i := 3) (oi := ?oi60) (v := ?v60) ?ho60 (by kernel_rfl) (by kernel_rfl) (by kernel_rfl) ?hp60 (Or.inl ⟨?hw60, ?hy60⟩) (by assumption) ?rest60
              case ho60 => simp only [List.getElem?_toArray, List.getElem?_cons_succ, List.getElem?_cons_zero]; rfl
              case hp60 => exact fun _ _ _ h => h
              case hw60 => rfl
              case hy60 =>
                intro W hSw
                have hq1 := (hSw.cell (⟨bl, k, none⟩, .string xc) (by simp)).1
                go_simp
                try exact rfl
              simp only [Act.put]
              refine wpAnyH_take (i := 12) (oi := ?oi61) (v := ?v61) ?ho61 (by kernel_rfl) (by kernel_rfl) (by kernel_rfl) ?hp61 (Or.inl ⟨?hw61, ?hy61⟩) (by assumption) ?rest61
              case ho61 => simp only [List.getElem?_toArray, List.getElem?_cons_succ, List.getElem?_cons_zero]; rfl
              case hp61 => exact fun _ _ _ h => h
              case hw61 => rfl
              case hy61 =>
                intro W hSw
                go_simp
                try exact rfl
              simp only [Act.put]
              refine wpAnyH_ready (rs := [14]) (by kernel_rfl) (by simp) ?_
              refine AllReadyH.cons rfl (fun K hK => ?_) (AllReadyH.nil)
              · have hcc := cells10 (e := ⟨⟨#[]⟩, 0, 0, 0, ⟨#[]⟩, ⟨#[]⟩, ⟨#[]⟩, 0, 0, 0⟩) hX.box
                have c0 := hcc.1.1
                have c1 := hcc.1.2.1
                have c2 := hcc.1.2.2.1
                have c3 := hcc.1.2.2.2.1
                have c4 := hcc.1.2.2.2.2.1
                have c5 := hcc.1.2.2.2.2.2.1
                have c6 := hcc.1.2.2.2.2.2.2.1
                have c7 := hcc.1.2.2.2.2.2.2.2.1
                have c8 := hcc.1.2.2.2.2.2.2.2.2.1
                have c9 := hcc.1.2.2.2.2.2.2.2.2.2
                have f0 := hcc.2.1
                have f1 := hcc.2.2.1
                have f2 := hcc.2.2.2.1
                have f3 := hcc.2.2.2.2.1
                have f4 := hcc.2.2.2.2.2.1
                have f5 := hcc.2.2.2.2.2.2.1
                have f6 := hcc.2.2.2.2.2.2.2.1
                have f7 := hcc.2.2.2.2.2.2.2.2.1
                have f8 := hcc.2.2.2.2.2.2.2.2.2.1
                have f9 := hcc.2.2.2.2.2.2.2.2.2.2
                clear hcc
                go_simp
                have hlo := hX.lo
                have hfar : ∀ p ∈ (((⟨bl, k, none⟩, .string xc) :: [(⟨w.heap.size + 1, k, none⟩, .int .i64 qv)]) : List (Addr × Value)), p.1.block ≠ eb := by
                  intro p hp; simp only [List.mem_cons, List.not_mem_nil, or_false] at hp; rcases hp with rfl | rfl
                  · show bl ≠ eb; omega
                  · show w.heap.size + 1 ≠ eb; omega
                have hCs := hHeld.set hX hfar 0 (.string xc)
                replace hX := hX.set 0 (.string xc)
                replace hCs := hCs.set hX hfar 1 (.int .i64 qv)
                replace hX := hX.set 1 (.int .i64 qv)
                replace hCs := hCs.set hX hfar 2 (.int .i64 0)
                replace hX := hX.set 2 (.int .i64 0)
                replace hCs := hCs.set hX hfar 3 (.int .i64 tm2)
                replace hX := hX.set 3 (.int .i64 tm2)
                replace hCs := hCs.set hX hfar 4 (.string xi)
                replace hX := hX.set 4 (.string xi)
                replace hCs := hCs.set hX hfar 5 (.string ⟨#[]⟩)
                replace hX := hX.set 5 (.string ⟨#[]⟩)
                replace hCs := hCs.set hX hfar 6 (.string ⟨#[]⟩)
                replace hX := hX.set 6 (.string ⟨#[]⟩)
                replace hCs := hCs.set hX hfar 7 (.int .i64 0)
                replace hX := hX.set 7 (.int .i64 0)
                replace hCs := hCs.set hX hfar 8 (.int .i64 0)
                replace hX := hX.set 8 (.int .i64 0)
                replace hCs := hCs.set hX hfar 9 (.int .i64 0)
                replace hX := hX.set 9 (.int .i64 0)
                simp only [List.setIfInBounds_toArray, List.set_cons_zero, List.set_cons_succ] at hX
                refine hK.out _ _ hCs (fun hHeld => ?_)
                clear hK K hCs c0 c1 c2 c3 c4 c5 c6 c7 c8 c9 f0 f1 f2 f3 f4 f5 f6 f7 f8 f9
                refine wpAnyH_done (by kernel_rfl) ?_ _
                go_wp2
                go_meet
                exact ⟨eb, ⟨xc, qv, 0, tm2, xi, ⟨#[]⟩, ⟨#[]⟩, 0, 0, 0⟩, rfl, rfl, Lib.hid hX⟩
      · go_simp
        have hX := EvB.new hHeld.s Z10
        refine hK.out _ _ (hHeld.world ((Below.refl _ _).alloc (Nat.le_refl _) _)) (fun hHeld => ?_)
        clear hK K
        try unfold Z10 at hX
        try unfold Z10 at hHeld
        try unfold Z10
        generalize wd.alloc (.cells _ 40) = wv63 at hHeld hX ⊢
        generalize wd.heap.size = eb at hX ⊢
        refine wpAnyH_ready (rs := [0, 10]) (by kernel_rfl) (by simp) ?_
        refine AllReadyH.cons rfl (fun K hK => ?_) (AllReadyH.cons rfl (fun K hK => ?_) (AllReadyH.nil))
        · go_simp
          obtain ⟨xc, hxc⟩ := text_in (Own.new wv63 C3 9) rfl texts3 hk3
          have hbl : w.heap.size + 2 ≤ wv63.heap.size := hHeld.s.size
          have hb : Below wv63.heap.size wv63 (wv63.alloc (.cells C3 9)) := (Below.refl _ _).alloc (Nat.le_refl _) _
          have hne : eb < wv63.heap.size := hX.box.lt
          replace hX := hX.world hb
          have hH2 := hHeld.world hb
          have hH3 := hH2.cons hxc (show wv63.heap.size ≠ w.heap.size by omega)
          clear hb hxc
          refine hK.out _ _ hH2 (fun hHeld => ?_)
          clear hK K hHeld hH2
          replace hHeld := hH3
          clear hH3
          try unfold C3 at hHeld
          try unfold C3 at hX
          try unfold C3
          generalize wv63.alloc (.cells _ 9) = wv64 at hHeld hX ⊢
          generalize wv63.heap.size = bl at hHeld hbl hne ⊢
          refine wpAnyH_narrow (S' := fun W => EvC w a n c E (.slice va E.length vc) ((⟨bl, k, none⟩, .string xc) :: [(⟨w.heap.size + 1, k, none⟩, .int .i64 qv)]) W) (fun _ h => h.tail) _ _ _ _ ?_
          refine wpAnyH_take (i := 2) (oi := ?oi65) (v := ?v65) ?ho65 (by kernel_rfl) (by kernel_rfl) (by kernel_rfl) ?hp65 (Or.inl ⟨?hw65, ?hy65⟩) (by assumption) ?rest65
          case ho65 => simp only [List.getElem?_toArray, List.getElem?_cons_succ, List.getElem?_cons_zero]; rfl
          case hp65 => exact fun _ _ _ h => h
          case hw65 => rfl
          case hy65 =>
            intro W hSw
            go_simp
            try exact rfl
          simp only [Act.put]
          refine wpAnyH_take (i := 3) (oi := ?oi66) (v := ?v66) ?ho66 (by kernel_rfl) (by kernel_rfl) (by kernel_rfl) ?hp66 (Or.inl ⟨?hw66, ?hy66⟩) (by assumption) ?rest66
          case ho66 => simp only [List.getElem?_toArray, List.getElem?_cons_succ, List.getElem?_cons_zero]; rfl
          case hp66 => exact fun _ _ _ h => h
          case hw66 => rfl
          case hy66 =>
            intro W hSw
            have hq1 := (hSw.cell (⟨bl, k, none⟩, .string xc) (by simp)).1
            go_simp
            try exact rfl
          simp only [Act.put]
          refine wpAnyH_ready (rs := [10]) (by kernel_rfl) (by simp) ?_
          refine AllReadyH.cons rfl (fun K hK => ?_) (AllReadyH.nil)
          · go_simp
            refine (hX.draw 6 (by decide) (by decide)).mono ?_
            rintro e wv67 ⟨⟨ki, rfl, hki⟩, hXn, hG⟩
            refine hK.out _ _ (hHeld.next hXn.s hG) (fun hHeld => ?_)
            replace hX := hXn
            clear hXn hK K hG
            refine wpAnyH_ready (rs := [11]) (by kernel_rfl) (by simp) ?_
            refine AllReadyH.cons rfl (fun K hK => ?_) (AllReadyH.nil)
            · go_simp
              refine (id_any ki _).mono ?_
              rintro e wv68 ⟨⟨xi, rfl⟩, hb⟩
              replace hX := hX.world hb
              refine hK.out _ _ (hHeld.world hb) (fun hHeld => ?_)
              clear hK K hb
              refine wpAnyH_take (i := 12) (oi := ?oi69) (v := ?v69) ?ho69 (by kernel_rfl) (by kernel_rfl) (by kernel_rfl) ?hp69 (Or.inl ⟨?hw69, ?hy69⟩) (by assumption) ?rest69
              case ho69 => simp only [List.getElem?_toArray, List.getElem?_cons_succ, List.getElem?_cons_zero]; rfl
              case hp69 => exact fun _ _ _ h => h
              case hw69 => rfl
              case hy69 =>
                intro W hSw
                go_simp
                try exact rfl
              simp only [Act.put]
              refine wpAnyH_ready (rs := [14]) (by kernel_rfl) (by simp) ?_
              refine AllReadyH.cons rfl (fun K hK => ?_) (AllReadyH.nil)
              · have hcc := cells10 (e := ⟨⟨#[]⟩, 0, 0, 0, ⟨#[]⟩, ⟨#[]⟩, ⟨#[]⟩, 0, 0, 0⟩) hX.box
                have c0 := hcc.1.1
                have c1 := hcc.1.2.1
                have c2 := hcc.1.2.2.1
                have c3 := hcc.1.2.2.2.1
                have c4 := hcc.1.2.2.2.2.1
                have c5 := hcc.1.2.2.2.2.2.1
                have c6 := hcc.1.2.2.2.2.2.2.1
                have c7 := hcc.1.2.2.2.2.2.2.2.1
                have c8 := hcc.1.2.2.2.2.2.2.2.2.1
                have c9 := hcc.1.2.2.2.2.2.2.2.2.2
                have f0 := hcc.2.1
                have f1 := hcc.2.2.1
                have f2 := hcc.2.2.2.1
                have f3 := hcc.2.2.2.2.1
                have f4 := hcc.2.2.2.2.2.1
                have f5 := hcc.2.2.2.2.2.2.1
                have f6 := hcc.2.2.2.2.2.2.2.1
                have f7 := hcc.2.2.2.2.2.2.2.2.1
                have f8 := hcc.2.2.2.2.2.2.2.2.2.1
                have f9 := hcc.2.2.2.2.2.2.2.2.2.2
                clear hcc
                go_simp
                have hlo := hX.lo
                have hfar : ∀ p ∈ (((⟨bl, k, none⟩, .string xc) :: [(⟨w.heap.size + 1, k, none⟩, .int .i64 qv)]) : List (Addr × Value)), p.1.block ≠ eb := by
                  intro p hp; simp only [List.mem_cons, List.not_mem_nil, or_false] at hp; rcases hp with rfl | rfl
                  · show bl ≠ eb; omega
                  · show w.heap.size + 1 ≠ eb; omega
                have hCs := hHeld.set hX hfar 0 (.string xc)
                replace hX := hX.set 0 (.string xc)
                replace hCs := hCs.set hX hfar 1 (.int .i64 qv)
                replace hX := hX.set 1 (.int .i64 qv)
                replace hCs := hCs.set hX hfar 2 (.int .i64 0)
                replace hX := hX.set 2 (.int .i64 0)
                replace hCs := hCs.set hX hfar 3 (.int .i64 tm2)
                replace hX := hX.set 3 (.int .i64 tm2)
                replace hCs := hCs.set hX hfar 4 (.string xi)
                replace hX := hX.set 4 (.string xi)
                replace hCs := hCs.set hX hfar 5 (.string ⟨#[]⟩)
                replace hX := hX.set 5 (.string ⟨#[]⟩)
                replace hCs := hCs.set hX hfar 6 (.string ⟨#[]⟩)
                replace hX := hX.set 6 (.string ⟨#[]⟩)
                replace hCs := hCs.set hX hfar 7 (.int .i64 0)
                replace hX := hX.set 7 (.int .i64 0)
                replace hCs := hCs.set hX hfar 8 (.int .i64 0)
                replace hX := hX.set 8 (.int .i64 0)
                replace hCs := hCs.set hX hfar 9 (.int .i64 0)
                replace hX := hX.set 9 (.int .i64 0)
                simp only [List.setIfInBounds_toArray, List.set_cons_zero, List.set_cons_succ] at hX
                refine hK.out _ _ hCs (fun hHeld => ?_)
                clear hK K hCs c0 c1 c2 c3 c4 c5 c6 c7 c8 c9 f0 f1 f2 f3 f4 f5 f6 f7 f8 f9
                refine wpAnyH_done (by kernel_rfl) ?_ _
                go_wp2
                go_meet
                exact ⟨eb, ⟨xc, qv, 0, tm2, xi, ⟨#[]⟩, ⟨#[]⟩, 0, 0, 0⟩, rfl, rfl, Lib.hid hX⟩
        · go_simp
          refine (hX.draw 6 (by decide) (by decide)).mono ?_
          rintro e wv71 ⟨⟨ki, rfl, hki⟩, hXn, hG⟩
          refine hK.out _ _ (hHeld.next hXn.s hG) (fun hHeld => ?_)
          replace hX := hXn
          clear hXn hK K hG
          refine wpAnyH_ready (rs := [0, 11]) (by kernel_rfl) (by simp) ?_
          refine AllReadyH.cons rfl (fun K hK => ?_) (AllReadyH.cons rfl (fun K hK => ?_) (AllReadyH.nil))
          · go_simp
            obtain ⟨xc, hxc⟩ := text_in (Own.new wv71 C3 9) rfl texts3 hk3
            have hbl : w.heap.size + 2 ≤ wv71.heap.size := hHeld.s.size
            have hb : Below wv71.heap.size wv71 (wv71.alloc (.cells C3 9)) := (Below.refl _ _).alloc (Nat.le_refl _) _
            have hne : eb < wv71.heap.size := hX.box.lt
            replace hX := hX.world hb
            have hH2 := hHeld.world hb
            have hH3 := hH2.cons hxc (show wv71.heap.size ≠ w.heap.size by omega)
            clear hb hxc
            refine hK.out _ _ hH2 (fun hHeld => ?_)
            clear hK K hHeld hH2
            replace hHeld := hH3
            clear hH3
            try unfold C3 at hHeld
            try unfold C3 at hX
            try unfold C3
            generalize wv71.alloc (.cells _ 9) = wv72 at hHeld hX ⊢
            generalize wv71.heap.size = bl at hHeld hbl hne ⊢
            refine wpAnyH_narrow (S' := fun W => EvC w a n c E (.slice va E.length vc) ((⟨bl, k, none⟩, .string xc) :: [(⟨w.heap.size + 1, k, none⟩, .int .i64 qv)]) W) (fun _ h => h.tail) _ _ _ _ ?_
            refine wpAnyH_take (i := 2) (oi := ?oi73) (v := ?v73) ?ho73 (by kernel_rfl) (by kernel_rfl) (by kernel_rfl) ?hp73 (Or.inl ⟨?hw73, ?hy73⟩) (by assumption) ?rest73
            case ho73 => simp only [List.getElem?_toArray, List.getElem?_cons_succ, List.getElem?_cons_zero]; rfl
            case hp73 => exact fun _ _ _ h => h
            case hw73 => rfl
            case hy73 =>
              intro W hSw
              go_simp
              try exact rfl
            simp only [Act.put]
            refine wpAnyH_take (i := 3) (oi := ?oi74) (v := ?v74) ?ho74 (by kernel_rfl) (by kernel_rfl) (by kernel_rfl) ?hp74 (Or.inl ⟨?hw74, ?hy74⟩) (by assumption) ?rest74
            case ho74 => simp only [List.getElem?_toArray, List.getElem?_cons_succ, List.getElem?_cons_zero]; rfl
            case hp74 => exact fun _ _ _ h => h
            case hw74 => rfl
            case hy74 =>
              intro W hSw
              have hq1 := (hSw.cell (⟨bl, k, none⟩, .string xc) (by simp)).1
              go_simp
              try exact rfl
            simp only [Act.put]
            refine wpAnyH_ready (rs := [11]) (by kernel_rfl) (by simp) ?_
            refine AllReadyH.cons rfl (fun K hK => ?_) (AllReadyH.nil)
            · go_simp
              refine (id_any ki _).mono ?_
              rintro e wv75 ⟨⟨xi, rfl⟩, hb⟩
              replace hX := hX.world hb
              refine hK.out _ _ (hHeld.world hb) (fun hHeld => ?_)
              clear hK K hb
              refine wpAnyH_take (i := 12) (oi := ?oi76) (v := ?v76) ?ho76 (by kernel_rfl) (by kernel_rfl) (by kernel_rfl) ?hp76 (Or.inl ⟨?hw76, ?hy76⟩) (by assumption) ?rest76
              case ho76 => simp only [List.getElem?_toArray, List.getElem?_cons_succ, List.getElem?_cons_zero]; rfl
              case hp76 => exact fun _ _ _ h => h
              case hw76 => rfl
              case hy76 =>
                intro W hSw
                go_simp
                try exact rfl
              simp only [Act.put]
              refine wpAnyH_ready (rs := [14]) (by kernel_rfl) (by simp) ?_
              refine AllReadyH.cons rfl (fun K hK => ?_) (AllReadyH.nil)
              · have hcc := cells10 (e := ⟨⟨#[]⟩, 0, 0, 0, ⟨#[]⟩, ⟨#[]⟩, ⟨#[]⟩, 0, 0, 0⟩) hX.box
                have c0 := hcc.1.1
                have c1 := hcc.1.2.1
                have c2 := hcc.1.2.2.1
                have c3 := hcc.1.2.2.2.1
                have c4 := hcc.1.2.2.2.2.1
                have c5 := hcc.1.2.2.2.2.2.1
                have c6 := hcc.1.2.2.2.2.2.2.1
                have c7 := hcc.1.2.2.2.2.2.2.2.1
                have c8 := hcc.1.2.2.2.2.2.2.2.2.1
                have c9 := hcc.1.2.2.2.2.2.2.2.2.2
                have f0 := hcc.2.1
                have f1 := hcc.2.2.1
                have f2 := hcc.2.2.2.1
                have f3 := hcc.2.2.2.2.1
                have f4 := hcc.2.2.2.2.2.1
                have f5 := hcc.2.2.2.2.2.2.1
                have f6 := hcc.2.2.2.2.2.2.2.1
                have f7 := hcc.2.2.2.2.2.2.2.2.1
                have f8 := hcc.2.2.2.2.2.2.2.2.2.1
                have f9 := hcc.2.2.2.2.2.2.2.2.2.2
                clear hcc
                go_simp
                have hlo := hX.lo
                have hfar : ∀ p ∈ (((⟨bl, k, none⟩, .string xc) :: [(⟨w.heap.size + 1, k, none⟩, .int .i64 qv)]) : List (Addr × Value)), p.1.block ≠ eb := by
                  intro p hp; simp only [List.mem_cons, List.not_mem_nil, or_false] at hp; rcases hp with rfl | rfl
                  · show bl ≠ eb; omega
                  · show w.heap.size + 1 ≠ eb; omega
                have hCs := hHeld.set hX hfar 0 (.string xc)
                replace hX := hX.set 0 (.string xc)
                replace hCs := hCs.set hX hfar 1 (.int .i64 qv)
                replace hX := hX.set 1 (.int .i64 qv)
                replace hCs := hCs.set hX hfar 2 (.int .i64 0)
                replace hX := hX.set 2 (.int .i64 0)
                replace hCs := hCs.set hX hfar 3 (.int .i64 tm2)
                replace hX := hX.set 3 (.int .i64 tm2)
                replace hCs := hCs.set hX hfar 4 (.string xi)
                replace hX := hX.set 4 (.string xi)
                replace hCs := hCs.set hX hfar 5 (.string ⟨#[]⟩)
                replace hX := hX.set 5 (.string ⟨#[]⟩)
                replace hCs := hCs.set hX hfar 6 (.string ⟨#[]⟩)
                replace hX := hX.set 6 (.string ⟨#[]⟩)
                replace hCs := hCs.set hX hfar 7 (.int .i64 0)
                replace hX := hX.set 7 (.int .i64 0)
                replace hCs := hCs.set hX hfar 8 (.int .i64 0)
                replace hX := hX.set 8 (.int .i64 0)
                replace hCs := hCs.set hX hfar 9 (.int .i64 0)
                replace hX := hX.set 9 (.int .i64 0)
                simp only [List.setIfInBounds_toArray, List.set_cons_zero, List.set_cons_succ] at hX
                refine hK.out _ _ hCs (fun hHeld => ?_)
                clear hK K hCs c0 c1 c2 c3 c4 c5 c6 c7 c8 c9 f0 f1 f2 f3 f4 f5 f6 f7 f8 f9
                refine wpAnyH_done (by kernel_rfl) ?_ _
                go_wp2
                go_meet
                exact ⟨eb, ⟨xc, qv, 0, tm2, xi, ⟨#[]⟩, ⟨#[]⟩, 0, 0, 0⟩, rfl, rfl, Lib.hid hX⟩
          · go_simp
            refine (id_any ki _).mono ?_
            rintro e wv78 ⟨⟨xi, rfl⟩, hb⟩
            replace hX := hX.world hb
            refine hK.out _ _ (hHeld.world hb) (fun hHeld => ?_)
            clear hK K hb
            refine wpAnyH_ready (rs := [0]) (by kernel_rfl) (by simp) ?_
            refine AllReadyH.cons rfl (fun K hK => ?_) (AllReadyH.nil)
            · go_simp
              obtain ⟨xc, hxc⟩ := text_in (Own.new wv78 C3 9) rfl texts3 hk3
              have hbl : w.heap.size + 2 ≤ wv78.heap.size := hHeld.s.size
              have hb : Below wv78.heap.size wv78 (wv78.alloc (.cells C3 9)) := (Below.refl _ _).alloc (Nat.le_refl _) _
              have hne : eb < wv78.heap.size := hX.box.lt
              replace hX := hX.world hb
              have hH2 := hHeld.world hb
              have hH3 := hH2.cons hxc (show wv78.heap.size ≠ w.heap.size by omega)
              clear hb hxc
              refine hK.out _ _ hH2 (fun hHeld => ?_)
              clear hK K hHeld hH2
              replace hHeld := hH3
              clear hH3
              try unfold C3 at hHeld
              try unfold C3 at hX
              try unfold C3
              generalize wv78.alloc (.cells _ 9) = wv79 at hHeld hX ⊢
              generalize wv78.heap.size = bl at hHeld hbl hne ⊢
              refine wpAnyH_narrow (S' := fun W => EvC w a n c E (.slice va E.length vc) ((⟨bl, k, none⟩, .string xc) :: [(⟨w.heap.size + 1, k, none⟩, .int .i64 qv)]) W) (fun _ h => h.tail) _ _ _ _ ?_
              refine wpAnyH_take (i := 2) (oi := ?oi80) (v := ?v80) ?ho80 (by kernel_rfl) (by kernel_rfl) (by kernel_rfl) ?hp80 (Or.inl ⟨?hw80, ?hy80⟩) (by assumption) ?rest80
              case ho80 => simp only [List.getElem?_toArray, List.getElem?_cons_succ, List.getElem?_cons_zero]; rfl
              case hp80 => exact fun _ _ _ h => h
              case hw80 => rfl
              case hy80 =>
                intro W hSw
                go_simp
                try exact rfl
              simp only [Act.put]
              refine wpAnyH_take (i := 3) (oi := ?oi81) (v := ?v81) ?ho81 (by kernel_rfl) (by kernel_rfl) (by kernel_rfl) ?hp81 (Or.inl ⟨?hw81, ?hy81⟩) (by assumption) ?rest81
              case ho81 => simp only [List.getElem?_toArray, List.getElem?_cons_succ, List.getElem?_cons_zero]; rfl
              case hp81 => exact fun _ _ _ h => h
              case hw81 => rfl
              case hy81 =>
                intro W hSw
                have hq1 := (hSw.cell (⟨bl, k, none⟩, .string xc) (by simp)).1
                go_simp
                try exact rfl
              simp only [Act.put]
              refine wpAnyH_take (i := 12) (oi := ?oi82) (v := ?v82) ?ho82 (by kernel_rfl) (by kernel_rfl) (by kernel_rfl) ?hp82 (Or.inl ⟨?hw82, ?hy82⟩) (by assumption) ?rest82
              case ho82 => simp only [List.getElem?_toArray, List.getElem?_cons_succ, List.getElem?_cons_zero]; rfl
              case hp82 => exact fun _ _ _ h => h
              case hw82 => rfl
              case hy82 =>
                intro W hSw
                go_simp
                try exact rfl
              simp only [Act.put]
              refine wpAnyH_ready (rs := [14]) (by kernel_rfl) (by simp) ?_
              refine AllReadyH.cons rfl (fun K hK => ?_) (AllReadyH.nil)
              · have hcc := cells10 (e := ⟨⟨#[]⟩, 0, 0, 0, ⟨#[]⟩, ⟨#[]⟩, ⟨#[]⟩, 0, 0, 0⟩) hX.box
                have c0 := hcc.1.1
                have c1 := hcc.1.2.1
                have c2 := hcc.1.2.2.1
                have c3 := hcc.1.2.2.2.1
                have c4 := hcc.1.2.2.2.2.1
                have c5 := hcc.1.2.2.2.2.2.1
                have c6 := hcc.1.2.2.2.2.2.2.1
                have c7 := hcc.1.2.2.2.2.2.2.2.1
                have c8 := hcc.1.2.2.2.2.2.2.2.2.1
                have c9 := hcc.1.2.2.2.2.2.2.2.2.2
                have f0 := hcc.2.1
                have f1 := hcc.2.2.1
                have f2 := hcc.2.2.2.1
                have f3 := hcc.2.2.2.2.1
                have f4 := hcc.2.2.2.2.2.1
                have f5 := hcc.2.2.2.2.2.2.1
                have f6 := hcc.2.2.2.2.2.2.2.1
                have f7 := hcc.2.2.2.2.2.2.2.2.1
                have f8 := hcc.2.2.2.2.2.2.2.2.2.1
                have f9 := hcc.2.2.2.2.2.2.2.2.2.2
                clear hcc
                go_simp
                have hlo := hX.lo
                have hfar : ∀ p ∈ (((⟨bl, k, none⟩, .string xc) :: [(⟨w.heap.size + 1, k, none⟩, .int .i64 qv)]) : List (Addr × Value)), p.1.block ≠ eb := by
                  intro p hp; simp only [List.mem_cons, List.not_mem_nil, or_false] at hp; rcases hp with rfl | rfl
                  · show bl ≠ eb; omega
                  · show w.heap.size + 1 ≠ eb; omega
                have hCs := hHeld.set hX hfar 0 (.string xc)
                replace hX := hX.set 0 (.string xc)
                replace hCs := hCs.set hX hfar 1 (.int .i64 qv)
                replace hX := hX.set 1 (.int .i64 qv)
                replace hCs := hCs.set hX hfar 2 (.int .i64 0)
                replace hX := hX.set 2 (.int .i64 0)
                replace hCs := hCs.set hX hfar 3 (.int .i64 tm2)
                replace hX := hX.set 3 (.int .i64 tm2)
                replace hCs := hCs.set hX hfar 4 (.string xi)
                replace hX := hX.set 4 (.string xi)
                replace hCs := hCs.set hX hfar 5 (.string ⟨#[]⟩)
                replace hX := hX.set 5 (.string ⟨#[]⟩)
                replace hCs := hCs.set hX hfar 6 (.string ⟨#[]⟩)
                replace hX := hX.set 6 (.string ⟨#[]⟩)
                replace hCs := hCs.set hX hfar 7 (.int .i64 0)
                replace hX := hX.set 7 (.int .i64 0)
                replace hCs := hCs.set hX hfar 8 (.int .i64 0)
                replace hX := hX.set 8 (.int .i64 0)
                replace hCs := hCs.set hX hfar 9 (.int .i64 0)
                replace hX := hX.set 9 (.int .i64 0)
                simp only [List.setIfInBounds_toArray, List.set_cons_zero, List.set_cons_succ] at hX
                refine hK.out _ _ hCs (fun hHeld => ?_)
                clear hK K hCs c0 c1 c2 c3 c4 c5 c6 c7 c8 c9 f0 f1 f2 f3 f4 f5 f6 f7 f8 f9
                refine wpAnyH_done (by kernel_rfl) ?_ _
                go_wp2
                go_meet
                exact ⟨eb, ⟨xc, qv, 0, tm2, xi, ⟨#[]⟩, ⟨#[]⟩, 0, 0, 0⟩, rfl, rfl, Lib.hid hX⟩
    case rest =>
    clear hC
    obtain ⟨eb, e0, rfl, hv0, hB⟩ := hcut
    go_wp2_with fail
    refine (hB.out.draw 8 (by decide) (by decide)).mono ?_
    rintro e u5 ⟨⟨d, rfl, hd⟩, hB5, -⟩
    replace hB5 := Lib.hid hB5
    clear hB
    have hd0 : (0 : Int) ≤ (d : Int) := Int.natCast_nonneg _
    go_upto_block 2 with fail
    go_cut [] (fun wy => ∃ e : EV, -4 ≤ e.value ∧ e.value ≤ 35 ∧ Hid (EvB w a n c E (.slice va E.length vc) eb (evA e) wy))
    case first =>
      rcases (show d = 0 ∨ d = 1 ∨ d = 2 ∨ d = 3 ∨ 4 ≤ d by omega) with rfl | rfl | rfl | rfl | hd4
      · go_upto_region 18 with fail
        refine wp_region_held_drew (S := fun W => EvX w a n c E (.slice va E.length vc) eb [] W) (by kernel_rfl) (EvX.start hB5.out hv0).drew (fun hHeld => ?_)
        generalize u5.drew = wd at hHeld ⊢
        refine wpAnyH_take (i := 1) (oi := ?oi84) (v := ?v84) ?ho84 (by kernel_rfl) (by kernel_rfl) (by kernel_rfl) ?hp84 (Or.inl ⟨?hw84, ?hy84⟩) (by assumption) ?rest84
        case ho84 => simp only [List.getElem?_toArray, List.getElem?_cons_succ, List.getElem?_cons_zero]; rfl
        case hp84 => exact fun _ _ _ h => h
        case hw84 => rfl
        case hy84 =>
          intro W hSw
          go_simp
          try exact rfl
        simp only [Act.put]
        refine wpAnyH_take (i := 6) (oi := ?oi85) (v := ?v85) ?ho85 (by kernel_rfl) (by kernel_rfl) (by kernel_rfl) ?hp85 (Or.inl ⟨?hw85, ?hy85⟩) (by assumption) ?rest85
        case ho85 => simp only [List.getElem?_toArray, List.getElem?_cons_succ, List.getElem?_cons_zero]; rfl
        case hp85 => exact fun _ _ _ h => h
        case hw85 => rfl
        case hy85 =>
          intro W hSw
          go_simp
          try exact rfl
        simp only [Act.put]
        refine wpAnyH_take (i := 11) (oi := ?oi86) (v := ?v86) ?ho86 (by kernel_rfl) (by kernel_rfl) (by kernel_rfl) ?hp86 (Or.inl ⟨?hw86, ?hy86⟩) (by assumption) ?rest86
        case ho86 => simp only [List.getElem?_toArray, List.getElem?_cons_succ, List.getElem?_cons_zero]; rfl
        case hp86 => exact fun _ _ _ h => h
        case hw86 => rfl
        case hy86 =>
          intro W hSw
          go_simp
          try exact rfl
        simp only [Act.put]
        refine wpAnyH_take (i := 15) (oi := ?oi87) (v := ?v87) ?ho87 (by kernel_rfl) (by kernel_rfl) (by kernel_rfl) ?hp87 (Or.inl ⟨?hw87, ?hy87⟩) (by assumption) ?rest87
        case ho87 => simp only [List.getElem?_toArray, List.getElem?_cons_succ, List.getElem?_cons_zero]; rfl
        case hp87 => exact fun _ _ _ h => h
        case hw87 => rfl
        case hy87 =>
          intro W hSw
          go_simp
          try exact rfl
        simp only [Act.put]
        refine wpAnyH_take (i := 19) (oi := ?oi88) (v := ?v88) ?ho88 (by kernel_rfl) (by kernel_rfl) (by kernel_rfl) ?hp88 (Or.inl ⟨?hw88, ?hy88⟩) (by assumption) ?rest88
        case ho88 => simp only [List.getElem?_toArray, List.getElem?_cons_succ, List.getElem?_cons_zero]; rfl
        case hp88 => exact fun _ _ _ h => h
        case hw88 => rfl
        case hy88 =>
          intro W hSw
          go_simp
          try exact rfl
        simp only [Act.put]
        refine wpAnyH_ready (rs := [0]) (by kernel_rfl) (by simp) ?_
        refine AllReadyH.cons rfl (fun K hK => ?_) AllReadyH.nil
        go_simp
        refine (exps_any _).mono ?_
        rintro e u_e ⟨rfl, rfl⟩
        have hN := Own.new wd X4 9
        have hlt := hHeld.lt
        refine hK.out _ _ (hHeld.world ((Below.refl _ _).alloc (Nat.le_refl _) _)) (fun hHeld => ?_)
        clear hK K
        generalize wd.alloc (.cells X4 9) = wv89 at hHeld hN ⊢
        generalize wd.heap.size = gn at hN hlt ⊢
        refine wpAnyH_ready (rs := [2]) (by kernel_rfl) (by simp) ?_
        refine AllReadyH.cons rfl (fun K hK => ?_) AllReadyH.nil
        go_simp
        refine (hHeld.draw 8 (by decide) (by decide)).mono ?_
        rintro e wv90 ⟨⟨kn, rfl, hkn⟩, hXn, hG⟩
        replace hN := hN.kept hG (by simp; omega)
        refine hK.out _ _ hXn (fun hHeld => ?_)
        clear hK K hG hXn
        have kn0 : (0 : Int) ≤ (kn : Int) := Int.natCast_nonneg _
        obtain ⟨q, hq⟩ : ∃ q : Nat, Hid (q = kn / 7) := ⟨_, Lib.hid rfl⟩
        have hq2 : q < 4 := by have := hq.out; omega
        have hqd : (kn : Int).tdiv 7 = (q : Int) := by rw [Int.tdiv_eq_ediv_of_nonneg (Int.natCast_nonneg kn), hq.out]; rfl
        have hqd2 : (kn : Int) / 7 = (q : Int) := by rw [hq.out]; rfl
        have hq0 : (0 : Int) ≤ (q : Int) := Int.natCast_nonneg _
        have hq5 : (q : Int) < 4 := by omega
        have hqw : IntKind.i64.wrap (q : Int) = (q : Int) := IntWalk.i64_in _ (by omega)
        clear hq
        refine wpAnyH_take (i := 3) (oi := ?oi91) (v := ?v91) ?ho91 (by kernel_rfl) (by kernel_rfl) (by kernel_rfl) ?hp91 (Or.inl ⟨?hw91, ?hy91⟩) (by assumption) ?rest91
        case ho91 => simp only [List.getElem?_toArray, List.getElem?_cons_succ, List.getElem?_cons_zero]; rfl
        case hp91 => exact fun _ _ _ h => h
        case hw91 => rfl
        case hy91 =>
          intro W hSw
          go_simp
          try exact rfl
        simp only [Act.put]
        obtain ⟨xn, hxn⟩ := text_in hN rfl texts4 hq2
        replace hHeld := hHeld.cons hxn (show gn ≠ w.heap.size by omega) (show gn ≠ eb by omega)
        clear hxn hN
        refine wpAnyH_narrow (S' := fun W => EvX w a n c E (.slice va E.length vc) eb [(⟨gn, q, none⟩, .string xn)] W) (fun _ h => h.tail) _ _ _ _ ?_
        refine wpAnyH_take (i := 4) (oi := ?oi92) (v := ?v92) ?ho92 (by kernel_rfl) (by kernel_rfl) (by kernel_rfl) ?hp92 (Or.inl ⟨?hw92, ?hy92⟩) (by assumption) ?rest92
        case ho92 => simp only [List.getElem?_toArray, List.getElem?_cons_succ, List.getElem?_cons_zero]; rfl
        case hp92 => exact fun _ _ _ h => h
        case hw92 => rfl
        case hy92 =>
          intro W hSw
          go_simp
          try exact rfl
        simp only [Act.put]
        refine wpAnyH_take (i := 5) (oi := ?oi93) (v := ?v93) ?ho93 (by kernel_rfl) (by kernel_rfl) (by kernel_rfl) ?hp93 (Or.inl ⟨?hw93, ?hy93⟩) (by assumption) ?rest93
        case ho93 => simp only [List.getElem?_toArray, List.getElem?_cons_succ, List.getElem?_cons_zero]; rfl
        case hp93 => exact fun _ _ _ h => h
        case hw93 => rfl
        case hy93 =>
          intro W hSw
          have hq1 := (hSw.cell (⟨gn, q, none⟩, .string xn) (by simp)).1
          go_simp
          try exact rfl
        simp only [Act.put]
        refine wpAnyH_ready (rs := [7]) (by kernel_rfl) (by simp) ?_
        refine AllReadyH.cons rfl (fun K hK => ?_) AllReadyH.nil
        go_simp
        refine (hHeld.draw 10 (by decide) (by decide)).mono ?_
        rintro e wv94 ⟨⟨ka, rfl, hka⟩, hXn, hG⟩
        refine hK.out _ _ hXn (fun hHeld => ?_)
        clear hK K hG hXn
        have ka0 : (0 : Int) ≤ (ka : Int) := Int.natCast_nonneg _
        refine wpAnyH_take (i := 8) (oi := ?oi95) (v := ?v95) ?ho95 (by kernel_rfl) (by kernel_rfl) (by kernel_rfl) ?hp95 (Or.inl ⟨?hw95, ?hy95⟩) (by assumption) ?rest95
        case ho95 => simp only [List.getElem?_toArray, List.getElem?_cons_succ, List.getElem?_cons_zero]; rfl
        case hp95 => exact fun _ _ _ h => h
        case hw95 => rfl
        case hy95 =>
          intro W hSw
          go_simp
          try exact rfl
        simp only [Act.put]
        refine wpAnyH_take (i := 9) (oi := ?oi96) (v := ?v96) ?ho96 (by kernel_rfl) (by kernel_rfl) (by kernel_rfl) ?hp96 (Or.inl ⟨?hw96, ?hy96⟩) (by assumption) ?rest96
        case ho96 => simp only [List.getElem?_toArray, List.getElem?_cons_succ, List.getElem?_cons_zero]; rfl
        case hp96 => exact fun _ _ _ h => h
        case hw96 => rfl
        case hy96 =>
          intro W hSw
          go_simp
          try exact rfl
        simp only [Act.put]
        refine wpAnyH_take (i := 10) (oi := ?oi97) (v := ?v97) ?ho97 (by kernel_rfl) (by kernel_rfl) (by kernel_rfl) ?hp97 (Or.inl ⟨?hw97, ?hy97⟩) (by assumption) ?rest97
        case ho97 => simp only [List.getElem?_toArray, List.getElem?_cons_succ, List.getElem?_cons_zero]; rfl
        case hp97 => exact fun _ _ _ h => h
        case hw97 => rfl
        case hy97 =>
          intro W hSw
          go_simp
          try exact rfl
        simp only [Act.put]
        refine wpAnyH_ready (rs := [12]) (by kernel_rfl) (by simp) ?_
        refine AllReadyH.cons rfl (fun K hK => ?_) AllReadyH.nil
        go_simp
        refine (hHeld.draw 12 (by decide) (by decide)).mono ?_
        rintro e wv98 ⟨⟨kb, rfl, hkb⟩, hXn, hG⟩
        refine hK.out _ _ hXn (fun hHeld => ?_)
        clear hK K hG hXn
        have kb0 : (0 : Int) ≤ (kb : Int) := Int.natCast_nonneg _
        refine wpAnyH_take (i := 13) (oi := ?oi99) (v := ?v99) ?ho99 (by kernel_rfl) (by kernel_rfl) (by kernel_rfl) ?hp99 (Or.inl ⟨?hw99, ?hy99⟩) (by assumption) ?rest99
        case ho99 => simp only [List.getElem?_toArray, List.getElem?_cons_succ, List.getElem?_cons_zero]; rfl
        case hp99 => exact fun _ _ _ h => h
        case hw99 => rfl
        case hy99 =>
          intro W hSw
          go_simp
          try exact rfl
        simp only [Act.put]
        refine wpAnyH_take (i := 14) (oi := ?oi100) (v := ?v100) ?ho100 (by kernel_rfl) (by kernel_rfl) (by kernel_rfl) ?hp100 (Or.inl ⟨?hw100, ?hy100⟩) (by assumption) ?rest100
        case ho100 => simp only [List.getElem?_toArray, List.getElem?_cons_succ, List.getElem?_cons_zero]; rfl
        case hp100 => exact fun _ _ _ h => h
        case hw100 => rfl
        case hy100 =>
          intro W hSw
          go_simp
          try exact rfl
        simp only [Act.put]
        refine wpAnyH_ready (rs := [16]) (by kernel_rfl) (by simp) ?_
        refine AllReadyH.cons rfl (fun K hK => ?_) AllReadyH.nil
        go_simp
        refine (hHeld.draw 5 (by decide) (by decide)).mono ?_
        rintro e wv101 ⟨⟨kc, rfl, hkc⟩, hXn, hG⟩
        refine hK.out _ _ hXn (fun hHeld => ?_)
        clear hK K hG hXn
        have kc0 : (0 : Int) ≤ (kc : Int) := Int.natCast_nonneg _
        refine wpAnyH_take (i := 17) (oi := ?oi102) (v := ?v102) ?ho102 (by kernel_rfl) (by kernel_rfl) (by kernel_rfl) ?hp102 (Or.inl ⟨?hw102, ?hy102⟩) (by assumption) ?rest102
        case ho102 => simp only [List.getElem?_toArray, List.getElem?_cons_succ, List.getElem?_cons_zero]; rfl
        case hp102 => exact fun _ _ _ h => h
        case hw102 => rfl
        case hy102 =>
          intro W hSw
          go_simp
          try exact rfl
        simp only [Act.put]
        refine wpAnyH_take (i := 18) (oi := ?oi103) (v := ?v103) ?ho103 (by kernel_rfl) (by kernel_rfl) (by kernel_rfl) ?hp103 (Or.inl ⟨?hw103, ?hy103⟩) (by assumption) ?rest103
        case ho103 => simp only [List.getElem?_toArray, List.getElem?_cons_succ, List.getElem?_cons_zero]; rfl
        case hp103 => exact fun _ _ _ h => h
        case hw103 => rfl
        case hy103 =>
          intro W hSw
          go_simp
          try exact rfl
        simp only [Act.put]
        refine wpAnyH_ready (rs := [20]) (by kernel_rfl) (by simp) ?_
        refine AllReadyH.cons rfl (fun K hK => ?_) AllReadyH.nil
        obtain ⟨⟨x2, c2⟩, f2⟩ := hHeld.open 2 (by decide)
        go_simp
        refine hK.out _ _ (hHeld.put2 _) (fun hHeld => ?_)
        clear hK K c2 f2 x2
        refine wpAnyH_take (i := 21) (oi := ?oi104) (v := ?v104) ?ho104 (by kernel_rfl) (by kernel_rfl) (by kernel_rfl) ?hp104 (Or.inl ⟨?hw104, ?hy104⟩) (by assumption) ?rest104
        case ho104 => simp only [List.getElem?_toArray, List.getElem?_cons_succ, List.getElem?_cons_zero]; rfl
        case hp104 => exact fun _ _ _ h => h
        case hw104 => rfl
        case hy104 =>
          intro W hSw
          go_simp
          try exact rfl
        simp only [Act.put]
        refine wpAnyH_ready (rs := [22]) (by kernel_rfl) (by simp) ?_
        refine AllReadyH.cons rfl (fun K hK => ?_) AllReadyH.nil
        obtain ⟨⟨x5, c5⟩, f5⟩ := hHeld.open 5 (by decide)
        go_simp
        refine hK.out _ _ (hHeld.put5 _) (fun hHeld => ?_)
        clear hK K c5 f5 x5
        refine wpAnyH_take (i := 23) (oi := ?oi105) (v := ?v105) ?ho105 (by kernel_rfl) (by kernel_rfl) (by kernel_rfl) ?hp105 (Or.inl ⟨?hw105, ?hy105⟩) (by assumption) ?rest105
        case ho105 => simp only [List.getElem?_toArray, List.getElem?_cons_succ, List.getElem?_cons_zero]; rfl
        case hp105 => exact fun _ _ _ h => h
        case hw105 => rfl
        case hy105 =>
          intro W hSw
          go_simp
          try exact rfl
        simp only [Act.put]
        refine wpAnyH_ready (rs := [24]) (by kernel_rfl) (by simp) ?_
        refine AllReadyH.cons rfl (fun K hK => ?_) AllReadyH.nil
        obtain ⟨⟨x8, c8⟩, f8⟩ := hHeld.open 8 (by decide)
        go_simp
        refine hK.out _ _ (hHeld.put8 _) (fun hHeld => ?_)
        clear hK K c8 f8 x8
        refine wpAnyH_take (i := 25) (oi := ?oi106) (v := ?v106) ?ho106 (by kernel_rfl) (by kernel_rfl) (by kernel_rfl) ?hp106 (Or.inl ⟨?hw106, ?hy106⟩) (by assumption) ?rest106
        case ho106 => simp only [List.getElem?_toArray, List.getElem?_cons_succ, List.getElem?_cons_zero]; rfl
        case hp106 => exact fun _ _ _ h => h
        case hw106 => rfl
        case hy106 =>
          intro W hSw
          go_simp
          try exact rfl
        simp only [Act.put]
        refine wpAnyH_ready (rs := [26]) (by kernel_rfl) (by simp) ?_
        refine AllReadyH.cons rfl (fun K hK => ?_) AllReadyH.nil
        obtain ⟨⟨x7, c7⟩, f7⟩ := hHeld.open 7 (by decide)
        go_simp
        refine hK.out _ _ (hHeld.put7 _) (fun hHeld => ?_)
        clear hK K c7 f7 x7
        refine wpAnyH_done (by kernel_rfl) ?_ _
        obtain ⟨e9, z1, z2, hX⟩ := hHeld.ev
        go_wp2
        go_meet
        exact ⟨e9, z1, z2, Lib.hid hX⟩
      · go_upto_region 18 with fail
        refine wp_region_held_drew (S := fun W => EvX w a n c E (.slice va E.length vc) eb [] W) (by kernel_rfl) (EvX.start hB5.out hv0).drew (fun hHeld => ?_)
        generalize u5.drew = wd at hHeld ⊢
        refine wpAnyH_take (i := 1) (oi := ?oi107) (v := ?v107) ?ho107 (by kernel_rfl) (by kernel_rfl) (by kernel_rfl) ?hp107 (Or.inl ⟨?hw107, ?hy107⟩) (by assumption) ?rest107
        case ho107 => simp only [List.getElem?_toArray, List.getElem?_cons_succ, List.getElem?_cons_zero]; rfl
        case hp107 => exact fun _ _ _ h => h
        case hw107 => rfl
        case hy107 =>
          intro W hSw
          go_simp
          try exact rfl
        simp only [Act.put]
        refine wpAnyH_take (i := 6) (oi := ?oi108) (v := ?v108) ?ho108 (by kernel_rfl) (by kernel_rfl) (by kernel_rfl) ?hp108 (Or.inl ⟨?hw108, ?hy108⟩) (by assumption) ?rest108
        case ho108 => simp only [List.getElem?_toArray, List.getElem?_cons_succ, List.getElem?_cons_zero]; rfl
        case hp108 => exact fun _ _ _ h => h
        case hw108 => rfl
        case hy108 =>
          intro W hSw
          go_simp
          try exact rfl
        simp only [Act.put]
        refine wpAnyH_take (i := 11) (oi := ?oi109) (v := ?v109) ?ho109 (by kernel_rfl) (by kernel_rfl) (by kernel_rfl) ?hp109 (Or.inl ⟨?hw109, ?hy109⟩) (by assumption) ?rest109
        case ho109 => simp only [List.getElem?_toArray, List.getElem?_cons_succ, List.getElem?_cons_zero]; rfl
        case hp109 => exact fun _ _ _ h => h
        case hw109 => rfl
        case hy109 =>
          intro W hSw
          go_simp
          try exact rfl
        simp only [Act.put]
        refine wpAnyH_take (i := 15) (oi := ?oi110) (v := ?v110) ?ho110 (by kernel_rfl) (by kernel_rfl) (by kernel_rfl) ?hp110 (Or.inl ⟨?hw110, ?hy110⟩) (by assumption) ?rest110
        case ho110 => simp only [List.getElem?_toArray, List.getElem?_cons_succ, List.getElem?_cons_zero]; rfl
        case hp110 => exact fun _ _ _ h => h
        case hw110 => rfl
        case hy110 =>
          intro W hSw
          go_simp
          try exact rfl
        simp only [Act.put]
        refine wpAnyH_take (i := 19) (oi := ?oi111) (v := ?v111) ?ho111 (by kernel_rfl) (by kernel_rfl) (by kernel_rfl) ?hp111 (Or.inl ⟨?hw111, ?hy111⟩) (by assumption) ?rest111
        case ho111 => simp only [List.getElem?_toArray, List.getElem?_cons_succ, List.getElem?_cons_zero]; rfl
        case hp111 => exact fun _ _ _ h => h
        case hw111 => rfl
        case hy111 =>
          intro W hSw
          go_simp
          try exact rfl
        simp only [Act.put]
        refine wpAnyH_ready (rs := [0]) (by kernel_rfl) (by simp) ?_
        refine AllReadyH.cons rfl (fun K hK => ?_) AllReadyH.nil
        go_simp
        refine (exps_any _).mono ?_
        rintro e u_e ⟨rfl, rfl⟩
        have hN := Own.new wd X4 9
        have hlt := hHeld.lt
        refine hK.out _ _ (hHeld.world ((Below.refl _ _).alloc (Nat.le_refl _) _)) (fun hHeld => ?_)
        clear hK K
        generalize wd.alloc (.cells X4 9) = wv112 at hHeld hN ⊢
        generalize wd.heap.size = gn at hN hlt ⊢
        refine wpAnyH_ready (rs := [2]) (by kernel_rfl) (by simp) ?_
        refine AllReadyH.cons rfl (fun K hK => ?_) AllReadyH.nil
        go_simp
        refine (hHeld.draw 8 (by decide) (by decide)).mono ?_
        rintro e wv113 ⟨⟨kn, rfl, hkn⟩, hXn, hG⟩
        replace hN := hN.kept hG (by simp; omega)
        refine hK.out _ _ hXn (fun hHeld => ?_)
        clear hK K hG hXn
        have kn0 : (0 : Int) ≤ (kn : Int) := Int.natCast_nonneg _
        obtain ⟨q, hq⟩ : ∃ q : Nat, Hid (q = kn / 7) := ⟨_, Lib.hid rfl⟩
        have hq2 : q < 4 := by have := hq.out; omega
        have hqd : (kn : Int).tdiv 7 = (q : Int) := by rw [Int.tdiv_eq_ediv_of_nonneg (Int.natCast_nonneg kn), hq.out]; rfl
        have hqd2 : (kn : Int) / 7 = (q : Int) := by rw [hq.out]; rfl
        have hq0 : (0 : Int) ≤ (q : Int) := Int.natCast_nonneg _
        have hq5 : (q : Int) < 4 := by omega
        have hqw : IntKind.i64.wrap (q : Int) = (q : Int) := IntWalk.i64_in _ (by omega)
        clear hq
        refine wpAnyH_take (i := 3) (oi := ?oi114) (v := ?v114) ?ho114 (by kernel_rfl) (by kernel_rfl) (by kernel_rfl) ?hp114 (Or.inl ⟨?hw114, ?hy114⟩) (by assumption) ?rest114
        case ho114 => simp only [List.getElem?_toArray, List.getElem?_cons_succ, List.getElem?_cons_zero]; rfl
        case hp114 => exact fun _ _ _ h => h
        case hw114 => rfl
        case hy114 =>
          intro W hSw
          go_simp
          try exact rfl
        simp only [Act.put]
        obtain ⟨xn, hxn⟩ := text_in hN rfl texts4 hq2
        replace hHeld := hHeld.cons hxn (show gn ≠ w.heap.size by omega) (show gn ≠ eb by omega)
        clear hxn hN
        refine wpAnyH_narrow (S' := fun W => EvX w a n c E (.slice va E.length vc) eb [(⟨gn, q, none⟩, .string xn)] W) (fun _ h => h.tail) _ _ _ _ ?_
        refine wpAnyH_take (i := 4) (oi := ?oi115) (v := ?v115) ?ho115 (by kernel_rfl) (by kernel_rfl) (by kernel_rfl) ?hp115 (Or.inl ⟨?hw115, ?hy115⟩) (by assumption) ?rest115
        case ho115 => simp only [List.getElem?_toArray, List.getElem?_cons_succ, List.getElem?_cons_zero]; rfl
        case hp115 => exact fun _ _ _ h => h
        case hw115 => rfl
        case hy115 =>
          intro W hSw
          go_simp
          try exact rfl
        simp only [Act.put]
        refine wpAnyH_take (i := 5) (oi := ?oi116) (v := ?v116) ?ho116 (by kernel_rfl) (by kernel_rfl) (by kernel_rfl) ?hp116 (Or.inl ⟨?hw116, ?hy116⟩) (by assumption) ?rest116
        case ho116 => simp only [List.getElem?_toArray, List.getElem?_cons_succ, List.getElem?_cons_zero]; rfl
        case hp116 => exact fun _ _ _ h => h
        case hw116 => rfl
        case hy116 =>
          intro W hSw
          have hq1 := (hSw.cell (⟨gn, q, none⟩, .string xn) (by simp)).1
          go_simp
          try exact rfl
        simp only [Act.put]
        refine wpAnyH_ready (rs := [7]) (by kernel_rfl) (by simp) ?_
        refine AllReadyH.cons rfl (fun K hK => ?_) AllReadyH.nil
        go_simp
        refine (hHeld.draw 10 (by decide) (by decide)).mono ?_
        rintro e wv117 ⟨⟨ka, rfl, hka⟩, hXn, hG⟩
        refine hK.out _ _ hXn (fun hHeld => ?_)
        clear hK K hG hXn
        have ka0 : (0 : Int) ≤ (ka : Int) := Int.natCast_nonneg _
        refine wpAnyH_take (i := 8) (oi := ?oi118) (v := ?v118) ?ho118 (by kernel_rfl) (by kernel_rfl) (by kernel_rfl) ?hp118 (Or.inl ⟨?hw118, ?hy118⟩) (by assumption) ?rest118
        case ho118 => simp only [List.getElem?_toArray, List.getElem?_cons_succ, List.getElem?_cons_zero]; rfl
        case hp118 => exact fun _ _ _ h => h
        case hw118 => rfl
        case hy118 =>
          intro W hSw
          go_simp
          try exact rfl
        simp only [Act.put]
        refine wpAnyH_take (i := 9) (oi := ?oi119) (v := ?v119) ?ho119 (by kernel_rfl) (by kernel_rfl) (by kernel_rfl) ?hp119 (Or.inl ⟨?hw119, ?hy119⟩) (by assumption) ?rest119
        case ho119 => simp only [List.getElem?_toArray, List.getElem?_cons_succ, List.getElem?_cons_zero]; rfl
        case hp119 => exact fun _ _ _ h => h
        case hw119 => rfl
        case hy119 =>
          intro W hSw
          go_simp
          try exact rfl
        simp only [Act.put]
        refine wpAnyH_take (i := 10) (oi := ?oi120) (v := ?v120) ?ho120 (by kernel_rfl) (by kernel_rfl) (by kernel_rfl) ?hp120 (Or.inl ⟨?hw120, ?hy120⟩) (by assumption) ?rest120
        case ho120 => simp only [List.getElem?_toArray, List.getElem?_cons_succ, List.getElem?_cons_zero]; rfl
        case hp120 => exact fun _ _ _ h => h
        case hw120 => rfl
        case hy120 =>
          intro W hSw
          go_simp
          try exact rfl
        simp only [Act.put]
        refine wpAnyH_ready (rs := [12]) (by kernel_rfl) (by simp) ?_
        refine AllReadyH.cons rfl (fun K hK => ?_) AllReadyH.nil
        go_simp
        refine (hHeld.draw 12 (by decide) (by decide)).mono ?_
        rintro e wv121 ⟨⟨kb, rfl, hkb⟩, hXn, hG⟩
        refine hK.out _ _ hXn (fun hHeld => ?_)
        clear hK K hG hXn
        have kb0 : (0 : Int) ≤ (kb : Int) := Int.natCast_nonneg _
        refine wpAnyH_take (i := 13) (oi := ?oi122) (v := ?v122) ?ho122 (by kernel_rfl) (by kernel_rfl) (by kernel_rfl) ?hp122 (Or.inl ⟨?hw122, ?hy122⟩) (by assumption) ?rest122
        case ho122 => simp only [List.getElem?_toArray, List.getElem?_cons_succ, List.getElem?_cons_zero]; rfl
        case hp122 => exact fun _ _ _ h => h
        case hw122 => rfl
        case hy122 =>
          intro W hSw
          go_simp
          try exact rfl
        simp only [Act.put]
        refine wpAnyH_take (i := 14) (oi := ?oi123) (v := ?v123) ?ho123 (by kernel_rfl) (by kernel_rfl) (by kernel_rfl) ?hp123 (Or.inl ⟨?hw123, ?hy123⟩) (by assumption) ?rest123
        case ho123 => simp only [List.getElem?_toArray, List.getElem?_cons_succ, List.getElem?_cons_zero]; rfl
        case hp123 => exact fun _ _ _ h => h
        case hw123 => rfl
        case hy123 =>
          intro W hSw
          go_simp
          try exact rfl
        simp only [Act.put]
        refine wpAnyH_ready (rs := [16]) (by kernel_rfl) (by simp) ?_
        refine AllReadyH.cons rfl (fun K hK => ?_) AllReadyH.nil
        go_simp
        refine (hHeld.draw 5 (by decide) (by decide)).mono ?_
        rintro e wv124 ⟨⟨kc, rfl, hkc⟩, hXn, hG⟩
        refine hK.out _ _ hXn (fun hHeld => ?_)
        clear hK K hG hXn
        have kc0 : (0 : Int) ≤ (kc : Int) := Int.natCast_nonneg _
        refine wpAnyH_take (i := 17) (oi := ?oi125) (v := ?v125) ?ho125 (by kernel_rfl) (by kernel_rfl) (by kernel_rfl) ?hp125 (Or.inl ⟨?hw125, ?hy125⟩) (by assumption) ?rest125
        case ho125 => simp only [List.getElem?_toArray, List.getElem?_cons_succ, List.getElem?_cons_zero]; rfl
        case hp125 => exact fun _ _ _ h => h
        case hw125 => rfl
        case hy125 =>
          intro W hSw
          go_simp
          try exact rfl
        simp only [Act.put]
        refine wpAnyH_take (i := 18) (oi := ?oi126) (v := ?v126) ?ho126 (by kernel_rfl) (by kernel_rfl) (by kernel_rfl) ?hp126 (Or.inl ⟨?hw126, ?hy126⟩) (by assumption) ?rest126
        case ho126 => simp only [List.getElem?_toArray, List.getElem?_cons_succ, List.getElem?_cons_zero]; rfl
        case hp126 => exact fun _ _ _ h => h
        case hw126 => rfl
        case hy126 =>
          intro W hSw
          go_simp
          try exact rfl
        simp only [Act.put]
        refine wpAnyH_ready (rs := [20]) (by kernel_rfl) (by simp) ?_
        refine AllReadyH.cons rfl (fun K hK => ?_) AllReadyH.nil
        obtain ⟨⟨x2, c2⟩, f2⟩ := hHeld.open 2 (by decide)
        go_simp
        refine hK.out _ _ (hHeld.put2 _) (fun hHeld => ?_)
        clear hK K c2 f2 x2
        refine wpAnyH_take (i := 21) (oi := ?oi127) (v := ?v127) ?ho127 (by kernel_rfl) (by kernel_rfl) (by kernel_rfl) ?hp127 (Or.inl ⟨?hw127, ?hy127⟩) (by assumption) ?rest127
        case ho127 => simp only [List.getElem?_toArray, List.getElem?_cons_succ, List.getElem?_cons_zero]; rfl
        case hp127 => exact fun _ _ _ h => h
        case hw127 => rfl
        case hy127 =>
          intro W hSw
          go_simp
          try exact rfl
        simp only [Act.put]
        refine wpAnyH_ready (rs := [22]) (by kernel_rfl) (by simp) ?_
        refine AllReadyH.cons rfl (fun K hK => ?_) AllReadyH.nil
        obtain ⟨⟨x5, c5⟩, f5⟩ := hHeld.open 5 (by decide)
        go_simp
        refine hK.out _ _ (hHeld.put5 _) (fun hHeld => ?_)
        clear hK K c5 f5 x5
        refine wpAnyH_take (i := 23) (oi := ?oi128) (v := ?v128) ?ho128 (by kernel_rfl) (by kernel_rfl) (by kernel_rfl) ?hp128 (Or.inl ⟨?hw128, ?hy128⟩) (by assumption) ?rest128
        case ho128 => simp only [List.getElem?_toArray, List.getElem?_cons_succ, List.getElem?_cons_zero]; rfl
        case hp128 => exact fun _ _ _ h => h
        case hw128 => rfl
        case hy128 =>
          intro W hSw
          go_simp
          try exact rfl
        simp only [Act.put]
        refine wpAnyH_ready (rs := [24]) (by kernel_rfl) (by simp) ?_
        refine AllReadyH.cons rfl (fun K hK => ?_) AllReadyH.nil
        obtain ⟨⟨x8, c8⟩, f8⟩ := hHeld.open 8 (by decide)
        go_simp
        refine hK.out _ _ (hHeld.put8 _) (fun hHeld => ?_)
        clear hK K c8 f8 x8
        refine wpAnyH_take (i := 25) (oi := ?oi129) (v := ?v129) ?ho129 (by kernel_rfl) (by kernel_rfl) (by kernel_rfl) ?hp129 (Or.inl ⟨?hw129, ?hy129⟩) (by assumption) ?rest129
        case ho129 => simp only [List.getElem?_toArray, List.getElem?_cons_succ, List.getElem?_cons_zero]; rfl
        case hp129 => exact fun _ _ _ h => h
        case hw129 => rfl
        case hy129 =>
          intro W hSw
          go_simp
          try exact rfl
        simp only [Act.put]
        refine wpAnyH_ready (rs := [26]) (by kernel_rfl) (by simp) ?_
        refine AllReadyH.cons rfl (fun K hK => ?_) AllReadyH.nil
        obtain ⟨⟨x7, c7⟩, f7⟩ := hHeld.open 7 (by decide)
        go_simp
        refine hK.out _ _ (hHeld.put7 _) (fun hHeld => ?_)
        clear hK K c7 f7 x7
        refine wpAnyH_done (by kernel_rfl) ?_ _
        obtain ⟨e9, z1, z2, hX⟩ := hHeld.ev
        go_wp2
        go_meet
        exact ⟨e9, z1, z2, Lib.hid hX⟩
      · go_upto_region 18 with fail
        refine wp_region_held_drew (S := fun W => EvX w a n c E (.slice va E.length vc) eb [] W) (by kernel_rfl) (EvX.start hB5.out hv0).drew (fun hHeld => ?_)
        generalize u5.drew = wd at hHeld ⊢
        refine wpAnyH_take (i := 1) (oi := ?oi130) (v := ?v130) ?ho130 (by kernel_rfl) (by kernel_rfl) (by kernel_rfl) ?hp130 (Or.inl ⟨?hw130, ?hy130⟩) (by assumption) ?rest130
        case ho130 => simp only [List.getElem?_toArray, List.getElem?_cons_succ, List.getElem?_cons_zero]; rfl
        case hp130 => exact fun _ _ _ h => h
        case hw130 => rfl
        case hy130 =>
          intro W hSw
          go_simp
          try exact rfl
        simp only [Act.put]
        refine wpAnyH_take (i := 6) (oi := ?oi131) (v := ?v131) ?ho131 (by kernel_rfl) (by kernel_rfl) (by kernel_rfl) ?hp131 (Or.inl ⟨?hw131, ?hy131⟩) (by assumption) ?rest131
        case ho131 => simp only [List.getElem?_toArray, List.getElem?_cons_succ, List.getElem?_cons_zero]; rfl
        case hp131 => exact fun _ _ _ h => h
        case hw131 => rfl
        case hy131 =>
          intro W hSw
          go_simp
          try exact rfl
        simp only [Act.put]
        refine wpAnyH_take (i := 11) (oi := ?oi132) (v := ?v132) ?ho132 (by kernel_rfl) (by kernel_rfl) (by kernel_rfl) ?hp132 (Or.inl ⟨?hw132, ?hy132⟩) (by assumption) ?rest132
        case ho132 => simp only [List.getElem?_toArray, List.getElem?_cons_succ, List.getElem?_cons_zero]; rfl
        case hp132 => exact fun _ _ _ h => h
        case hw132 => rfl
        case hy132 =>
          intro W hSw
          go_simp
          try exact rfl
        simp only [Act.put]
        refine wpAnyH_take (i := 15) (oi := ?oi133) (v := ?v133) ?ho133 (by kernel_rfl) (by kernel_rfl) (by kernel_rfl) ?hp133 (Or.inl ⟨?hw133, ?hy133⟩) (by assumption) ?rest133
        case ho133 => simp only [List.getElem?_toArray, List.getElem?_cons_succ, List.getElem?_cons_zero]; rfl
        case hp133 => exact fun _ _ _ h => h
        case hw133 => rfl
        case hy133 =>
          intro W hSw
          go_simp
          try exact rfl
        simp only [Act.put]
        refine wpAnyH_take (i := 19) (oi := ?oi134) (v := ?v134) ?ho134 (by kernel_rfl) (by kernel_rfl) (by kernel_rfl) ?hp134 (Or.inl ⟨?hw134, ?hy134⟩) (by assumption) ?rest134
        case ho134 => simp only [List.getElem?_toArray, List.getElem?_cons_succ, List.getElem?_cons_zero]; rfl
        case hp134 => exact fun _ _ _ h => h
        case hw134 => rfl
        case hy134 =>
          intro W hSw
          go_simp
          try exact rfl
        simp only [Act.put]
        refine wpAnyH_ready (rs := [0]) (by kernel_rfl) (by simp) ?_
        refine AllReadyH.cons rfl (fun K hK => ?_) AllReadyH.nil
        go_simp
        refine (exps_any _).mono ?_
        rintro e u_e ⟨rfl, rfl⟩
        have hN := Own.new wd X4 9
        have hlt := hHeld.lt
        refine hK.out _ _ (hHeld.world ((Below.refl _ _).alloc (Nat.le_refl _) _)) (fun hHeld => ?_)
        clear hK K
        generalize wd.alloc (.cells X4 9) = wv135 at hHeld hN ⊢
        generalize wd.heap.size = gn at hN hlt ⊢
        refine wpAnyH_ready (rs := [2]) (by kernel_rfl) (by simp) ?_
        refine AllReadyH.cons rfl (fun K hK => ?_) AllReadyH.nil
        go_simp
        refine (hHeld.draw 8 (by decide) (by decide)).mono ?_
        rintro e wv136 ⟨⟨kn, rfl, hkn⟩, hXn, hG⟩
        replace hN := hN.kept hG (by simp; omega)
        refine hK.out _ _ hXn (fun hHeld => ?_)
        clear hK K hG hXn
        have kn0 : (0 : Int) ≤ (kn : Int) := Int.natCast_nonneg _
        obtain ⟨q, hq⟩ : ∃ q : Nat, Hid (q = kn / 7) := ⟨_, Lib.hid rfl⟩
        have hq2 : q < 4 := by have := hq.out; omega
        have hqd : (kn : Int).tdiv 7 = (q : Int) := by rw [Int.tdiv_eq_ediv_of_nonneg (Int.natCast_nonneg kn), hq.out]; rfl
        have hqd2 : (kn : Int) / 7 = (q : Int) := by rw [hq.out]; rfl
        have hq0 : (0 : Int) ≤ (q : Int) := Int.natCast_nonneg _
        have hq5 : (q : Int) < 4 := by omega
        have hqw : IntKind.i64.wrap (q : Int) = (q : Int) := IntWalk.i64_in _ (by omega)
        clear hq
        refine wpAnyH_take (i := 3) (oi := ?oi137) (v := ?v137) ?ho137 (by kernel_rfl) (by kernel_rfl) (by kernel_rfl) ?hp137 (Or.inl ⟨?hw137, ?hy137⟩) (by assumption) ?rest137
        case ho137 => simp only [List.getElem?_toArray, List.getElem?_cons_succ, List.getElem?_cons_zero]; rfl
        case hp137 => exact fun _ _ _ h => h
        case hw137 => rfl
        case hy137 =>
          intro W hSw
          go_simp
          try exact rfl
        simp only [Act.put]
        obtain ⟨xn, hxn⟩ := text_in hN rfl texts4 hq2
        replace hHeld := hHeld.cons hxn (show gn ≠ w.heap.size by omega) (show gn ≠ eb by omega)
        clear hxn hN
        refine wpAnyH_narrow (S' := fun W => EvX w a n c E (.slice va E.length vc) eb [(⟨gn, q, none⟩, .string xn)] W) (fun _ h => h.tail) _ _ _ _ ?_
        refine wpAnyH_take (i := 4) (oi := ?oi138) (v := ?v138) ?ho138 (by kernel_rfl) (by kernel_rfl) (by kernel_rfl) ?hp138 (Or.inl ⟨?hw138, ?hy138⟩) (by assumption) ?rest138
        case ho138 => simp only [List.getElem?_toArray, List.getElem?_cons_succ, List.getElem?_cons_zero]; rfl
        case hp138 => exact fun _ _ _ h => h
        case hw138 => rfl
        case hy138 =>
          intro W hSw
          go_simp
          try exact rfl
        simp only [Act.put]
        refine wpAnyH_take (i := 5) (oi := ?oi139) (v := ?v139) ?ho139 (by kernel_rfl) (by kernel_rfl) (by kernel_rfl) ?hp139 (Or.inl ⟨?hw139, ?hy139⟩) (by assumption) ?rest139
        case ho139 => simp only [List.getElem?_toArray, List.getElem?_cons_succ, List.getElem?_cons_zero]; rfl
        case hp139 => exact fun _ _ _ h => h
        case hw139 => rfl
        case hy139 =>
          intro W hSw
          have hq1 := (hSw.cell (⟨gn, q, none⟩, .string xn) (by simp)).1
          go_simp
          try exact rfl
        simp only [Act.put]
        refine wpAnyH_ready (rs := [7]) (by kernel_rfl) (by simp) ?_
        refine AllReadyH.cons rfl (fun K hK => ?_) AllReadyH.nil
        go_simp
        refine (hHeld.draw 10 (by decide) (by decide)).mono ?_
        rintro e wv140 ⟨⟨ka, rfl, hka⟩, hXn, hG⟩
        refine hK.out _ _ hXn (fun hHeld => ?_)
        clear hK K hG hXn
        have ka0 : (0 : Int) ≤ (ka : Int) := Int.natCast_nonneg _
        refine wpAnyH_take (i := 8) (oi := ?oi141) (v := ?v141) ?ho141 (by kernel_rfl) (by kernel_rfl) (by kernel_rfl) ?hp141 (Or.inl ⟨?hw141, ?hy141⟩) (by assumption) ?rest141
        case ho141 => simp only [List.getElem?_toArray, List.getElem?_cons_succ, List.getElem?_cons_zero]; rfl
        case hp141 => exact fun _ _ _ h => h
        case hw141 => rfl
        case hy141 =>
          intro W hSw
          go_simp
          try exact rfl
        simp only [Act.put]
        refine wpAnyH_take (i := 9) (oi := ?oi142) (v := ?v142) ?ho142 (by kernel_rfl) (by kernel_rfl) (by kernel_rfl) ?hp142 (Or.inl ⟨?hw142, ?hy142⟩) (by assumption) ?rest142
        case ho142 => simp only [List.getElem?_toArray, List.getElem?_cons_succ, List.getElem?_cons_zero]; rfl
        case hp142 => exact fun _ _ _ h => h
        case hw142 => rfl
        case hy142 =>
          intro W hSw
          go_simp
          try exact rfl
        simp only [Act.put]
        refine wpAnyH_take (i := 10) (oi := ?oi143) (v := ?v143) ?ho143 (by kernel_rfl) (by kernel_rfl) (by kernel_rfl) ?hp143 (Or.inl ⟨?hw143, ?hy143⟩) (by assumption) ?rest143
        case ho143 => simp only [List.getElem?_toArray, List.getElem?_cons_succ, List.getElem?_cons_zero]; rfl
        case hp143 => exact fun _ _ _ h => h
        case hw143 => rfl
        case hy143 =>
          intro W hSw
          go_simp
          try exact rfl
        simp only [Act.put]
        refine wpAnyH_ready (rs := [12]) (by kernel_rfl) (by simp) ?_
        refine AllReadyH.cons rfl (fun K hK => ?_) AllReadyH.nil
        go_simp
        refine (hHeld.draw 12 (by decide) (by decide)).mono ?_
        rintro e wv144 ⟨⟨kb, rfl, hkb⟩, hXn, hG⟩
        refine hK.out _ _ hXn (fun hHeld => ?_)
        clear hK K hG hXn
        have kb0 : (0 : Int) ≤ (kb : Int) := Int.natCast_nonneg _
        refine wpAnyH_take (i := 13) (oi := ?oi145) (v := ?v145) ?ho145 (by kernel_rfl) (by kernel_rfl) (by kernel_rfl) ?hp145 (Or.inl ⟨?hw145, ?hy145⟩) (by assumption) ?rest145
        case ho145 => simp only [List.getElem?_toArray, List.getElem?_cons_succ, List.getElem?_cons_zero]; rfl
        case hp145 => exact fun _ _ _ h => h
        case hw145 => rfl
        case hy145 =>
          intro W hSw
          go_simp
          try exact rfl
        simp only [Act.put]
        refine wpAnyH_take (i := 14) (oi := ?oi146) (v := ?v146) ?ho146 (by kernel_rfl) (by kernel_rfl) (by kernel_rfl) ?hp146 (Or.inl ⟨?hw146, ?hy146⟩) (by assumption) ?rest146
        case ho146 => simp only [List.getElem?_toArray, List.getElem?_cons_succ, List.getElem?_cons_zero]; rfl
        case hp146 => exact fun _ _ _ h => h
        case hw146 => rfl
        case hy146 =>
          intro W hSw
          go_simp
          try exact rfl
        simp only [Act.put]
        refine wpAnyH_ready (rs := [16]) (by kernel_rfl) (by simp) ?_
        refine AllReadyH.cons rfl (fun K hK => ?_) AllReadyH.nil
        go_simp
        refine (hHeld.draw 5 (by decide) (by decide)).mono ?_
        rintro e wv147 ⟨⟨kc, rfl, hkc⟩, hXn, hG⟩
        refine hK.out _ _ hXn (fun hHeld => ?_)
        clear hK K hG hXn
        have kc0 : (0 : Int) ≤ (kc : Int) := Int.natCast_nonneg _
        refine wpAnyH_take (i := 17) (oi := ?oi148) (v := ?v148) ?ho148 (by kernel_rfl) (by kernel_rfl) (by kernel_rfl) ?hp148 (Or.inl ⟨?hw148, ?hy148⟩) (by assumption) ?rest148
        case ho148 => simp only [List.getElem?_toArray, List.getElem?_cons_succ, List.getElem?_cons_zero]; rfl
        case hp148 => exact fun _ _ _ h => h
        case hw148 => rfl
        case hy148 =>
          intro W hSw
          go_simp
          try exact rfl
        simp only [Act.put]
        refine wpAnyH_take (i := 18) (oi := ?oi149) (v := ?v149) ?ho149 (by kernel_rfl) (by kernel_rfl) (by kernel_rfl) ?hp149 (Or.inl ⟨?hw149, ?hy149⟩) (by assumption) ?rest149
        case ho149 => simp only [List.getElem?_toArray, List.getElem?_cons_succ, List.getElem?_cons_zero]; rfl
        case hp149 => exact fun _ _ _ h => h
        case hw149 => rfl
        case hy149 =>
          intro W hSw
          go_simp
          try exact rfl
        simp only [Act.put]
        refine wpAnyH_ready (rs := [20]) (by kernel_rfl) (by simp) ?_
        refine AllReadyH.cons rfl (fun K hK => ?_) AllReadyH.nil
        obtain ⟨⟨x2, c2⟩, f2⟩ := hHeld.open 2 (by decide)
        go_simp
        refine hK.out _ _ (hHeld.put2 _) (fun hHeld => ?_)
        clear hK K c2 f2 x2
        refine wpAnyH_take (i := 21) (oi := ?oi150) (v := ?v150) ?ho150 (by kernel_rfl) (by kernel_rfl) (by kernel_rfl) ?hp150 (Or.inl ⟨?hw150, ?hy150⟩) (by assumption) ?rest150
        case ho150 => simp only [List.getElem?_toArray, List.getElem?_cons_succ, List.getElem?_cons_zero]; rfl
        case hp150 => exact fun _ _ _ h => h
        case hw150 => rfl
        case hy150 =>
          intro W hSw
          go_simp
          try exact rfl
        simp only [Act.put]
        refine wpAnyH_ready (rs := [22]) (by kernel_rfl) (by simp) ?_
        refine AllReadyH.cons rfl (fun K hK => ?_) AllReadyH.nil
        obtain ⟨⟨x5, c5⟩, f5⟩ := hHeld.open 5 (by decide)
        go_simp
        refine hK.out _ _ (hHeld.put5 _) (fun hHeld => ?_)
        clear hK K c5 f5 x5
        refine wpAnyH_take (i := 23) (oi := ?oi151) (v := ?v151) ?ho151 (by kernel_rfl) (by kernel_rfl) (by kernel_rfl) ?hp151 (Or.inl ⟨?hw151, ?hy151⟩) (by assumption) ?rest151
        case ho151 => simp only [List.getElem?_toArray, List.getElem?_cons_succ, List.getElem?_cons_zero]; rfl
        case hp151 => exact fun _ _ _ h => h
        case hw151 => rfl
        case hy151 =>
          intro W hSw
          go_simp
          try exact rfl
        simp only [Act.put]
        refine wpAnyH_ready (rs := [24]) (by kernel_rfl) (by simp) ?_
        refine AllReadyH.cons rfl (fun K hK => ?_) AllReadyH.nil
        obtain ⟨⟨x8, c8⟩, f8⟩ := hHeld.open 8 (by decide)
        go_simp
        refine hK.out _ _ (hHeld.put8 _) (fun hHeld => ?_)
        clear hK K c8 f8 x8
        refine wpAnyH_take (i := 25) (oi := ?oi152) (v := ?v152) ?ho152 (by kernel_rfl) (by kernel_rfl) (by kernel_rfl) ?hp152 (Or.inl ⟨?hw152, ?hy152⟩) (by assumption) ?rest152
        case ho152 => simp only [List.getElem?_toArray, List.getElem?_cons_succ, List.getElem?_cons_zero]; rfl
        case hp152 => exact fun _ _ _ h => h
        case hw152 => rfl
        case hy152 =>
          intro W hSw
          go_simp
          try exact rfl
        simp only [Act.put]
        refine wpAnyH_ready (rs := [26]) (by kernel_rfl) (by simp) ?_
        refine AllReadyH.cons rfl (fun K hK => ?_) AllReadyH.nil
        obtain ⟨⟨x7, c7⟩, f7⟩ := hHeld.open 7 (by decide)
        go_simp
        refine hK.out _ _ (hHeld.put7 _) (fun hHeld => ?_)
        clear hK K c7 f7 x7
        refine wpAnyH_done (by kernel_rfl) ?_ _
        obtain ⟨e9, z1, z2, hX⟩ := hHeld.ev
        go_wp2
        go_meet
        exact ⟨e9, z1, z2, Lib.hid hX⟩
      · go_wp2_with fail
        refine (hB5.out.draw 6 (by decide) (by decide)).mono ?_
        rintro e u6 ⟨⟨kj, rfl, hkj⟩, hB6, -⟩
        replace hB6 := Lib.hid hB6
        clear hB5
        go_upto_region 21 with fail
        go_cut [106] (fun s106 wy => ∃ y : Bool, s106 = .bool y ∧ Hid (EvB w a n c E (.slice va E.length vc) eb (evA e0) wy))
        case first =>
          refine wp_region_held_drew (S := fun W => EvB w a n c E (.slice va E.length vc) eb (evA e0) W) (by kernel_rfl) hB6.out.drew (fun hHeld => ?_)
          generalize u6.drew = wd at hHeld ⊢
          refine wpAnyH_take (i := 0) (oi := ?oi153) (v := ?v153) ?ho153 (by kernel_rfl) (by kernel_rfl) (by kernel_rfl) ?hp153 (Or.inl ⟨?hw153, ?hy153⟩) (by assumption) ?rest153
          case ho153 => simp only [List.getElem?_toArray, List.getElem?_cons_zero]; rfl
          case hp153 => exact fun _ _ _ h => h
          case hw153 => rfl
          case hy153 =>
            intro W hSw
            go_simp
            try exact rfl
          simp only [Act.put]
          refine wpAnyH_take (i := 2) (oi := ?oi154) (v := ?v154) ?ho154 (by kernel_rfl) (by kernel_rfl) (by kernel_rfl) ?hp154 (Or.inl ⟨?hw154, ?hy154⟩) (by assumption) ?rest154
          case ho154 => simp only [List.getElem?_toArray, List.getElem?_cons_succ, List.getElem?_cons_zero]; rfl
          case hp154 => exact fun _ _ _ h => h
          case hw154 => rfl
          case hy154 =>
            intro W hSw
            go_simp
            try exact rfl
          simp only [Act.put]
          refine wpAnyH_take (i := 3) (oi := ?oi155) (v := ?v155) ?ho155 (by kernel_rfl) (by kernel_rfl) (by kernel_rfl) ?hp155 (Or.inl ⟨?hw155, ?hy155⟩) (by assumption) ?rest155
          case ho155 => simp only [List.getElem?_toArray, List.getElem?_cons_succ, List.getElem?_cons_zero]; rfl
          case hp155 => exact fun _ _ _ h => h
          case hw155 => rfl
          case hy155 =>
            intro W hSw
            have hid := hSw.box.cell 4
            simp only [evA, List.getElem?_toArray, List.getElem?_cons_zero, List.getElem?_cons_succ] at hid
            go_simp
            try exact rfl
          simp only [Act.put]
          refine wpAnyH_ready (rs := [1]) (by kernel_rfl) (by simp) ?_
          refine AllReadyH.cons rfl (fun K hK => ?_) AllReadyH.nil
          go_simp
          refine (id_any kj _).mono ?_
          rintro e w7 ⟨⟨xj, rfl⟩, hb⟩
          refine hK.out _ _ (hHeld.world hb) (fun hHeld => ?_)
          clear hK K hb
          refine wpAnyH_take (i := 4) (oi := ?oi156) (v := ?v156) ?ho156 (by kernel_rfl) (by kernel_rfl) (by kernel_rfl) ?hp156 (Or.inl ⟨?hw156, ?hy156⟩) (by assumption) ?rest156
          case ho156 => simp only [List.getElem?_toArray, List.getElem?_cons_succ, List.getElem?_cons_zero]; rfl
          case hp156 => exact fun _ _ _ h => h
          case hw156 => rfl
          case hy156 =>
            intro W hSw
            go_simp
            try exact rfl
          simp only [Act.put]
          refine wpAnyH_done (by kernel_rfl) ?_ _
          go_wp2
          go_meet
          exact ⟨_, rfl, Lib.hid hHeld⟩
        case rest =>
        clear hB6
        obtain ⟨y2, rfl, hB7⟩ := hcut
        have kj0 : (0 : Int) ≤ (kj : Int) := Int.natCast_nonneg _
        cases y2
        · go_wp2_with fail
          refine (id_any kj _).mono ?_
          rintro e u8 ⟨⟨xo, rfl⟩, hb⟩
          have hX := (EvX.start hB7.out hv0).world hb
          obtain ⟨⟨x2, c2⟩, f2⟩ := hX.open 2 (by decide)
          obtain ⟨⟨x6, c6⟩, f6⟩ := hX.open 6 (by decide)
          obtain ⟨e9, z1, z2, hY⟩ := ((hX.put2 3).put6 xo).ev
          replace hY := Lib.hid hY
          clear hX hb hB7
          go_wp2
          go_meet
          exact ⟨e9, z1, z2, hY⟩
        · go_wp2_with fail
          have kj1 : (kj : Int) + 1 = ((kj + 1 : Nat) : Int) := rfl
          rw [kj1]
          refine (id_any (kj + 1) _).mono ?_
          rintro e u8 ⟨⟨xo, rfl⟩, hb⟩
          have hX := (EvX.start hB7.out hv0).world hb
          obtain ⟨⟨x2, c2⟩, f2⟩ := hX.open 2 (by decide)
          obtain ⟨⟨x6, c6⟩, f6⟩ := hX.open 6 (by decide)
          obtain ⟨e9, z1, z2, hY⟩ := ((hX.put2 3).put6 xo).ev
          replace hY := Lib.hid hY
          clear hX hb hB7 kj1
          go_wp2
          go_meet
          exact ⟨e9, z1, z2, hY⟩
      · have n0 : ((d : Int) == 0) = false := by simp; omega
        have n1 : ((d : Int) == 1) = false := by simp; omega
        have n2 : ((d : Int) == 2) = false := by simp; omega
        have n3 : ((d : Int) == 3) = false := by simp; omega
        go_upto_region 14 with fail
        refine wp_region_held_drew (S := fun W => EvX w a n c E (.slice va E.length vc) eb [] W) (by kernel_rfl) (EvX.start hB5.out hv0).drew (fun hHeld => ?_)
        generalize u5.drew = wd at hHeld ⊢
        refine wpAnyH_take (i := 1) (oi := ?oi157) (v := ?v157) ?ho157 (by kernel_rfl) (by kernel_rfl) (by kernel_rfl) ?hp157 (Or.inl ⟨?hw157, ?hy157⟩) (by assumption) ?rest157
        case ho157 => simp only [List.getElem?_toArray, List.getElem?_cons_succ, List.getElem?_cons_zero]; rfl
        case hp157 => exact fun _ _ _ h => h
        case hw157 => rfl
        case hy157 =>
          intro W hSw
          go_simp
          try exact rfl
        simp only [Act.put]
        refine wpAnyH_take (i := 6) (oi := ?oi158) (v := ?v158) ?ho158 (by kernel_rfl) (by kernel_rfl) (by kernel_rfl) ?hp158 (Or.inl ⟨?hw158, ?hy158⟩) (by assumption) ?rest158
        case ho158 => simp only [List.getElem?_toArray, List.getElem?_cons_succ, List.getElem?_cons_zero]; rfl
        case hp158 => exact fun _ _ _ h => h
        case hw158 => rfl
        case hy158 =>
          intro W hSw
          go_simp
          try exact rfl
        simp only [Act.put]
        refine wpAnyH_take (i := 9) (oi := ?oi159) (v := ?v159) ?ho159 (by kernel_rfl) (by kernel_rfl) (by kernel_rfl) ?hp159 (Or.inl ⟨?hw159, ?hy159⟩) (by assumption) ?rest159
        case ho159 => simp only [List.getElem?_toArray, List.getElem?_cons_succ, List.getElem?_cons_zero]; rfl
        case hp159 => exact fun _ _ _ h => h
        case hw159 => rfl
        case hy159 =>
          intro W hSw
          go_simp
          try exact rfl
        simp only [Act.put]
        refine wpAnyH_ready (rs := [0]) (by kernel_rfl) (by simp) ?_
        refine AllReadyH.cons rfl (fun K hK => ?_) AllReadyH.nil
        go_simp
        refine (names_any _).mono ?_
        rintro e u_e ⟨rfl, rfl⟩
        have hN := Own.new wd N2 9
        have hlt := hHeld.lt
        refine hK.out _ _ (hHeld.world ((Below.refl _ _).alloc (Nat.le_refl _) _)) (fun hHeld => ?_)
        clear hK K
        generalize wd.alloc (.cells N2 9) = wv160 at hHeld hN ⊢
        generalize wd.heap.size = gn at hN hlt ⊢
        refine wpAnyH_ready (rs := [2]) (by kernel_rfl) (by simp) ?_
        refine AllReadyH.cons rfl (fun K hK => ?_) AllReadyH.nil
        go_simp
        refine (hHeld.draw 3 (by decide) (by decide)).mono ?_
        rintro e wv161 ⟨⟨kn, rfl, hkn⟩, hXn, hG⟩
        replace hN := hN.kept hG (by simp; omega)
        refine hK.out _ _ hXn (fun hHeld => ?_)
        clear hK K hG hXn
        have kn0 : (0 : Int) ≤ (kn : Int) := Int.natCast_nonneg _
        obtain ⟨q, hq⟩ : ∃ q : Nat, Hid (q = kn / 2) := ⟨_, Lib.hid rfl⟩
        have hq2 : q < 2 := by have := hq.out; omega
        have hqd : (kn : Int).tdiv 2 = (q : Int) := by rw [Int.tdiv_eq_ediv_of_nonneg (Int.natCast_nonneg kn), hq.out]; rfl
        have hqd2 : (kn : Int) / 2 = (q : Int) := by rw [hq.out]; rfl
        have hq0 : (0 : Int) ≤ (q : Int) := Int.natCast_nonneg _
        have hq5 : (q : Int) < 2 := by omega
        have hqw : IntKind.i64.wrap (q : Int) = (q : Int) := IntWalk.i64_in _ (by omega)
        clear hq
        refine wpAnyH_take (i := 3) (oi := ?oi162) (v := ?v162) ?ho162 (by kernel_rfl) (by kernel_rfl) (by kernel_rfl) ?hp162 (Or.inl ⟨?hw162, ?hy162⟩) (by assumption) ?rest162
        case ho162 => simp only [List.getElem?_toArray, List.getElem?_cons_succ, List.getElem?_cons_zero]; rfl
        case hp162 => exact fun _ _ _ h => h
        case hw162 => rfl
        case hy162 =>
          intro W hSw
          go_simp
          try exact rfl
        simp only [Act.put]
        obtain ⟨xn, hxn⟩ := text_in hN rfl texts2 hq2
        replace hHeld := hHeld.cons hxn (show gn ≠ w.heap.size by omega) (show gn ≠ eb by omega)
        clear hxn hN
        refine wpAnyH_narrow (S' := fun W => EvX w a n c E (.slice va E.length vc) eb [(⟨gn, q, none⟩, .string xn)] W) (fun _ h => h.tail) _ _ _ _ ?_
        refine wpAnyH_take (i := 4) (oi := ?oi163) (v := ?v163) ?ho163 (by kernel_rfl) (by kernel_rfl) (by kernel_rfl) ?hp163 (Or.inl ⟨?hw163, ?hy163⟩) (by assumption) ?rest163
        case ho163 => simp only [List.getElem?_toArray, List.getElem?_cons_succ, List.getElem?_cons_zero]; rfl
        case hp163 => exact fun _ _ _ h => h
        case hw163 => rfl
        case hy163 =>
          intro W hSw
          go_simp
          try exact rfl
        simp only [Act.put]
        refine wpAnyH_take (i := 5) (oi := ?oi164) (v := ?v164) ?ho164 (by kernel_rfl) (by kernel_rfl) (by kernel_rfl) ?hp164 (Or.inl ⟨?hw164, ?hy164⟩) (by assumption) ?rest164
        case ho164 => simp only [List.getElem?_toArray, List.getElem?_cons_succ, List.getElem?_cons_zero]; rfl
        case hp164 => exact fun _ _ _ h => h
        case hw164 => rfl
        case hy164 =>
          intro W hSw
          have hq1 := (hSw.cell (⟨gn, q, none⟩, .string xn) (by simp)).1
          go_simp
          try exact rfl
        simp only [Act.put]
        refine wpAnyH_ready (rs := [7]) (by kernel_rfl) (by simp) ?_
        refine AllReadyH.cons rfl (fun K hK => ?_) AllReadyH.nil
        go_simp
        refine (hHeld.draw 40 (by decide) (by decide)).mono ?_
        rintro e wv165 ⟨⟨kv, rfl, hkv⟩, hXn, hG⟩
        refine hK.out _ _ hXn (fun hHeld => ?_)
        clear hK K hG hXn
        have kv0 : (0 : Int) ≤ (kv : Int) := Int.natCast_nonneg _
        refine wpAnyH_take (i := 8) (oi := ?oi166) (v := ?v166) ?ho166 (by kernel_rfl) (by kernel_rfl) (by kernel_rfl) ?hp166 (Or.inl ⟨?hw166, ?hy166⟩) (by assumption) ?rest166
        case ho166 => simp only [List.getElem?_toArray, List.getElem?_cons_succ, List.getElem?_cons_zero]; rfl
        case hp166 => exact fun _ _ _ h => h
        case hw166 => rfl
        case hy166 =>
          intro W hSw
          go_simp
          try exact rfl
        simp only [Act.put]
        refine wpAnyH_ready (rs := [10]) (by kernel_rfl) (by simp) ?_
        refine AllReadyH.cons rfl (fun K hK => ?_) AllReadyH.nil
        obtain ⟨⟨x2, c2⟩, f2⟩ := hHeld.open 2 (by decide)
        go_simp
        refine hK.out _ _ (hHeld.put2 _) (fun hHeld => ?_)
        clear hK K c2 f2 x2
        refine wpAnyH_take (i := 11) (oi := ?oi167) (v := ?v167) ?ho167 (by kernel_rfl) (by kernel_rfl) (by kernel_rfl) ?hp167 (Or.inl ⟨?hw167, ?hy167⟩) (by assumption) ?rest167
        case ho167 => simp only [List.getElem?_toArray, List.getElem?_cons_succ, List.getElem?_cons_zero]; rfl
        case hp167 => exact fun _ _ _ h => h
        case hw167 => rfl
        case hy167 =>
          intro W hSw
          go_simp
          try exact rfl
        simp only [Act.put]
        refine wpAnyH_ready (rs := [12]) (by kernel_rfl) (by simp) ?_
        refine AllReadyH.cons rfl (fun K hK => ?_) AllReadyH.nil
        obtain ⟨⟨x5, c5⟩, f5⟩ := hHeld.open 5 (by decide)
        go_simp
        refine hK.out _ _ (hHeld.put5 _) (fun hHeld => ?_)
        clear hK K c5 f5 x5
        refine wpAnyH_take (i := 13) (oi := ?oi168) (v := ?v168) ?ho168 (by kernel_rfl) (by kernel_rfl) (by kernel_rfl) ?hp168 (Or.inl ⟨?hw168, ?hy168⟩) (by assumption) ?rest168
        case ho168 => simp only [List.getElem?_toArray, List.getElem?_cons_succ, List.getElem?_cons_zero]; rfl
        case hp168 => exact fun _ _ _ h => h
        case hw168 => rfl
        case hy168 =>
          intro W hSw
          go_simp
          try exact rfl
        simp only [Act.put]
        refine wpAnyH_ready (rs := [14]) (by kernel_rfl) (by simp) ?_
        refine AllReadyH.cons rfl (fun K hK => ?_) AllReadyH.nil
        obtain ⟨⟨x9, c9⟩, f9⟩ := hHeld.open 9 (by decide)
        go_simp
        refine hK.out _ _ (hHeld.put9 _ (by have h := IntWalk.i64_in ((kv : Int) - 4) (by omega); omega) (by have h := IntWalk.i64_in ((kv : Int) - 4) (by omega); omega)) (fun hHeld => ?_)
        clear hK K c9 f9 x9
        refine wpAnyH_done (by kernel_rfl) ?_ _
        obtain ⟨e9, z1, z2, hX⟩ := hHeld.ev
        go_wp2
        go_meet
        exact ⟨e9, z1, z2, Lib.hid hX⟩
    case rest =>
    clear hB5
    obtain ⟨e1, hv1, hv2, hB⟩ := hcut
    have hcc := (cells10 hB.out.box).1
    have c0 := hcc.1
    have c1 := hcc.2.1
    have c2 := hcc.2.2.1
    have c3 := hcc.2.2.2.1
    have c4 := hcc.2.2.2.2.1
    have c5 := hcc.2.2.2.2.2.1
    have c6 := hcc.2.2.2.2.2.2.1
    have c7 := hcc.2.2.2.2.2.2.2.1
    have c8 := hcc.2.2.2.2.2.2.2.2.1
    have c9 := hcc.2.2.2.2.2.2.2.2.2
    clear hcc
    have hS6 := Lib.hid (hB.out.s.world (wv := wc.alloc (.cells #[.string e1.client, .int .i64 e1.seq, .int .i64 e1.kind, .int .i64 e1.time, .string e1.id, .string e1.name, .string e1.other, .int .i64 e1.version, .int .i64 e1.arm, .int .i64 e1.value] 40)) ((Below.refl _ _).alloc (Nat.le_refl _) _))
    have hsz := hB.out.s.size
    clear hB
    go_wp2_with (at_builtin; refine wpList_append_own _ rfl _ _ 38 rfl (w.heap.size + 2) 40 i0 (.agg zeroE.toArray) 10 112 Tryd.underlying38 hi hz0 hz1 hz2 rfl (by decide) _ E.length _ rfl hS6.out.row ⟨wc.heap.size, 0, none⟩ 1 1 (evA e1).toList rfl rfl (World.news_of_block (cs := evA e1) (t := 40) (fr := (0, 0)) (Own.new' rfl)) (by unfold evA; simp; exact ⟨rfl, rfl, rfl, rfl, rfl, rfl, rfl, rfl, rfl, rfl⟩) (by unfold maxLen; omega) (by omega) (by simp; omega) ?_; intro v' w4 hown4 hgrow hnil; clear hnil; have hS7 := Lib.hid (hS6.out.append hv1 hv2 hown4 hgrow); clear hown4 hgrow hS6)
    obtain ⟨va', vc', rfl⟩ := owns_slice hS7.out.row
    go_roundw
    case rel => exact ⟨E ++ [e1], va', vc', _, _, by rw [List.length_append], rfl, rfl, by simp; omega, hS7⟩
    case measure => simp [lenOf]; omega

end Go.Proofs.YtnghpjijfdpmkaaDoor.metric

