/- The drawing function Expr: a condition that fits the declared attributes and the segments. -/
import Derived.Test.YtfffpflflggonaaGreatDoorKS34
namespace Go.Proofs.YtfffpflflggonaaGreatDoor.draw
open Go.RowKit schema
attribute [local go_sem ↓] Go.wp_at_zero Go.wp_at_succ
set_option maxRecDepth 100000 in
set_option maxHeartbeats 8000000 in
theorem dexpr_step (b : Nat) (a : Option Addr) (n c : Nat) (sv : Value) (segs : List ByteArray) (levels : Int) (hl0 : -1000≤levels) (hl2 : levels≤1000) (hsn : segs.length≤200∧∀ s∈segs,s.size≤1048576)
    (ih : 1 < levels→∀ w : World,Codes b a n c w→Glob (but b w)→RowsAt (but b w) 1 sv (segs.map strRow)→Calls Tryz.prog 12 #[.pointer (some ⟨b,0,none⟩),sv,.int .i64 (levels - 1)] w (Drawn b a n c w fun e w'=>ExprIs w.heap.size b segs (DL (levels - 1)) e w'))
    (w : World) (h : Codes b a n c w) (hg : Glob (but b w)) (hs : RowsAt (but b w) 1 sv (segs.map strRow)) :
    Calls Tryz.prog 12 #[.pointer (some ⟨b,0,none⟩),sv,.int .i64 levels] w (Drawn b a n c w fun e w'=>ExprIs w.heap.size b segs (DL levels) e w'):=by
  have hss:=Lib.hid hsn.2
  replace hsn:=hsn.1
  have hC:=Lib.hid h
  have hg0:=Lib.hid hg
  have hsv:=Lib.hid hs
  have hlt:=h.lt
  clear h hg
  obtain ⟨sa,sc,rfl,hs1,hs2,hs3⟩:=hs
  rw [List.length_map] at hs1 hsv ih ⊢
  have hsegs:=Lib.hid hs3
  unfold maxLen at hs2
  clear hs3
  go_enter Tryz.func12,Tryz.ntmps12
  go_wp2_with fail
  refine (next_any b a n c _ 8 (by omega) (by omega) (hC.out.alloc (.cells zeroE 31))).mono ?_
  rintro e w2 ⟨⟨m,rfl,hm0,hm1⟩,hH,hG⟩
  have hI:=Lib.hid (show XI w w2 b a n c w.heap.size from ⟨hH,g_call (g_alloc (grown_refl _ _) _) hG,(Own.new w zeroE _).kept hG (by simp; omega),hlt,Nat.le_refl _⟩)
  have hlt2 : w.heap.size < w2.heap.size:=hI.out.ownR.lt
  clear hH hG
  have hmc : m = 0∨m = 1∨m = 2∨m = 3∨m = 4∨m = 5∨m = 6∨m = 7:=by omega
  by_cases hl1 : 1 < levels
  · rcases hmc with rfl | rfl | rfl | rfl | rfl | rfl | rfl | rfl
    · skip
      obtain ⟨d0,d1,d2,d3,d4,g0,g1,g2,g3,g4⟩:=own5 hI.out.ownR
      go_wp2
      refine bodyPost_ret (v:=.agg #[.int .i64 1,.string ⟨#[]⟩,.string ⟨#[]⟩,.slice none 0 0,.slice none 0 0]) (by simp [results,Tryz.results12,go_sem,d0,d1,d2,d3,d4]) rfl ?_
      refine ⟨⟨_,1,⟨#[]⟩,⟨#[]⟩,none,0,0,none,0,0,rfl,eat_true _,s_true segs _⟩,?_,?_⟩
      · exact (Head.set (Head.set (Head.set (Head.set (Head.set hI.out.head (by simp <;> omega) _) (by simp <;> omega) _) (by simp <;> omega) _) (by simp <;> omega) _) (by simp <;> omega) _)
      · exact (g_setCell (g_setCell (g_setCell (g_setCell (g_setCell hI.out.grown (by simp <;> omega) _) (by simp <;> omega) _) (by simp <;> omega) _) (by simp <;> omega) _) (by simp <;> omega) _)
    · skip
      go_wp2_with fail
      refine (test_any b a n c _ (hI.out.codes hC.out) (hI.out.glob hg0.out)).mono ?_
      rintro e w5 ⟨⟨op,kind,name,l,va,vn,vc,rfl,hrow,hLs,hfit⟩,hH,hG⟩
      have hI5:=Lib.hid (hI.out.call hG hH)
      have hrow0:=Lib.hid hrow
      have hLs0:=Lib.hid hLs
      have hfit0:=Lib.hid hfit
      clear hH hG hrow hLs hfit
      obtain ⟨d0,d1,d2,d3,d4,g0,g1,g2,g3,g4⟩:=own5 hI5.out.ownR
      go_wp2
      refine bodyPost_ret (v:=.agg #[.int .i64 op,.string kind,.string name,.slice va vn vc,.slice none 0 0]) (by simp [results,Tryz.results12,go_sem,d0,d1,d2,d3,d4]) rfl ?_
      refine ⟨⟨_,op,kind,name,va,vn,vc,none,0,0,rfl,EAt.mono ?_ (eat_test hrow0.out hLs0.out),s_test hfit0.out⟩,?_,?_⟩
      · exact (Sub.trans (Sub.trans (Sub.trans (Sub.trans (Sub.trans (newM_set (by simp <;> omega) _) (newM_set (by simp <;> omega) _)) (newM_set (by simp <;> omega) _)) (newM_set (by simp <;> omega) _)) (newM_set (by simp <;> omega) _)) (newM_mono (by omega) b _))
      · exact (Head.set (Head.set (Head.set (Head.set (Head.set hI5.out.head (by simp <;> omega) _) (by simp <;> omega) _) (by simp <;> omega) _) (by simp <;> omega) _) (by simp <;> omega) _)
      · exact (g_setCell (g_setCell (g_setCell (g_setCell (g_setCell hI5.out.grown (by simp <;> omega) _) (by simp <;> omega) _) (by simp <;> omega) _) (by simp <;> omega) _) (by simp <;> omega) _)
    · skip
      go_wp2_with fail
      refine (test_any b a n c _ (hI.out.codes hC.out) (hI.out.glob hg0.out)).mono ?_
      rintro e w5 ⟨⟨op,kind,name,l,va,vn,vc,rfl,hrow,hLs,hfit⟩,hH,hG⟩
      have hI5:=Lib.hid (hI.out.call hG hH)
      have hrow0:=Lib.hid hrow
      have hLs0:=Lib.hid hLs
      have hfit0:=Lib.hid hfit
      clear hH hG hrow hLs hfit
      obtain ⟨d0,d1,d2,d3,d4,g0,g1,g2,g3,g4⟩:=own5 hI5.out.ownR
      go_wp2
      refine bodyPost_ret (v:=.agg #[.int .i64 op,.string kind,.string name,.slice va vn vc,.slice none 0 0]) (by simp [results,Tryz.results12,go_sem,d0,d1,d2,d3,d4]) rfl ?_
      refine ⟨⟨_,op,kind,name,va,vn,vc,none,0,0,rfl,EAt.mono ?_ (eat_test hrow0.out hLs0.out),s_test hfit0.out⟩,?_,?_⟩
      · exact (Sub.trans (Sub.trans (Sub.trans (Sub.trans (Sub.trans (newM_set (by simp <;> omega) _) (newM_set (by simp <;> omega) _)) (newM_set (by simp <;> omega) _)) (newM_set (by simp <;> omega) _)) (newM_set (by simp <;> omega) _)) (newM_mono (by omega) b _))
      · exact (Head.set (Head.set (Head.set (Head.set (Head.set hI5.out.head (by simp <;> omega) _) (by simp <;> omega) _) (by simp <;> omega) _) (by simp <;> omega) _) (by simp <;> omega) _)
      · exact (g_setCell (g_setCell (g_setCell (g_setCell (g_setCell hI5.out.grown (by simp <;> omega) _) (by simp <;> omega) _) (by simp <;> omega) _) (by simp <;> omega) _) (by simp <;> omega) _)
    · skip
      by_cases hsl : segs = []
      · have hz : segs.length = 0:=by simp [hsl]
        go_wp2_with fail
        refine (test_any b a n c _ (hI.out.codes hC.out) (hI.out.glob hg0.out)).mono ?_
        rintro e w5 ⟨⟨op,kind,name,l,va,vn,vc,rfl,hrow,hLs,hfit⟩,hH,hG⟩
        have hI5:=Lib.hid (hI.out.call hG hH)
        have hrow0:=Lib.hid hrow
        have hLs0:=Lib.hid hLs
        have hfit0:=Lib.hid hfit
        clear hH hG hrow hLs hfit
        obtain ⟨d0,d1,d2,d3,d4,g0,g1,g2,g3,g4⟩:=own5 hI5.out.ownR
        go_wp2
        refine bodyPost_ret (v:=.agg #[.int .i64 op,.string kind,.string name,.slice va vn vc,.slice none 0 0]) (by simp [results,Tryz.results12,go_sem,d0,d1,d2,d3,d4]) rfl ?_
        refine ⟨⟨_,op,kind,name,va,vn,vc,none,0,0,rfl,EAt.mono ?_ (eat_test hrow0.out hLs0.out),s_test hfit0.out⟩,?_,?_⟩
        · exact (Sub.trans (Sub.trans (Sub.trans (Sub.trans (Sub.trans (newM_set (by simp <;> omega) _) (newM_set (by simp <;> omega) _)) (newM_set (by simp <;> omega) _)) (newM_set (by simp <;> omega) _)) (newM_set (by simp <;> omega) _)) (newM_mono (by omega) b _))
        · exact (Head.set (Head.set (Head.set (Head.set (Head.set hI5.out.head (by simp <;> omega) _) (by simp <;> omega) _) (by simp <;> omega) _) (by simp <;> omega) _) (by simp <;> omega) _)
        · exact (g_setCell (g_setCell (g_setCell (g_setCell (g_setCell hI5.out.grown (by simp <;> omega) _) (by simp <;> omega) _) (by simp <;> omega) _) (by simp <;> omega) _) (by simp <;> omega) _)
      have hpos : 0 < segs.length:=by
        rcases Nat.eq_zero_or_pos segs.length with h | h
        · exact absurd (List.eq_nil_of_length_eq_zero h) hsl
        · exact h
      rcases hsegs.out with hs | ⟨blk,off,rfl,hs⟩
      · exact absurd (by simpa using hs) hsl
      go_wp2_with fail
      refine (next_any b a n c _ segs.length (by omega) (by omega) (hI.out.codes hC.out)).mono ?_
      rintro e w5 ⟨⟨m2,rfl,h20,h21⟩,hH,hG⟩
      obtain ⟨q,rfl⟩:=Int.eq_ofNat_of_zero_le h20
      have hq : q < segs.length:=by omega
      have hI5:=Lib.hid (hI.out.call hG hH)
      have cs:=but_sub _ _ _ _ (str_cell (RowsAt.cells_mono (sub_of_grown hI5.out.grown) hs) hq)
      clear hH hG hs
      obtain ⟨d0,d1,d2,d3,d4,g0,g1,g2,g3,g4⟩:=own5 hI5.out.ownR
      go_wp2
      refine bodyPost_ret (v:=.agg #[.int .i64 5,.string ⟨#[]⟩,.string segs[q],.slice none 0 0,.slice none 0 0]) (by simp [results,Tryz.results12,go_sem,d0,d1,d2,d3,d4]) rfl ?_
      refine ⟨⟨_,5,⟨#[]⟩,segs[q],none,0,0,none,0,0,rfl,eat_seg _ _,s_seg hq (hss.out _ (List.getElem_mem hq))⟩,?_,?_⟩
      · exact (Head.set (Head.set (Head.set (Head.set (Head.set hI5.out.head (by simp <;> omega) _) (by simp <;> omega) _) (by simp <;> omega) _) (by simp <;> omega) _) (by simp <;> omega) _)
      · exact (g_setCell (g_setCell (g_setCell (g_setCell (g_setCell hI5.out.grown (by simp <;> omega) _) (by simp <;> omega) _) (by simp <;> omega) _) (by simp <;> omega) _) (by simp <;> omega) _)
    · skip
      go_wp2_with fail
      refine (ih hl1 _ (hI.out.codes hC.out) (hI.out.glob hg0.out) (hI.out.segs hsv.out)).mono ?_
      rintro e w5 ⟨⟨dk,op,kind,name,va,vn,vc,ka,kn,kc,rfl,hE,hS⟩,hH,hG⟩
      have hI5:=Lib.hid (hI.out.call hG hH)
      have hE0:=Lib.hid hE
      have hS0:=Lib.hid hS
      have hlR : w.heap.size < w5.heap.size:=hI5.out.ownR.lt
      clear hH hG hE hS
      obtain ⟨d0,d1,d2,d3,d4,g0,g1,g2,g3,g4⟩:=own5 hI5.out.ownR
      go_wp2
      refine bodyPost_ret (v:=.agg #[.int .i64 4,.string ⟨#[]⟩,.string ⟨#[]⟩,.slice none 0 0,.slice (some ⟨w5.heap.size,0,none⟩) 1 1]) (by simp [results,Tryz.results12,go_sem,d0,d1,d2,d3,d4,hlR]) rfl ?_
      refine ⟨⟨_,4,⟨#[]⟩,⟨#[]⟩,none,0,0,some ⟨w5.heap.size,0,none⟩,1,1,rfl,eat_not (r:=[.int .i64 op,.string kind,.string name,.slice va vn vc,.slice ka kn kc]) (rows_of_own_new (Own.new' (by simp)) (by omega) (by omega) 5 [_] (by simp) (by simp) 1 (by simp) (by decide)) (EAt.mono ?_ hE0.out),(s_not hS0.out).up (dl_one (by omega))⟩,?_,?_⟩
      · exact Sub.trans (Sub.trans (Sub.trans (Sub.trans (Sub.trans (Sub.trans (newM_set (by simp <;> omega) _) (newM_set (by simp <;> omega) _)) (newM_set (by simp <;> omega) _)) (newM_set (by simp <;> omega) _)) (newM_set (by simp <;> omega) _)) (newM_mono (by omega) b _)) (newM_grown (World.grownBy_alloc _ _ _))
      · exact Head.alloc (Head.set (Head.set (Head.set (Head.set (Head.set hI5.out.head (by simp <;> omega) _) (by simp <;> omega) _) (by simp <;> omega) _) (by simp <;> omega) _) (by simp <;> omega) _) _
      · exact g_alloc (g_setCell (g_setCell (g_setCell (g_setCell (g_setCell hI5.out.grown (by simp <;> omega) _) (by simp <;> omega) _) (by simp <;> omega) _) (by simp <;> omega) _) (by simp <;> omega) _) _
    · skip
      go_wp2_with fail
      refine (next_any b a n c _ 2 (by omega) (by omega) (hI.out.codes hC.out)).mono ?_
      rintro e w5 ⟨⟨p,rfl,hp0,hp1⟩,hH,hG⟩
      have hI5:=Lib.hid (hI.out.call hG hH)
      have hlt5 : w.heap.size < w5.heap.size:=hI5.out.ownR.lt
      clear hH hG
      go_wp2_with fail
      have hR0:=Lib.hid (relC_start (op:=2 + p) (segs:=segs) (D:=DL (levels - 1) + 2) hI5.out)
      refine (next_any b a n c _ 2 (by omega) (by omega) ((hI5.out.alloc (.cells (exprK (2 + p) (.slice none 0 0)) 31)).codes hC.out)).mono ?_
      rintro e w6 ⟨⟨q,rfl,hq0,hq1⟩,hH,hG⟩
      have hR6:=Lib.hid (hR0.out.call hG hH)
      clear hH hG
      obtain ⟨i0,hi,hz0,hz1,hz2⟩:=info_parts info26
      go_wp2_with fail
      go_loopw [11] (fun i wr=>∃ k : Nat,(k : Int)≤2 + q∧i = .int .i64 k∧Hid (RelC w wr b a n c w.heap.size w5.heap.size (2 + p) segs (DL (levels - 1) + 2) k)) (fun i _=>4 - (intOf i).toNat)
      case atStart=>exact ⟨0,by omega,rfl,hR6.out⟩
      case round =>
        obtain ⟨k,hk,rfl,hR⟩:=hrel
        obtain ⟨xa,xc,rows,kids,h1,h2,h3,h4,h5,h6,h7,h8,h9⟩:=hR.out
        have h10:=Lib.hid h1
        have h20:=Lib.hid h2
        have h30:=Lib.hid h3
        have h40:=Lib.hid h4
        have h50:=Lib.hid h5
        have h60:=Lib.hid h6
        have h80:=Lib.hid h8
        have h90:=Lib.hid h9
        have hlr : w5.heap.size < wr.heap.size:=h8.lt
        clear h1 h2 h3 h4 h5 h6 h8 h9
        by_cases hkq : (k : Int) < 2 + q
        · go_wp2_with fail
          refine (ih hl1 _ (h60.out.codes hC.out) (h60.out.glob hg0.out) (h60.out.segs hsv.out)).mono ?_
          rintro e w7 ⟨⟨dk,op,kind,name,va,vn,vc,ka,kn,kc,rfl,hE,hS⟩,hH,hG⟩
          have hG0:=Lib.hid hG
          have hI7:=Lib.hid (h60.out.call hG hH)
          have hE0:=Lib.hid hE
          have hS0:=Lib.hid hS
          have hO7:=Lib.hid (h80.out.kept hG (by simp; omega))
          have hown7:=Lib.hid (owns_kept h90.out hG (by omega))
          have hs7 : wr.heap.size≤w7.heap.size:=hG.size
          have hl7 : w5.heap.size < w7.heap.size:=by omega
          clear hH hG hE hS
          have x4:=hO7.out.cell 4
          have y4:=hO7.out.free 4
          simp [exprK] at x4
          by_cases hop : op = 2 + p
          · have hob : (op == 2 + p) = true:=by simp [hop]
            have hop0:=Lib.hid hop
            clear hop
            go_wp2_with (at_builtin; refine wpList_append_lies _ rfl _ _ _ rfl (w5.heap.size + 1) 31 i0 (.agg #[.int .i64 0,.string ⟨#[]⟩,.string ⟨#[]⟩,.slice none 0 0,.slice none 0 0]) 5 88 Tryz.underlying29 hi hz0 hz1 hz2 rfl (by omega) (.slice xa k xc) k _ rfl (((hown7.out.alloc (.cells #[.int .i64 4,.string ⟨#[]⟩,.string ⟨#[]⟩,.slice none 0 0,.slice (some ⟨w7.heap.size + 1,0,none⟩) 1 1] 31)).alloc (.cells #[.int .i64 op,.string kind,.string name,.slice va vn vc,.slice ka kn kc] 31)).alloc _) ⟨w7.heap.size + 1 + 1,0,none⟩ 1 1 [.int .i64 4,.string ⟨#[]⟩,.string ⟨#[]⟩,.slice none 0 0,.slice (some ⟨w7.heap.size + 1,0,none⟩) 1 1] rfl rfl (World.news_of_block (cs:=#[.int .i64 4,.string ⟨#[]⟩,.string ⟨#[]⟩,.slice none 0 0,.slice (some ⟨w7.heap.size + 1,0,none⟩) 1 1]) (t:=31) (fr:=(0,0)) (Own.new' (by simp))) (by simp [Value.oneCell']) (by omega) (by unfold maxLen; omega) (by omega) (by simp; omega) (w7.heap.size + 1 + 1 + 1) (by simp) ?_; intro gg cap w8 hown8 hgrow8 hat hlt8; have hO8:=own_past (((hown7.out.alloc (.cells #[.int .i64 4,.string ⟨#[]⟩,.string ⟨#[]⟩,.slice none 0 0,.slice (some ⟨w7.heap.size + 1,0,none⟩) 1 1] 31)).alloc (.cells #[.int .i64 op,.string kind,.string name,.slice va vn vc,.slice ka kn kc] 31)).alloc _) (((hO7.out.alloc _).alloc _).alloc _) hgrow8 (show w5.heap.size < w5.heap.size + 1 from Nat.lt_succ_self _); have z4:=hO8.cell 4; have z5:=hO8.free 4; simp [exprK] at z4; clear hO8)
            have hN:=Lib.hid (relC_next (X:=(w7.alloc (.cells #[.int .i64 4,.string ⟨#[]⟩,.string ⟨#[]⟩,.slice none 0 0,.slice (some ⟨w7.heap.size + 1,0,none⟩) 1 1] 31)).alloc (.cells #[.int .i64 op,.string kind,.string name,.slice va vn vc,.slice ka kn kc] 31)) h10.out h20.out h30.out h40.out h50.out ((hI7.out.alloc _).alloc _) h7 ((hO7.out.alloc _).alloc _) h90.out (g_alloc (g_alloc hG0.out _) _) hlr rfl (eat_not (r:=[.int .i64 op,.string kind,.string name,.slice va vn vc,.slice ka kn kc]) (rows_of_own_new (Own.new' (by simp)) (by omega) (by omega) 5 [_] (by simp) (by simp) 1 (by simp) (by decide)) (hE0.out.mono (newM_grown (g_alloc (g_alloc (grown_refl _ _) _) _)))) (s_not hS0.out) (Nat.le_refl _) hgrow8 (by simpa using hat) hown8)
            clear hgrow8 hown8 hat
            go_roundw
            case rel=>exact ⟨k + 1,by omega,by go_num,hN.out⟩
            case measure=>simp [intOf]; omega
          · have hob : (op == 2 + p) = false:=by simp [hop]
            clear hop
            go_wp2_with (at_builtin; refine wpList_append_lies _ rfl _ _ _ rfl (w5.heap.size + 1) 31 i0 (.agg #[.int .i64 0,.string ⟨#[]⟩,.string ⟨#[]⟩,.slice none 0 0,.slice none 0 0]) 5 88 Tryz.underlying29 hi hz0 hz1 hz2 rfl (by omega) (.slice xa k xc) k _ rfl ((hown7.out.alloc (.cells #[.int .i64 op,.string kind,.string name,.slice va vn vc,.slice ka kn kc] 31)).alloc _) ⟨w7.heap.size + 1,0,none⟩ 1 1 [.int .i64 op,.string kind,.string name,.slice va vn vc,.slice ka kn kc] rfl rfl (World.news_of_block (cs:=#[.int .i64 op,.string kind,.string name,.slice va vn vc,.slice ka kn kc]) (t:=31) (fr:=(0,0)) (Own.new' (by simp))) (by simp [Value.oneCell']) (by omega) (by unfold maxLen; omega) (by omega) (by simp; omega) (w7.heap.size + 1 + 1) (by simp) ?_; intro gg cap w8 hown8 hgrow8 hat hlt8; have hO8:=own_past ((hown7.out.alloc (.cells #[.int .i64 op,.string kind,.string name,.slice va vn vc,.slice ka kn kc] 31)).alloc _) ((hO7.out.alloc _).alloc _) hgrow8 (show w5.heap.size < w5.heap.size + 1 from Nat.lt_succ_self _); have z4:=hO8.cell 4; have z5:=hO8.free 4; simp [exprK] at z4; clear hO8)
            have hN:=Lib.hid (relC_next (X:=w7.alloc (.cells #[.int .i64 op,.string kind,.string name,.slice va vn vc,.slice ka kn kc] 31)) h10.out h20.out h30.out h40.out h50.out (hI7.out.alloc _) h7 (hO7.out.alloc _) h90.out (g_alloc hG0.out _) hlr rfl (hE0.out.mono (newM_grown (g_alloc (grown_refl _ _) _))) (hS0.out) (Nat.le_succ _) hgrow8 (by simpa using hat) hown8)
            clear hgrow8 hown8 hat
            go_roundw
            case rel=>exact ⟨k + 1,by omega,by go_num,hN.out⟩
            case measure=>simp [intOf]; omega
        · obtain ⟨c0,c1,c2,c3,c4,f0,f1,f2,f3,f4⟩:=own5 h80.out
          obtain ⟨d0,d1,d2,d3,d4,g0,g1,g2,g3,g4⟩:=own5 h60.out.ownR
          go_wp2
          refine bodyPost_ret (v:=.agg #[.int .i64 (2 + p),.string ⟨#[]⟩,.string ⟨#[]⟩,.slice none 0 0,.slice xa k xc]) (by simp [results,Tryz.results12,go_sem,d0,d1,d2,d3,d4]) rfl ?_
          have h11:=h10.out
          have h21:=h20.out
          have hrw:=h60.out.rw
          refine ⟨⟨.mk (2 + p) ⟨#[]⟩ ⟨#[]⟩ [] kids,2 + p,⟨#[]⟩,⟨#[]⟩,none,0,0,xa,k,xc,rfl,EAt.mk rows (rows_nil _ _) ?_ (by omega) (fun v hv=>by cases hv) (fun i x kd hi hk=>((h40.out i x kd hi hk).mono ?_)),(s_conj (by omega) (by omega) h50.out).up (dl_two (by omega))⟩,?_,?_⟩
          · refine rows_of_owns_new (base:=w5.heap.size + 1) (e:=31) (n:=k) ?_ (by omega) (by omega) rows h11.symm h30.out rfl
            exact (ownsRow_setCell_below (ownsRow_setCell_below (ownsRow_setCell_below (ownsRow_setCell_below (ownsRow_setCell_below h90.out (by simp <;> omega) _) (by simp <;> omega) _) (by simp <;> omega) _) (by simp <;> omega) _) (by simp <;> omega) _)
          · exact (Sub.trans (Sub.trans (Sub.trans (Sub.trans (Sub.trans (newG_set (by simp <;> omega) _) (newG_set (by simp <;> omega) _)) (newG_set (by simp <;> omega) _)) (newG_set (by simp <;> omega) _)) (newG_set (by simp <;> omega) _)) (Sub.trans (newG_none _ _ _ _) (newM_mono (by omega) b _)))
          · exact (Head.set (Head.set (Head.set (Head.set (Head.set h60.out.head (by simp <;> omega) _) (by simp <;> omega) _) (by simp <;> omega) _) (by simp <;> omega) _) (by simp <;> omega) _)
          · exact (g_setCell (g_setCell (g_setCell (g_setCell (g_setCell h60.out.grown (by simp <;> omega) _) (by simp <;> omega) _) (by simp <;> omega) _) (by simp <;> omega) _) (by simp <;> omega) _)
    · skip
      go_wp2_with fail
      refine (next_any b a n c _ 2 (by omega) (by omega) (hI.out.codes hC.out)).mono ?_
      rintro e w5 ⟨⟨p,rfl,hp0,hp1⟩,hH,hG⟩
      have hI5:=Lib.hid (hI.out.call hG hH)
      have hlt5 : w.heap.size < w5.heap.size:=hI5.out.ownR.lt
      clear hH hG
      go_wp2_with fail
      have hR0:=Lib.hid (relC_start (op:=2 + p) (segs:=segs) (D:=DL (levels - 1) + 2) hI5.out)
      refine (next_any b a n c _ 2 (by omega) (by omega) ((hI5.out.alloc (.cells (exprK (2 + p) (.slice none 0 0)) 31)).codes hC.out)).mono ?_
      rintro e w6 ⟨⟨q,rfl,hq0,hq1⟩,hH,hG⟩
      have hR6:=Lib.hid (hR0.out.call hG hH)
      clear hH hG
      obtain ⟨i0,hi,hz0,hz1,hz2⟩:=info_parts info26
      go_wp2_with fail
      go_loopw [11] (fun i wr=>∃ k : Nat,(k : Int)≤2 + q∧i = .int .i64 k∧Hid (RelC w wr b a n c w.heap.size w5.heap.size (2 + p) segs (DL (levels - 1) + 2) k)) (fun i _=>4 - (intOf i).toNat)
      case atStart=>exact ⟨0,by omega,rfl,hR6.out⟩
      case round =>
        obtain ⟨k,hk,rfl,hR⟩:=hrel
        obtain ⟨xa,xc,rows,kids,h1,h2,h3,h4,h5,h6,h7,h8,h9⟩:=hR.out
        have h10:=Lib.hid h1
        have h20:=Lib.hid h2
        have h30:=Lib.hid h3
        have h40:=Lib.hid h4
        have h50:=Lib.hid h5
        have h60:=Lib.hid h6
        have h80:=Lib.hid h8
        have h90:=Lib.hid h9
        have hlr : w5.heap.size < wr.heap.size:=h8.lt
        clear h1 h2 h3 h4 h5 h6 h8 h9
        by_cases hkq : (k : Int) < 2 + q
        · go_wp2_with fail
          refine (ih hl1 _ (h60.out.codes hC.out) (h60.out.glob hg0.out) (h60.out.segs hsv.out)).mono ?_
          rintro e w7 ⟨⟨dk,op,kind,name,va,vn,vc,ka,kn,kc,rfl,hE,hS⟩,hH,hG⟩
          have hG0:=Lib.hid hG
          have hI7:=Lib.hid (h60.out.call hG hH)
          have hE0:=Lib.hid hE
          have hS0:=Lib.hid hS
          have hO7:=Lib.hid (h80.out.kept hG (by simp; omega))
          have hown7:=Lib.hid (owns_kept h90.out hG (by omega))
          have hs7 : wr.heap.size≤w7.heap.size:=hG.size
          have hl7 : w5.heap.size < w7.heap.size:=by omega
          clear hH hG hE hS
          have x4:=hO7.out.cell 4
          have y4:=hO7.out.free 4
          simp [exprK] at x4
          by_cases hop : op = 2 + p
          · have hob : (op == 2 + p) = true:=by simp [hop]
            have hop0:=Lib.hid hop
            clear hop
            go_wp2_with (at_builtin; refine wpList_append_lies _ rfl _ _ _ rfl (w5.heap.size + 1) 31 i0 (.agg #[.int .i64 0,.string ⟨#[]⟩,.string ⟨#[]⟩,.slice none 0 0,.slice none 0 0]) 5 88 Tryz.underlying29 hi hz0 hz1 hz2 rfl (by omega) (.slice xa k xc) k _ rfl (((hown7.out.alloc (.cells #[.int .i64 4,.string ⟨#[]⟩,.string ⟨#[]⟩,.slice none 0 0,.slice (some ⟨w7.heap.size + 1,0,none⟩) 1 1] 31)).alloc (.cells #[.int .i64 op,.string kind,.string name,.slice va vn vc,.slice ka kn kc] 31)).alloc _) ⟨w7.heap.size + 1 + 1,0,none⟩ 1 1 [.int .i64 4,.string ⟨#[]⟩,.string ⟨#[]⟩,.slice none 0 0,.slice (some ⟨w7.heap.size + 1,0,none⟩) 1 1] rfl rfl (World.news_of_block (cs:=#[.int .i64 4,.string ⟨#[]⟩,.string ⟨#[]⟩,.slice none 0 0,.slice (some ⟨w7.heap.size + 1,0,none⟩) 1 1]) (t:=31) (fr:=(0,0)) (Own.new' (by simp))) (by simp [Value.oneCell']) (by omega) (by unfold maxLen; omega) (by omega) (by simp; omega) (w7.heap.size + 1 + 1 + 1) (by simp) ?_; intro gg cap w8 hown8 hgrow8 hat hlt8; have hO8:=own_past (((hown7.out.alloc (.cells #[.int .i64 4,.string ⟨#[]⟩,.string ⟨#[]⟩,.slice none 0 0,.slice (some ⟨w7.heap.size + 1,0,none⟩) 1 1] 31)).alloc (.cells #[.int .i64 op,.string kind,.string name,.slice va vn vc,.slice ka kn kc] 31)).alloc _) (((hO7.out.alloc _).alloc _).alloc _) hgrow8 (show w5.heap.size < w5.heap.size + 1 from Nat.lt_succ_self _); have z4:=hO8.cell 4; have z5:=hO8.free 4; simp [exprK] at z4; clear hO8)
            have hN:=Lib.hid (relC_next (X:=(w7.alloc (.cells #[.int .i64 4,.string ⟨#[]⟩,.string ⟨#[]⟩,.slice none 0 0,.slice (some ⟨w7.heap.size + 1,0,none⟩) 1 1] 31)).alloc (.cells #[.int .i64 op,.string kind,.string name,.slice va vn vc,.slice ka kn kc] 31)) h10.out h20.out h30.out h40.out h50.out ((hI7.out.alloc _).alloc _) h7 ((hO7.out.alloc _).alloc _) h90.out (g_alloc (g_alloc hG0.out _) _) hlr rfl (eat_not (r:=[.int .i64 op,.string kind,.string name,.slice va vn vc,.slice ka kn kc]) (rows_of_own_new (Own.new' (by simp)) (by omega) (by omega) 5 [_] (by simp) (by simp) 1 (by simp) (by decide)) (hE0.out.mono (newM_grown (g_alloc (g_alloc (grown_refl _ _) _) _)))) (s_not hS0.out) (Nat.le_refl _) hgrow8 (by simpa using hat) hown8)
            clear hgrow8 hown8 hat
            go_roundw
            case rel=>exact ⟨k + 1,by omega,by go_num,hN.out⟩
            case measure=>simp [intOf]; omega
          · have hob : (op == 2 + p) = false:=by simp [hop]
            clear hop
            go_wp2_with (at_builtin; refine wpList_append_lies _ rfl _ _ _ rfl (w5.heap.size + 1) 31 i0 (.agg #[.int .i64 0,.string ⟨#[]⟩,.string ⟨#[]⟩,.slice none 0 0,.slice none 0 0]) 5 88 Tryz.underlying29 hi hz0 hz1 hz2 rfl (by omega) (.slice xa k xc) k _ rfl ((hown7.out.alloc (.cells #[.int .i64 op,.string kind,.string name,.slice va vn vc,.slice ka kn kc] 31)).alloc _) ⟨w7.heap.size + 1,0,none⟩ 1 1 [.int .i64 op,.string kind,.string name,.slice va vn vc,.slice ka kn kc] rfl rfl (World.news_of_block (cs:=#[.int .i64 op,.string kind,.string name,.slice va vn vc,.slice ka kn kc]) (t:=31) (fr:=(0,0)) (Own.new' (by simp))) (by simp [Value.oneCell']) (by omega) (by unfold maxLen; omega) (by omega) (by simp; omega) (w7.heap.size + 1 + 1) (by simp) ?_; intro gg cap w8 hown8 hgrow8 hat hlt8; have hO8:=own_past ((hown7.out.alloc (.cells #[.int .i64 op,.string kind,.string name,.slice va vn vc,.slice ka kn kc] 31)).alloc _) ((hO7.out.alloc _).alloc _) hgrow8 (show w5.heap.size < w5.heap.size + 1 from Nat.lt_succ_self _); have z4:=hO8.cell 4; have z5:=hO8.free 4; simp [exprK] at z4; clear hO8)
            have hN:=Lib.hid (relC_next (X:=w7.alloc (.cells #[.int .i64 op,.string kind,.string name,.slice va vn vc,.slice ka kn kc] 31)) h10.out h20.out h30.out h40.out h50.out (hI7.out.alloc _) h7 (hO7.out.alloc _) h90.out (g_alloc hG0.out _) hlr rfl (hE0.out.mono (newM_grown (g_alloc (grown_refl _ _) _))) (hS0.out) (Nat.le_succ _) hgrow8 (by simpa using hat) hown8)
            clear hgrow8 hown8 hat
            go_roundw
            case rel=>exact ⟨k + 1,by omega,by go_num,hN.out⟩
            case measure=>simp [intOf]; omega
        · obtain ⟨c0,c1,c2,c3,c4,f0,f1,f2,f3,f4⟩:=own5 h80.out
          obtain ⟨d0,d1,d2,d3,d4,g0,g1,g2,g3,g4⟩:=own5 h60.out.ownR
          go_wp2
          refine bodyPost_ret (v:=.agg #[.int .i64 (2 + p),.string ⟨#[]⟩,.string ⟨#[]⟩,.slice none 0 0,.slice xa k xc]) (by simp [results,Tryz.results12,go_sem,d0,d1,d2,d3,d4]) rfl ?_
          have h11:=h10.out
          have h21:=h20.out
          have hrw:=h60.out.rw
          refine ⟨⟨.mk (2 + p) ⟨#[]⟩ ⟨#[]⟩ [] kids,2 + p,⟨#[]⟩,⟨#[]⟩,none,0,0,xa,k,xc,rfl,EAt.mk rows (rows_nil _ _) ?_ (by omega) (fun v hv=>by cases hv) (fun i x kd hi hk=>((h40.out i x kd hi hk).mono ?_)),(s_conj (by omega) (by omega) h50.out).up (dl_two (by omega))⟩,?_,?_⟩
          · refine rows_of_owns_new (base:=w5.heap.size + 1) (e:=31) (n:=k) ?_ (by omega) (by omega) rows h11.symm h30.out rfl
            exact (ownsRow_setCell_below (ownsRow_setCell_below (ownsRow_setCell_below (ownsRow_setCell_below (ownsRow_setCell_below h90.out (by simp <;> omega) _) (by simp <;> omega) _) (by simp <;> omega) _) (by simp <;> omega) _) (by simp <;> omega) _)
          · exact (Sub.trans (Sub.trans (Sub.trans (Sub.trans (Sub.trans (newG_set (by simp <;> omega) _) (newG_set (by simp <;> omega) _)) (newG_set (by simp <;> omega) _)) (newG_set (by simp <;> omega) _)) (newG_set (by simp <;> omega) _)) (Sub.trans (newG_none _ _ _ _) (newM_mono (by omega) b _)))
          · exact (Head.set (Head.set (Head.set (Head.set (Head.set h60.out.head (by simp <;> omega) _) (by simp <;> omega) _) (by simp <;> omega) _) (by simp <;> omega) _) (by simp <;> omega) _)
          · exact (g_setCell (g_setCell (g_setCell (g_setCell (g_setCell h60.out.grown (by simp <;> omega) _) (by simp <;> omega) _) (by simp <;> omega) _) (by simp <;> omega) _) (by simp <;> omega) _)
    · skip
      go_wp2_with fail
      refine (test_any b a n c _ (hI.out.codes hC.out) (hI.out.glob hg0.out)).mono ?_
      rintro e w5 ⟨⟨op,kind,name,l,va,vn,vc,rfl,hrow,hLs,hfit⟩,hH,hG⟩
      have hI5:=Lib.hid (hI.out.call hG hH)
      have hrow0:=Lib.hid hrow
      have hLs0:=Lib.hid hLs
      have hfit0:=Lib.hid hfit
      clear hH hG hrow hLs hfit
      obtain ⟨d0,d1,d2,d3,d4,g0,g1,g2,g3,g4⟩:=own5 hI5.out.ownR
      go_wp2
      refine bodyPost_ret (v:=.agg #[.int .i64 op,.string kind,.string name,.slice va vn vc,.slice none 0 0]) (by simp [results,Tryz.results12,go_sem,d0,d1,d2,d3,d4]) rfl ?_
      refine ⟨⟨_,op,kind,name,va,vn,vc,none,0,0,rfl,EAt.mono ?_ (eat_test hrow0.out hLs0.out),s_test hfit0.out⟩,?_,?_⟩
      · exact (Sub.trans (Sub.trans (Sub.trans (Sub.trans (Sub.trans (newM_set (by simp <;> omega) _) (newM_set (by simp <;> omega) _)) (newM_set (by simp <;> omega) _)) (newM_set (by simp <;> omega) _)) (newM_set (by simp <;> omega) _)) (newM_mono (by omega) b _))
      · exact (Head.set (Head.set (Head.set (Head.set (Head.set hI5.out.head (by simp <;> omega) _) (by simp <;> omega) _) (by simp <;> omega) _) (by simp <;> omega) _) (by simp <;> omega) _)
      · exact (g_setCell (g_setCell (g_setCell (g_setCell (g_setCell hI5.out.grown (by simp <;> omega) _) (by simp <;> omega) _) (by simp <;> omega) _) (by simp <;> omega) _) (by simp <;> omega) _)
  · rcases hmc with rfl | rfl | rfl | rfl | rfl | rfl | rfl | rfl
    · skip
      obtain ⟨d0,d1,d2,d3,d4,g0,g1,g2,g3,g4⟩:=own5 hI.out.ownR
      go_wp2
      refine bodyPost_ret (v:=.agg #[.int .i64 1,.string ⟨#[]⟩,.string ⟨#[]⟩,.slice none 0 0,.slice none 0 0]) (by simp [results,Tryz.results12,go_sem,d0,d1,d2,d3,d4]) rfl ?_
      refine ⟨⟨_,1,⟨#[]⟩,⟨#[]⟩,none,0,0,none,0,0,rfl,eat_true _,s_true segs _⟩,?_,?_⟩
      · exact (Head.set (Head.set (Head.set (Head.set (Head.set hI.out.head (by simp <;> omega) _) (by simp <;> omega) _) (by simp <;> omega) _) (by simp <;> omega) _) (by simp <;> omega) _)
      · exact (g_setCell (g_setCell (g_setCell (g_setCell (g_setCell hI.out.grown (by simp <;> omega) _) (by simp <;> omega) _) (by simp <;> omega) _) (by simp <;> omega) _) (by simp <;> omega) _)
    · skip
      go_wp2_with fail
      refine (test_any b a n c _ (hI.out.codes hC.out) (hI.out.glob hg0.out)).mono ?_
      rintro e w5 ⟨⟨op,kind,name,l,va,vn,vc,rfl,hrow,hLs,hfit⟩,hH,hG⟩
      have hI5:=Lib.hid (hI.out.call hG hH)
      have hrow0:=Lib.hid hrow
      have hLs0:=Lib.hid hLs
      have hfit0:=Lib.hid hfit
      clear hH hG hrow hLs hfit
      obtain ⟨d0,d1,d2,d3,d4,g0,g1,g2,g3,g4⟩:=own5 hI5.out.ownR
      go_wp2
      refine bodyPost_ret (v:=.agg #[.int .i64 op,.string kind,.string name,.slice va vn vc,.slice none 0 0]) (by simp [results,Tryz.results12,go_sem,d0,d1,d2,d3,d4]) rfl ?_
      refine ⟨⟨_,op,kind,name,va,vn,vc,none,0,0,rfl,EAt.mono ?_ (eat_test hrow0.out hLs0.out),s_test hfit0.out⟩,?_,?_⟩
      · exact (Sub.trans (Sub.trans (Sub.trans (Sub.trans (Sub.trans (newM_set (by simp <;> omega) _) (newM_set (by simp <;> omega) _)) (newM_set (by simp <;> omega) _)) (newM_set (by simp <;> omega) _)) (newM_set (by simp <;> omega) _)) (newM_mono (by omega) b _))
      · exact (Head.set (Head.set (Head.set (Head.set (Head.set hI5.out.head (by simp <;> omega) _) (by simp <;> omega) _) (by simp <;> omega) _) (by simp <;> omega) _) (by simp <;> omega) _)
      · exact (g_setCell (g_setCell (g_setCell (g_setCell (g_setCell hI5.out.grown (by simp <;> omega) _) (by simp <;> omega) _) (by simp <;> omega) _) (by simp <;> omega) _) (by simp <;> omega) _)
    · skip
      go_wp2_with fail
      refine (test_any b a n c _ (hI.out.codes hC.out) (hI.out.glob hg0.out)).mono ?_
      rintro e w5 ⟨⟨op,kind,name,l,va,vn,vc,rfl,hrow,hLs,hfit⟩,hH,hG⟩
      have hI5:=Lib.hid (hI.out.call hG hH)
      have hrow0:=Lib.hid hrow
      have hLs0:=Lib.hid hLs
      have hfit0:=Lib.hid hfit
      clear hH hG hrow hLs hfit
      obtain ⟨d0,d1,d2,d3,d4,g0,g1,g2,g3,g4⟩:=own5 hI5.out.ownR
      go_wp2
      refine bodyPost_ret (v:=.agg #[.int .i64 op,.string kind,.string name,.slice va vn vc,.slice none 0 0]) (by simp [results,Tryz.results12,go_sem,d0,d1,d2,d3,d4]) rfl ?_
      refine ⟨⟨_,op,kind,name,va,vn,vc,none,0,0,rfl,EAt.mono ?_ (eat_test hrow0.out hLs0.out),s_test hfit0.out⟩,?_,?_⟩
      · exact (Sub.trans (Sub.trans (Sub.trans (Sub.trans (Sub.trans (newM_set (by simp <;> omega) _) (newM_set (by simp <;> omega) _)) (newM_set (by simp <;> omega) _)) (newM_set (by simp <;> omega) _)) (newM_set (by simp <;> omega) _)) (newM_mono (by omega) b _))
      · exact (Head.set (Head.set (Head.set (Head.set (Head.set hI5.out.head (by simp <;> omega) _) (by simp <;> omega) _) (by simp <;> omega) _) (by simp <;> omega) _) (by simp <;> omega) _)
      · exact (g_setCell (g_setCell (g_setCell (g_setCell (g_setCell hI5.out.grown (by simp <;> omega) _) (by simp <;> omega) _) (by simp <;> omega) _) (by simp <;> omega) _) (by simp <;> omega) _)
    · skip
      by_cases hsl : segs = []
      · have hz : segs.length = 0:=by simp [hsl]
        go_wp2_with fail
        refine (test_any b a n c _ (hI.out.codes hC.out) (hI.out.glob hg0.out)).mono ?_
        rintro e w5 ⟨⟨op,kind,name,l,va,vn,vc,rfl,hrow,hLs,hfit⟩,hH,hG⟩
        have hI5:=Lib.hid (hI.out.call hG hH)
        have hrow0:=Lib.hid hrow
        have hLs0:=Lib.hid hLs
        have hfit0:=Lib.hid hfit
        clear hH hG hrow hLs hfit
        obtain ⟨d0,d1,d2,d3,d4,g0,g1,g2,g3,g4⟩:=own5 hI5.out.ownR
        go_wp2
        refine bodyPost_ret (v:=.agg #[.int .i64 op,.string kind,.string name,.slice va vn vc,.slice none 0 0]) (by simp [results,Tryz.results12,go_sem,d0,d1,d2,d3,d4]) rfl ?_
        refine ⟨⟨_,op,kind,name,va,vn,vc,none,0,0,rfl,EAt.mono ?_ (eat_test hrow0.out hLs0.out),s_test hfit0.out⟩,?_,?_⟩
        · exact (Sub.trans (Sub.trans (Sub.trans (Sub.trans (Sub.trans (newM_set (by simp <;> omega) _) (newM_set (by simp <;> omega) _)) (newM_set (by simp <;> omega) _)) (newM_set (by simp <;> omega) _)) (newM_set (by simp <;> omega) _)) (newM_mono (by omega) b _))
        · exact (Head.set (Head.set (Head.set (Head.set (Head.set hI5.out.head (by simp <;> omega) _) (by simp <;> omega) _) (by simp <;> omega) _) (by simp <;> omega) _) (by simp <;> omega) _)
        · exact (g_setCell (g_setCell (g_setCell (g_setCell (g_setCell hI5.out.grown (by simp <;> omega) _) (by simp <;> omega) _) (by simp <;> omega) _) (by simp <;> omega) _) (by simp <;> omega) _)
      have hpos : 0 < segs.length:=by
        rcases Nat.eq_zero_or_pos segs.length with h | h
        · exact absurd (List.eq_nil_of_length_eq_zero h) hsl
        · exact h
      rcases hsegs.out with hs | ⟨blk,off,rfl,hs⟩
      · exact absurd (by simpa using hs) hsl
      go_wp2_with fail
      refine (next_any b a n c _ segs.length (by omega) (by omega) (hI.out.codes hC.out)).mono ?_
      rintro e w5 ⟨⟨m2,rfl,h20,h21⟩,hH,hG⟩
      obtain ⟨q,rfl⟩:=Int.eq_ofNat_of_zero_le h20
      have hq : q < segs.length:=by omega
      have hI5:=Lib.hid (hI.out.call hG hH)
      have cs:=but_sub _ _ _ _ (str_cell (RowsAt.cells_mono (sub_of_grown hI5.out.grown) hs) hq)
      clear hH hG hs
      obtain ⟨d0,d1,d2,d3,d4,g0,g1,g2,g3,g4⟩:=own5 hI5.out.ownR
      go_wp2
      refine bodyPost_ret (v:=.agg #[.int .i64 5,.string ⟨#[]⟩,.string segs[q],.slice none 0 0,.slice none 0 0]) (by simp [results,Tryz.results12,go_sem,d0,d1,d2,d3,d4]) rfl ?_
      refine ⟨⟨_,5,⟨#[]⟩,segs[q],none,0,0,none,0,0,rfl,eat_seg _ _,s_seg hq (hss.out _ (List.getElem_mem hq))⟩,?_,?_⟩
      · exact (Head.set (Head.set (Head.set (Head.set (Head.set hI5.out.head (by simp <;> omega) _) (by simp <;> omega) _) (by simp <;> omega) _) (by simp <;> omega) _) (by simp <;> omega) _)
      · exact (g_setCell (g_setCell (g_setCell (g_setCell (g_setCell hI5.out.grown (by simp <;> omega) _) (by simp <;> omega) _) (by simp <;> omega) _) (by simp <;> omega) _) (by simp <;> omega) _)
    · skip
      obtain ⟨d0,d1,d2,d3,d4,g0,g1,g2,g3,g4⟩:=own5 hI.out.ownR
      go_wp2
      refine bodyPost_ret (v:=.agg #[.int .i64 1,.string ⟨#[]⟩,.string ⟨#[]⟩,.slice none 0 0,.slice none 0 0]) (by simp [results,Tryz.results12,go_sem,d0,d1,d2,d3,d4]) rfl ?_
      refine ⟨⟨_,1,⟨#[]⟩,⟨#[]⟩,none,0,0,none,0,0,rfl,eat_true _,s_true segs _⟩,?_,?_⟩
      · exact (Head.set (Head.set (Head.set (Head.set (Head.set hI.out.head (by simp <;> omega) _) (by simp <;> omega) _) (by simp <;> omega) _) (by simp <;> omega) _) (by simp <;> omega) _)
      · exact (g_setCell (g_setCell (g_setCell (g_setCell (g_setCell hI.out.grown (by simp <;> omega) _) (by simp <;> omega) _) (by simp <;> omega) _) (by simp <;> omega) _) (by simp <;> omega) _)
    · skip
      go_wp2_with fail
      refine (test_any b a n c _ (hI.out.codes hC.out) (hI.out.glob hg0.out)).mono ?_
      rintro e w5 ⟨⟨op,kind,name,l,va,vn,vc,rfl,hrow,hLs,hfit⟩,hH,hG⟩
      have hI5:=Lib.hid (hI.out.call hG hH)
      have hrow0:=Lib.hid hrow
      have hLs0:=Lib.hid hLs
      have hfit0:=Lib.hid hfit
      clear hH hG hrow hLs hfit
      obtain ⟨d0,d1,d2,d3,d4,g0,g1,g2,g3,g4⟩:=own5 hI5.out.ownR
      go_wp2
      refine bodyPost_ret (v:=.agg #[.int .i64 op,.string kind,.string name,.slice va vn vc,.slice none 0 0]) (by simp [results,Tryz.results12,go_sem,d0,d1,d2,d3,d4]) rfl ?_
      refine ⟨⟨_,op,kind,name,va,vn,vc,none,0,0,rfl,EAt.mono ?_ (eat_test hrow0.out hLs0.out),s_test hfit0.out⟩,?_,?_⟩
      · exact (Sub.trans (Sub.trans (Sub.trans (Sub.trans (Sub.trans (newM_set (by simp <;> omega) _) (newM_set (by simp <;> omega) _)) (newM_set (by simp <;> omega) _)) (newM_set (by simp <;> omega) _)) (newM_set (by simp <;> omega) _)) (newM_mono (by omega) b _))
      · exact (Head.set (Head.set (Head.set (Head.set (Head.set hI5.out.head (by simp <;> omega) _) (by simp <;> omega) _) (by simp <;> omega) _) (by simp <;> omega) _) (by simp <;> omega) _)
      · exact (g_setCell (g_setCell (g_setCell (g_setCell (g_setCell hI5.out.grown (by simp <;> omega) _) (by simp <;> omega) _) (by simp <;> omega) _) (by simp <;> omega) _) (by simp <;> omega) _)
    · skip
      go_wp2_with fail
      refine (test_any b a n c _ (hI.out.codes hC.out) (hI.out.glob hg0.out)).mono ?_
      rintro e w5 ⟨⟨op,kind,name,l,va,vn,vc,rfl,hrow,hLs,hfit⟩,hH,hG⟩
      have hI5:=Lib.hid (hI.out.call hG hH)
      have hrow0:=Lib.hid hrow
      have hLs0:=Lib.hid hLs
      have hfit0:=Lib.hid hfit
      clear hH hG hrow hLs hfit
      obtain ⟨d0,d1,d2,d3,d4,g0,g1,g2,g3,g4⟩:=own5 hI5.out.ownR
      go_wp2
      refine bodyPost_ret (v:=.agg #[.int .i64 op,.string kind,.string name,.slice va vn vc,.slice none 0 0]) (by simp [results,Tryz.results12,go_sem,d0,d1,d2,d3,d4]) rfl ?_
      refine ⟨⟨_,op,kind,name,va,vn,vc,none,0,0,rfl,EAt.mono ?_ (eat_test hrow0.out hLs0.out),s_test hfit0.out⟩,?_,?_⟩
      · exact (Sub.trans (Sub.trans (Sub.trans (Sub.trans (Sub.trans (newM_set (by simp <;> omega) _) (newM_set (by simp <;> omega) _)) (newM_set (by simp <;> omega) _)) (newM_set (by simp <;> omega) _)) (newM_set (by simp <;> omega) _)) (newM_mono (by omega) b _))
      · exact (Head.set (Head.set (Head.set (Head.set (Head.set hI5.out.head (by simp <;> omega) _) (by simp <;> omega) _) (by simp <;> omega) _) (by simp <;> omega) _) (by simp <;> omega) _)
      · exact (g_setCell (g_setCell (g_setCell (g_setCell (g_setCell hI5.out.grown (by simp <;> omega) _) (by simp <;> omega) _) (by simp <;> omega) _) (by simp <;> omega) _) (by simp <;> omega) _)
    · skip
      by_cases hsl : segs = []
      · have hz : segs.length = 0:=by simp [hsl]
        go_wp2_with fail
        refine (test_any b a n c _ (hI.out.codes hC.out) (hI.out.glob hg0.out)).mono ?_
        rintro e w5 ⟨⟨op,kind,name,l,va,vn,vc,rfl,hrow,hLs,hfit⟩,hH,hG⟩
        have hI5:=Lib.hid (hI.out.call hG hH)
        have hrow0:=Lib.hid hrow
        have hLs0:=Lib.hid hLs
        have hfit0:=Lib.hid hfit
        clear hH hG hrow hLs hfit
        obtain ⟨d0,d1,d2,d3,d4,g0,g1,g2,g3,g4⟩:=own5 hI5.out.ownR
        go_wp2
        refine bodyPost_ret (v:=.agg #[.int .i64 op,.string kind,.string name,.slice va vn vc,.slice none 0 0]) (by simp [results,Tryz.results12,go_sem,d0,d1,d2,d3,d4]) rfl ?_
        refine ⟨⟨_,op,kind,name,va,vn,vc,none,0,0,rfl,EAt.mono ?_ (eat_test hrow0.out hLs0.out),s_test hfit0.out⟩,?_,?_⟩
        · exact (Sub.trans (Sub.trans (Sub.trans (Sub.trans (Sub.trans (newM_set (by simp <;> omega) _) (newM_set (by simp <;> omega) _)) (newM_set (by simp <;> omega) _)) (newM_set (by simp <;> omega) _)) (newM_set (by simp <;> omega) _)) (newM_mono (by omega) b _))
        · exact (Head.set (Head.set (Head.set (Head.set (Head.set hI5.out.head (by simp <;> omega) _) (by simp <;> omega) _) (by simp <;> omega) _) (by simp <;> omega) _) (by simp <;> omega) _)
        · exact (g_setCell (g_setCell (g_setCell (g_setCell (g_setCell hI5.out.grown (by simp <;> omega) _) (by simp <;> omega) _) (by simp <;> omega) _) (by simp <;> omega) _) (by simp <;> omega) _)
      have hpos : 0 < segs.length:=by
        rcases Nat.eq_zero_or_pos segs.length with h | h
        · exact absurd (List.eq_nil_of_length_eq_zero h) hsl
        · exact h
      rcases hsegs.out with hs | ⟨blk,off,rfl,hs⟩
      · exact absurd (by simpa using hs) hsl
      go_wp2_with fail
      refine (next_any b a n c _ segs.length (by omega) (by omega) (hI.out.codes hC.out)).mono ?_
      rintro e w5 ⟨⟨m2,rfl,h20,h21⟩,hH,hG⟩
      obtain ⟨q,rfl⟩:=Int.eq_ofNat_of_zero_le h20
      have hq : q < segs.length:=by omega
      have hI5:=Lib.hid (hI.out.call hG hH)
      have cs:=but_sub _ _ _ _ (str_cell (RowsAt.cells_mono (sub_of_grown hI5.out.grown) hs) hq)
      clear hH hG hs
      obtain ⟨d0,d1,d2,d3,d4,g0,g1,g2,g3,g4⟩:=own5 hI5.out.ownR
      go_wp2
      refine bodyPost_ret (v:=.agg #[.int .i64 5,.string ⟨#[]⟩,.string segs[q],.slice none 0 0,.slice none 0 0]) (by simp [results,Tryz.results12,go_sem,d0,d1,d2,d3,d4]) rfl ?_
      refine ⟨⟨_,5,⟨#[]⟩,segs[q],none,0,0,none,0,0,rfl,eat_seg _ _,s_seg hq (hss.out _ (List.getElem_mem hq))⟩,?_,?_⟩
      · exact (Head.set (Head.set (Head.set (Head.set (Head.set hI5.out.head (by simp <;> omega) _) (by simp <;> omega) _) (by simp <;> omega) _) (by simp <;> omega) _) (by simp <;> omega) _)
      · exact (g_setCell (g_setCell (g_setCell (g_setCell (g_setCell hI5.out.grown (by simp <;> omega) _) (by simp <;> omega) _) (by simp <;> omega) _) (by simp <;> omega) _) (by simp <;> omega) _)
theorem dexpr_any (b : Nat) (a : Option Addr) (n c : Nat) (sv : Value) (segs : List ByteArray) (hsn : segs.length≤200∧∀ s∈segs,s.size≤1048576) (K : Nat) : ∀ (levels : Int) (w : World),levels≤K→-1000≤levels→levels≤1000→Codes b a n c w→Glob (but b w)→RowsAt (but b w) 1 sv (segs.map strRow) →
    Calls Tryz.prog 12 #[.pointer (some ⟨b,0,none⟩),sv,.int .i64 levels] w (Drawn b a n c w fun e w'=>ExprIs w.heap.size b segs (DL levels) e w'):=by
  induction K with
  | zero=>intro levels w h1 h2 h3 h4 h5 h6; exact dexpr_step b a n c sv segs levels h2 h3 hsn (fun h=>by omega) w h4 h5 h6
  | succ K ih=>intro levels w h1 h2 h3 h4 h5 h6; exact dexpr_step b a n c sv segs levels h2 h3 hsn (fun h w k1 k2 k3=>ih (levels - 1) w (by omega) (by omega) (by omega) k1 k2 k3) w h4 h5 h6
end Go.Proofs.YtfffpflflggonaaGreatDoor.draw
