/- The first error of a condition: the reference's shape. -/
import Derived.Test.YtfffpflflggonaaGreatDoorKS28
import Derived.Test.YtfffpflflggonaaGreatDoorKRfO
namespace Go.Proofs.YtfffpflflggonaaGreatDoor.src
open Go.RowKit lex value text schema draw clause
mutual
def NmD : ED→Prop
  | .mk _ kind name _ kids=>kind.size≤maxLen∧name.size≤maxLen∧NmDL kids
def NmDL : List ED→Prop
  | []=>True
  | k :: r=>NmD k∧NmDL r
end
theorem nmD_mem : ∀ {l : List ED} {k : ED},NmDL l→k∈l→NmD k
  | [],k,_,hk=>by cases hk
  | a :: r,k,h,hk=>by
    rw [NmDL] at h
    rcases List.mem_cons.1 hk with rfl | hk
    · exact h.1
    · exact nmD_mem h.2 hk
set_option maxRecDepth 100000 in
set_option maxHeartbeats 4000000 in
theorem walk_step (m : Mem) (op : Int) (kind name : ByteArray) (vals : List VD) (kids : List ED) (vs ks : Value) (rows : List (List Value)) (hv : RowsAt m 4 vs (vals.map VD.row)) (hk : RowsAt m 5 ks rows) (hl : rows.length = kids.length) (hL : ∀ v∈vals,LAt m v)
    (hE : ∀ (i : Nat) (r : List Value) (k : ED),rows[i]? = some r→kids[i]? = some k→EAt m k r)
    (ih : ∀ (j : Nat) (r : List Value) (k : ED),rows[j]? = some r→kids[j]? = some k→WalkOk 53 1 m k r) (hkz : kind.size≤maxLen) (hnz : name.size≤maxLen) :
    WalkOk 53 1 m (.mk op kind name vals kids) [.int .i64 op,.string kind,.string name,vs,ks]:=by
  intro dep b g w hd hs hO hT
  rw [show ((dep + 1 : Nat) : Int) = (dep : Int) + 1 from rfl]
  obtain ⟨va,vn,vc,rfl⟩ : ∃ a n c,vs = .slice a n c:=by obtain ⟨a,c,h,-⟩:=hv; exact ⟨_,_,_,h⟩
  obtain ⟨ka,kn,kc,rfl⟩ : ∃ a n c,ks = .slice a n c:=by obtain ⟨a,c,h,-⟩:=hk; exact ⟨_,_,_,h⟩
  have hgl:=hO.lt
  have hQ:=Lib.hid (show walkS (pe (.mk op kind name vals kids)) dep b = if 60≤b then (5,b) else if 10≤dep then (18,b + 1) else if partS op kind.data.toList name.data.toList (vals.map vv) (kids.map opE) ≠ 0 then (partS op kind.data.toList name.data.toList (vals.map vv) (kids.map opE),b + 1) else walkL (peL kids) (dep + 1) (b + 1) by rw [pe,walkS,ops_pe])
  generalize walkS (pe (.mk op kind name vals kids)) dep b = R at hQ ⊢
  have hO1:=hO.alloc (.cells #[.int .i64 op,.string kind,.string name,.slice va vn vc,.slice ka kn kc] 31)
  have hX1:=Own.new w #[.int .i64 op,.string kind,.string name,.slice va vn vc,.slice ka kn kc] 31
  have hg1:=World.grownBy_alloc w (.cells #[.int .i64 op,.string kind,.string name,.slice va vn vc,.slice ka kn kc] 31) (some g)
  go_enter Tryz.func53,Tryz.ntmps53
  go_upto_region 1 with fail
  generalize w.alloc (.cells #[.int .i64 op,.string kind,.string name,.slice va vn vc,.slice ka kn kc] 31) = w1 at hO1 hX1 hg1 ⊢
  obtain ⟨eb,heb⟩ : ∃ z : Nat,Hid (z = w.heap.size):=⟨_,Lib.hid rfl⟩
  rw [← heb.out] at hX1 ⊢
  have hge : g < eb:=by have:=heb.out; omega
  have hT1:=Lib.hid (hT.on hg1)
  replace hs:=Lib.hid hs
  replace hv:=Lib.hid hv
  replace hk:=Lib.hid hk
  replace hL:=Lib.hid hL
  replace hE:=Lib.hid hE
  replace ih:=Lib.hid ih
  clear hT hO
  have c0:=hO1.cell 0
  have f0:=hO1.free 0
  have hl1:=hO1.lt
  simp only [List.getElem?_toArray,List.getElem?_cons_zero] at c0
  by_cases h60 : 60≤b
  · have h60i : (60 : Int)≤(b : Int):=by omega
    have hR:=Lib.hid (show R = (5,b) by rw [hQ.out,if_pos h60])
    replace hg1:=Lib.hid hg1
    replace hO1:=Lib.hid hO1
    clear h60
    go_wp2
    go_ret
    exact ⟨by rw [hR.out]; rfl,hg1.out,by rw [hR.out]; exact hO1.out⟩
  have h60i : ¬ (60 : Int)≤(b : Int):=by omega
  have hw : IntKind.i64.wrap ((b : Int) + 1) = ((b : Int) + 1):=by rw [IntKind.wrap_i64]; omega
  have hO2:=Lib.hid (show Own (w1.setCell ⟨g,0,none⟩ (.int .i64 ((b : Int) + 1))) g #[.int .i64 ((b : Int) + 1)] 3 from hO1.set 0 _)
  have hX2:=Lib.hid (hX1.setOther (p:=⟨g,0,none⟩) (by simp; omega) (.int .i64 ((b : Int) + 1)))
  have hg2:=Lib.hid (g_call hg1 (grown_setCell w1 g 0 (.int .i64 ((b : Int) + 1))))
  have hT2:=Lib.hid (hT1.out.on (grown_setCell w1 g 0 (.int .i64 ((b : Int) + 1))))
  go_upto_region 4 with fail
  generalize w1.setCell ⟨g,0,none⟩ (.int .i64 ((b : Int) + 1)) = w2 at hO2 hX2 hg2 hT2 ⊢
  clear hO1 hX1 hg1 hT1 c0 f0 hl1
  replace hO2:=Lib.hid (show Own w2 g #[.int .i64 ((b + 1 : Nat) : Int)] 3 from hO2.out)
  by_cases h10 : 10≤dep
  · have h10i : (10 : Int) < (dep : Int) + 1:=by omega
    have hR:=Lib.hid (show R = (18,b + 1) by rw [hQ.out,if_neg h60,if_pos h10])
    clear h10 hQ
    go_wp2
    go_ret
    exact ⟨by rw [hR.out]; rfl,hg2.out,by rw [hR.out]; exact hO2.out⟩
  have h10i : ¬ (10 : Int) < (dep : Int) + 1:=by omega
  obtain ⟨x0,x1,x2,x3,x4,-⟩:=own5z hX2.out
  go_wp2_with fail
  refine (rpart_any op kind name vals kids va ka vn vc kn kc rows m hv.out hk.out hl hL.out hE.out hkz hnz w2 (but_other hg2.out hs.out) hT2.out.now.1 hT2.out.now.2).mono ?_
  rintro e w3 ⟨rfl,hb⟩
  have hO3:=Lib.hid (hO2.out.below hb hO2.out.lt)
  have hX3:=Lib.hid (hX2.out.below hb hX2.out.lt)
  have hg3:=Lib.hid (g_below hg2.out hb)
  have hT3:=Lib.hid (hT2.out.on (grown_of_below hb (some g)))
  clear hb hO2 hX2 hg2 hT2 x0 x1 x2 x3 x4 h10i
  obtain ⟨X,hX⟩ : ∃ X : Int,Hid (X = if 10≤dep then 18 else partS op kind.data.toList name.data.toList (vals.map vv) (kids.map opE)):=⟨_,Lib.hid rfl⟩
  rw [show partS op kind.data.toList name.data.toList (vals.map vv) (kids.map opE) = X by rw [hX.out,if_neg h10]]
  by_cases hX0 : X = 0
  case neg =>
    have hR:=Lib.hid (show R = (X,b + 1) by
      rw [hQ.out,if_neg h60]
      have h1:=hX.out
      by_cases h10 : 10≤dep
      · rw [if_pos h10] at h1 ⊢; rw [h1]
      · rw [if_neg h10] at h1 ⊢; rw [← h1,if_pos hX0])
    have hXb : (X != 0) = true:=by simpa using hX0
    clear hX0
    go_wp2
    go_ret
    exact ⟨by rw [hR.out]; rfl,hg3.out,by rw [hR.out]; exact hO3.out⟩
  have hdep : dep < 10:=by
    rcases Nat.lt_or_ge dep 10 with h | h
    · exact h
    · have h1:=hX.out; rw [if_pos h] at h1; omega
  have hR:=Lib.hid (show walkL (peL (kids.drop 0)) (dep + 1) (b + 1) = R by
    have h1:=hX.out
    rw [if_neg (by omega)] at h1
    rw [hQ.out,if_neg h60,if_neg (by omega),if_neg (fun h=>h (by rw [← h1]; exact hX0))]
    rfl)
  subst hX0
  have hwd : IntKind.i64.wrap ((dep : Int) + 1 + 1) = (dep : Int) + 1 + 1:=by rw [IntKind.wrap_i64]; omega
  clear hX hQ
  obtain ⟨x0,x1,x2,x3,x4,-⟩:=own5z hX3.out
  have hkn:=(len_of hk.out).1
  rw [hl] at hkn
  subst hkn
  have hkm:=(len_of hk.out).2
  replace hl:=Lib.hid hl
  have hsm : eb < w3.heap.size:=hX3.out.lt
  go_wp2_with fail
  go_loopw [8] (fun i wr=>∃ k bk : Nat,k≤kids.length∧i = .int .i64 k∧Hid (Own wr eb #[.int .i64 op,.string kind,.string name,.slice va vn vc,.slice ka kids.length kc] 31)∧Hid (w.grownBy wr (some g))∧Hid (Own wr g #[.int .i64 bk] 3)∧Hid (TabsBut g wr)∧Hid (walkL (peL (kids.drop k)) (dep + 1) bk = R)) (fun i _=>kids.length - (intOf i).toNat)
  case atStart=>exact ⟨0,b + 1,Nat.zero_le _,rfl,hX3,hg3,hO3,hT3,hR⟩
  case round =>
    clear x0 x1 x2 x3 x4 hg3 hO3 hT3 hR hX3
    obtain ⟨k,bk,hk1,rfl,hXr,hg,hO,hT,hR⟩:=hrel
    obtain ⟨x0,x1,x2,x3,x4,-⟩:=own5z hXr.out
    by_cases hlt : k < kids.length
    case neg =>
      have hR2:=Lib.hid (walk_end hlt hR.out)
      have n1 : ¬ (k : Int) < (kids.length : Int):=by omega
      go_wp2
      go_ret
      exact ⟨by rw [hR2.out]; rfl,hg.out,by rw [hR2.out]; exact hO.out⟩
    obtain ⟨blk,off,op1,kind1,name1,va1,vn1,vc1,ka1,kn1,kc1,rfl,c0,c1,c2,c3,c4,hr⟩:=kid_at (hk.out.mono (but_other hg.out hs.out)) hl.out (fun j r k h1 h2=>hE.out j r k h1 h2) hlt
    have n0 : (0 : Int)≤(k : Int):=by omega
    have n1 : (k : Int) < (kids.length : Int):=by omega
    have hstep:=Lib.hid (walk_kid hlt hR.out)
    have hcall:=Lib.hid (ih.out k _ kids[k] hr (List.getElem?_eq_getElem hlt))
    generalize kids[k] = kd at hstep hcall
    have hbl : blk < wr.heap.size:=World.block_lt_of_cell? wr _ c0
    have hsx:=Lib.hid (sub_but_grown hs.out hg.out)
    have hcx:=hcall.out (dep + 1) bk g _ (by omega) hsx.out hO.out hT.out
    rw [show ((dep + 1 + 1 : Nat) : Int) = (dep : Int) + 1 + 1 from rfl] at hcx
    replace hcx:=Lib.hid hcx
    go_wp2_with fail
    refine hcx.out.mono ?_
    rintro e w5 ⟨rfl,hg5,hO5⟩
    have hg6:=Lib.hid (g_call hg.out hg5)
    have hT6:=Lib.hid (hT.out.on hg5)
    have hX6:=Lib.hid (hXr.out.kept hg5 (by simp; omega))
    replace hO5:=Lib.hid hO5
    clear hg5 c0 c1 c2 c3 c4 hr hsx hcall hcx x0 x1 x2 x3 x4 hXr hg hO hT
    generalize walkS (pe kd) (dep + 1) bk = S at hstep hO5 ⊢
    obtain ⟨s1,s2⟩:=S
    simp only at hstep hO5 ⊢
    by_cases hS : s1 = 0
    case pos =>
      have hR6:=Lib.hid (hstep.out.1 hS)
      subst hS
      clear hstep
      go_wp2
      go_roundw
      case rel=>exact ⟨k + 1,s2,by omega,by go_num,hX6,hg6,hO5,hT6,hR6⟩
      case measure=>simp [intOf]; omega
    case neg =>
      have hR6:=Lib.hid (hstep.out.2 hS)
      have hSb : (s1 != 0) = true:=by simpa using hS
      clear hstep hS
      go_wp2
      go_ret
      exact ⟨by rw [← hR6.out]; rfl,hg6.out,by rw [← hR6.out]; exact hO5.out⟩
theorem walk_any (m : Mem) (d : ED) (r : List Value) (h : EAt m d r) : NmD d→WalkOk 53 1 m d r:=by
  induction h with
  | mk rows hv hk hl hL hE ih =>
    intro hN
    rw [NmD] at hN
    exact walk_step m _ _ _ _ _ _ _ rows hv hk hl hL hE (fun j r k h1 h2=>ih j r k h1 h2 (nmD_mem hN.2.2 (List.mem_of_getElem? h2))) hN.1 hN.2.1
set_option maxRecDepth 100000 in
set_option maxHeartbeats 4000000 in
theorem rshape_any (m : Mem) (d : ED) (r : List Value) (h : EAt m d r) (hN : NmD d) (w : World) (hs : Sub m w.cell?) (hT : Tabs w) (hsp : SpaceTab w) :
    Calls Tryz.prog 26 #[.agg r.toArray] w fun e w'=>e = .returned (.int .i64 (formS (pe d)))∧Below w.heap.size w w':=by
  obtain ⟨op,kind,name,va,vn,vc,ka,kn,kc,rfl⟩:=eat_five h
  have hB1 : Below w.heap.size w (w.alloc (.cells #[.int .i64 op,.string kind,.string name,.slice va vn vc,.slice ka kn kc] 31)):=(Below.refl _ _).alloc (Nat.le_refl _) _
  have hX1:=Own.new w #[.int .i64 op,.string kind,.string name,.slice va vn vc,.slice ka kn kc] 31
  have hT1:=Lib.hid (hT.below hB1)
  have hsp1:=Lib.hid (show SpaceTab _ from var_below hB1 hsp)
  have hs1:=Lib.hid (hs.trans (sub_of_below hB1))
  replace hB1:=Lib.hid hB1
  have hgo:=Lib.hid (walk_any m d _ h hN)
  go_enter Tryz.func26,Tryz.ntmps26
  go_upto_region 1 with fail
  generalize w.alloc (.cells #[.int .i64 op,.string kind,.string name,.slice va vn vc,.slice ka kn kc] 31) = w1 at hB1 hX1 hT1 hsp1 hs1 ⊢
  obtain ⟨eb,heb⟩ : ∃ z : Nat,Hid (z = w.heap.size):=⟨_,Lib.hid rfl⟩
  rw [← heb.out] at hX1 ⊢
  have hO2:=Lib.hid (Own.new w1 #[.int .i64 0] 3)
  have hX2:=Lib.hid (hX1.alloc (.cells #[.int .i64 0] 3))
  have hT2:=Lib.hid (TabsBut.new hT1.out hsp1.out (.cells #[.int .i64 0] 3))
  have hs2 : Sub m (but w1.heap.size (w1.alloc (.cells #[.int .i64 0] 3))):=fun p v h=>by
    have h1:=hs1.out _ _ h
    have hl:=World.block_lt_of_cell? w1 p h1
    unfold but
    rw [if_neg (by omega)]
    exact (World.cell?_of_block (Below.heap_alloc w1 _ _ hl)).trans h1
  replace hs2:=Lib.hid hs2
  have hg2:=Lib.hid (World.grownBy_alloc w1 (.cells #[.int .i64 0] 3) none)
  go_upto_region 2 with fail
  generalize w1.alloc (.cells #[.int .i64 0] 3) = w2 at hO2 hX2 hT2 hs2 hg2 ⊢
  obtain ⟨g,hg⟩ : ∃ z : Nat,Hid (z = w1.heap.size):=⟨_,Lib.hid rfl⟩
  rw [← hg.out] at hO2 hT2 hs2 ⊢
  obtain ⟨x0,x1,x2,x3,x4,-⟩:=own5z hX2.out
  go_wp2_with fail
  refine (show Calls Tryz.prog 53 #[_,.int .i64 1,_] _ _ from hgo.out 0 0 g w2 (by decide) hs2.out hO2.out hT2.out).mono ?_
  rintro e w3 ⟨rfl,hg3,-⟩
  have hF:=Lib.hid (show Below w.heap.size w w3 from (hB1.out.grown hg2.out hB1.out.size (fun k e=>by cases e)).grown hg3 (by have:=hg2.out.size; have:=hB1.out.size; omega) (fun k e=>by cases e; have:=hg.out; have:=hB1.out.size; omega))
  clear hg3 x0 x1 x2 x3 x4
  go_wp2
  go_ret
  exact ⟨rfl,hF.out⟩
end Go.Proofs.YtfffpflflggonaaGreatDoor.src
