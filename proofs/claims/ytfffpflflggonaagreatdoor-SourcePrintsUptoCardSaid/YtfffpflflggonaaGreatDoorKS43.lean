/- Printing a condition: the program's expr. The text of a condition: PrintExpr of both sides. The text of a well-formed condition is not long. No program in sight. Listed tables of texts and of lists of texts: what their reading says of memory. Over any program. The drawing package's Mod. -/
import Derived.Test.YtfffpflflggonaaGreatDoorKS42
import Derived.BigQuiet
import Derived.Test.YtfffpflflggonaaGreatDoorKPrC
import Derived.Test.YtfffpflflggonaaGreatDoorKS4
import Derived.Test.YtfffpflflggonaaGreatDoorKS0
import Derived.ProofKit
import Derived.OpenShut
import Derived.LaidMore
import Derived.Test.YtfffpflflggonaaGreatDoorKS15
namespace Go.Proofs.YtfffpflflggonaaGreatDoor.src
open Go.RowKit lex value text schema draw clause
def TestsAt (M : Mem) : Prop:=∀ j,j < 10→∃ s : ByteArray,M ⟨0,j,none⟩ = some (.string s)∧s.data.toList = tests10.getD j []
theorem eat_op {m : Mem} {d : ED} {op : Int} {r : List Value} (h : EAt m d (.int .i64 op :: r)) : (pe d).op = op:=by
  generalize hq : (Value.int .i64 op :: r) = q at h
  cases h with
  | mk rows hv hk hl hL hE =>
    injection hq with h1 h2
    injection h1 with h1 h3
    rw [pe,h3]
    rfl
theorem inO_2 (op : Int) (t : List UInt8) : inO op [3] t = parB 2 op t:=by
  unfold inO parB bindN
  by_cases h3 : op = 3
  · subst h3; rfl
  · rw [if_neg (by simpa using h3),if_neg h3,if_neg]
    split
    · omega
    · split <;> omega
theorem inO_3 (op : Int) (t : List UInt8) : inO op [3,2] t = parB 3 op t:=by
  unfold inO parB bindN
  by_cases h3 : op = 3
  · subst h3; rfl
  by_cases h2 : op = 2
  · subst h2; rfl
  rw [if_neg (by simp [h3,h2]),if_neg h3,if_neg h2,if_neg]
  split <;> omega
theorem parB_1 (op : Int) (t : List UInt8) : parB 1 op t = t:=by
  unfold parB bindN
  rw [if_neg]
  split
  · omega
  · split
    · omega
    · split <;> omega
theorem form_two {op : Int} {kind name : List UInt8} {v k : Nat} (h : formB op kind name v k = true) (h2 : op = 2∨op = 3) : 2≤k:=by
  unfold formB at h
  rw [if_pos h2] at h
  simp only [Bool.and_eq_true,decide_eq_true_eq] at h
  exact h.1
theorem kid_len (o : Nat) (sep : List UInt8) {kids : List ED} {k : Nat} (hlt : k < kids.length) : (printE (pe kids[k])).length≤(printL o sep (peL kids)).length:=by
  have hkF : k < (peL kids).length:=by rw [peL_len]; exact hlt
  have h1:=printL_next o sep hkF
  have h2:=printL_few o sep (F:=peL kids) (k:=k + 1) (by omega)
  rw [peL_at hlt hkF] at h1
  rw [h1,List.length_append,List.length_append] at h2
  have:=parB_len o (pe kids[k]).op (printE (pe kids[k]))
  omega
theorem ops_len (kids : List ED) : (PE.ops (peL kids)).length = kids.length:=by unfold PE.ops; rw [List.length_map,peL_len]
set_option maxRecDepth 100000 in
set_option maxHeartbeats 8000000 in
theorem prog_step (m : Mem) (ht : TestsAt m) (op : Int) (kind name : ByteArray) (vals : List VD) (kids : List ED) (vs ks : Value) (rows : List (List Value)) (hv : RowsAt m 4 vs (vals.map VD.row)) (hk : RowsAt m 5 ks rows) (hl : rows.length = kids.length) (hL : ∀ v∈vals,LAt m v)
    (hE : ∀ (i : Nat) (r : List Value) (k : ED),rows[i]? = some r→kids[i]? = some k→EAt m k r)
    (ih : ∀ (j : Nat) (r : List Value) (k : ED),rows[j]? = some r→kids[j]? = some k→ExprOk m k r) :
    ExprOk m (.mk op kind name vals kids) [.int .i64 op,.string kind,.string name,vs,ks]:=by
  intro w hs hT hsp hok hlen
  obtain ⟨va,vn,vc,rfl⟩ : ∃ a n c,vs = .slice a n c:=by obtain ⟨a,c,e,-⟩:=hv; exact ⟨a,_,c,e⟩
  obtain ⟨ka,kn,kc,rfl⟩ : ∃ a n c,ks = .slice a n c:=by obtain ⟨a,c,e,-⟩:=hk; exact ⟨a,_,c,e⟩
  have hkn:=(len_of hk).1
  rw [hl] at hkn
  subst hkn
  have hkm:=(len_of hk).2
  rw [pe,OkE] at hok
  obtain ⟨hpart,hokl⟩:=hok
  have hP:=Lib.hid (part_ok hpart)
  obtain ⟨T,hTx⟩ : ∃ T,Hid (T = printE (pe (.mk op kind name vals kids))):=⟨_,Lib.hid rfl⟩
  rw [← hTx.out] at hlen ⊢
  rw [pe] at hTx
  have hB1 : Below w.heap.size w (w.alloc (.cells #[.int .i64 op,.string kind,.string name,.slice va vn vc,.slice ka kids.length kc] 31)):=(Below.refl _ _).alloc (Nat.le_refl _) _
  have hX1:=Own.new w #[.int .i64 op,.string kind,.string name,.slice va vn vc,.slice ka kids.length kc] 31
  have hPw:=Lib.hid (show PW w.heap.size m #[.int .i64 op,.string kind,.string name,.slice va vn vc,.slice ka kids.length kc] w (w.alloc (.cells #[.int .i64 op,.string kind,.string name,.slice va vn vc,.slice ka kids.length kc] 31)) from ⟨hB1,hX1,hs.trans (sub_of_below hB1),hT.below hB1,var_below hB1 hsp⟩)
  replace hlen:=Lib.hid hlen
  replace hokl:=Lib.hid hokl
  have hlr:=hl
  replace hl:=Lib.hid hl
  clear hB1 hX1 hs hT hsp hpart
  replace hv:=Lib.hid hv
  replace hk:=Lib.hid hk
  replace hL:=Lib.hid hL
  replace hE:=Lib.hid hE
  replace ih:=Lib.hid ih
  replace ht:=Lib.hid ht
  clear hlr
  go_enter Tryz.func33,Tryz.ntmps33
  go_upto_region 1 with fail
  generalize w.alloc (.cells #[.int .i64 op,.string kind,.string name,.slice va vn vc,.slice ka kids.length kc] 31) = w1 at hPw ⊢
  obtain ⟨eb,heb⟩ : ∃ z : Nat,Hid (z = w.heap.size):=⟨_,Lib.hid rfl⟩
  rw [← heb.out] at hPw ⊢
  obtain ⟨x0,x1,x2,x3,x4,-⟩:=own5z hPw.out.own
  have hebl:=hPw.out.own.lt
  by_cases h1 : op = 1
  · subst h1
    have hQ:=Lib.hid (show (⟨T.toArray⟩ : ByteArray) = ⟨#[116,114,117,101]⟩ from to_str (by rw [hTx.out,printE,if_pos rfl]; rfl))
    go_wp2
    go_ret
    exact ⟨by rw [hQ.out]; rfl,hPw.out.low⟩
  have e1 : (op == 1) = false:=by simpa using h1
  by_cases h2 : op = 2
  · subst h2
    have hQ0:=show T = printL 2 [32,97,110,100,32] (peL kids) by rw [hTx.out,printE]; simp
    have hgo:=Lib.hid (kidsA_any m kids rows ka kids.length kc hk.out hl.out hE.out (fun k h op1 kind1 name1 va1 ka1 vn1 vc1 kn1 kc1 hr u hsu hTu hspu=>by
        have hop:=eat_op (hE.out k _ kids[k] hr (List.getElem?_eq_getElem h))
        have:=lit_any m kids[k] op1 kind1 name1 va1 ka1 vn1 vc1 kn1 kc1 (ih.out k _ kids[k] hr (List.getElem?_eq_getElem h)) u hsu hTu hspu (okl_at h hokl.out) (Nat.le_trans (kid_len 2 [32,97,110,100,32] h) (by rw [← hQ0]; exact hlen.out))
        rw [inO_2,← hop] at this
        rw [← hop]
        exact this) (by have:=form_two hP.out.form (Or.inl rfl); rw [ops_len] at this; exact this) (by have:=hP.out.few; rw [ops_len] at this; exact this) (by rw [← hQ0]; exact hlen.out) w1 hPw.out.sub hPw.out.tab hPw.out.spc)
    rw [← hQ0] at hgo
    clear hQ0
    go_wp2_with fail
    refine hgo.out.mono ?_
    rintro e w2 ⟨rfl,hb⟩
    have hP2:=Lib.hid (hPw.out.below hb)
    clear hb x0 x1 x2 x3 x4
    go_wp2
    go_ret
    exact ⟨rfl,hP2.out.low⟩
  have e2 : (op == 2) = false:=by simpa using h2
  by_cases h3 : op = 3
  · subst h3
    have hQ0:=show T = printL 1 [32,111,114,32] (peL kids) by rw [hTx.out,printE]; simp
    have hgo:=Lib.hid (kidsO_any m kids rows ka kids.length kc hk.out hl.out hE.out (fun k h op1 kind1 name1 va1 ka1 vn1 vc1 kn1 kc1 hr u hsu hTu hspu=>by
        have:=ih.out k _ kids[k] hr (List.getElem?_eq_getElem h) u hsu hTu hspu (okl_at h hokl.out) (Nat.le_trans (kid_len 1 [32,111,114,32] h) (by rw [← hQ0]; exact hlen.out))
        rw [parB_1]
        exact this) (by have:=form_two hP.out.form (Or.inr rfl); rw [ops_len] at this; exact this) (by have:=hP.out.few; rw [ops_len] at this; exact this) (by rw [← hQ0]; exact hlen.out) w1 hPw.out.sub hPw.out.tab hPw.out.spc)
    rw [← hQ0] at hgo
    clear hQ0
    go_wp2_with fail
    refine hgo.out.mono ?_
    rintro e w2 ⟨rfl,hb⟩
    have hP2:=Lib.hid (hPw.out.below hb)
    clear hb x0 x1 x2 x3 x4
    go_wp2
    go_ret
    exact ⟨rfl,hP2.out.low⟩
  have e3 : (op == 3) = false:=by simpa using h3
  by_cases h4 : op = 4
  · subst h4
    have hk1 : kids.length = 1:=by have:=form_one hP.out.form; rw [ops_len] at this; exact this
    have hlt : 0 < kids.length:=by omega
    obtain ⟨blk,off,op1,kind1,name1,va1,vn1,vc1,ka1,kn1,kc1,rfl,c0,c1,c2,c3,c4,hr⟩:=kid_at (hk.out.mono hPw.out.sub) hl.out (fun j r k h1 h2=>hE.out j r k h1 h2) hlt
    have hQ0 : T = ([110,111,116,32] : List UInt8) ++ parB 3 (pe kids[0]).op (printE (pe kids[0])):=by
      rw [hTx.out,printE,if_neg (by decide),if_neg (by decide),if_neg (by decide),if_pos rfl]
      congr 1
      have h:=printL_next 3 [] (F:=peL kids) (k:=0) (by rw [peL_len]; exact hlt)
      rw [List.take_of_length_le (by rw [peL_len]; omega),if_pos rfl,List.take_zero,printL,peL_at hlt] at h
      exact h
    clear hk1
    have hln:=hlen.out
    rw [hQ0,List.length_append] at hln
    have hkl:=parB_len 3 (pe kids[0]).op (printE (pe kids[0]))
    have hop:=eat_op (hE.out 0 _ kids[0] hr (List.getElem?_eq_getElem hlt))
    have hb2:=(Below.refl w1.heap.size w1).alloc (Nat.le_refl _) (.cells #[.int .i64 3,.int .i64 2] 3)
    have hP2:=hPw.out.below hb2
    have hgo:=within_any m kids[0] op1 kind1 name1 va1 ka1 vn1 vc1 kn1 kc1 (ih.out 0 _ kids[0] hr (List.getElem?_eq_getElem hlt)) [3,2] w1.heap.size 2 (w1.alloc (.cells #[.int .i64 3,.int .i64 2] 3)) hP2.sub hP2.tab hP2.spc (okl_at hlt hokl.out) (by omega)
      (fun j h=>by
        have hj : j = 0∨j = 1:=by simp at h; omega
        rcases hj with rfl | rfl
        · exact (Own.new w1 #[.int .i64 3,.int .i64 2] 3).cell 0
        · exact (Own.new w1 #[.int .i64 3,.int .i64 2] 3).cell 1) (by decide)
    rw [inO_3,← hop] at hgo
    rw [← hop] at c0
    have hbl : blk < w1.heap.size:=World.block_lt_of_cell? w1 _ c0
    generalize parB 3 (pe kids[0]).op (printE (pe kids[0])) = K at hQ0 hln hgo
    generalize (pe kids[0]).op = op2 at c0 hgo
    have hQ:=Lib.hid (show (⟨T.toArray⟩ : ByteArray) = ⟨#[110,111,116,32]⟩ ++ ⟨K.toArray⟩ from to_str (by rw [cat_eq,hQ0]))
    replace hgo:=Lib.hid hgo
    replace hP2:=Lib.hid hP2
    clear hQ0 hkl hop hb2 hr
    rw [Nat.zero_mul,Nat.add_zero] at c0 c1 c2 c3 c4
    have n1 : (0 : Int) < (kids.length : Int):=by omega
    go_wp2_with fail
    refine hgo.out.mono ?_
    rintro e w3 ⟨rfl,hb⟩
    have hP3:=Lib.hid (hP2.out.below hb)
    have g1 : ¬ 9223372036854775807 < 4 + K.length:=by simp only [List.length_cons,List.length_nil] at hln; omega
    clear hb c0 c1 c2 c3 c4 x0 x1 x2 x3 x4 hgo hln
    go_wp2
    go_ret
    exact ⟨by rw [hQ.out]; rfl,hP3.out.low⟩
  have e4 : (op == 4) = false:=by simpa using h4
  by_cases h5 : op = 5
  · subst h5
    have hQ0 : (⟨T.toArray⟩ : ByteArray) = ⟨#[109,101,109,98,101,114,32]⟩ ++ name:=to_str (by rw [hTx.out,printE,if_neg (by decide),if_neg (by decide),if_neg (by decide),if_neg (by decide),if_pos rfl,cat_eq])
    have g1 : ¬ 9223372036854775807 < 7 + name.size:=by
      have h:=hlen.out
      rw [hTx.out,printE,if_neg (by decide),if_neg (by decide),if_neg (by decide),if_neg (by decide),if_pos rfl,List.length_append,← size_eq name] at h
      omega
    replace hQ0:=Lib.hid hQ0
    go_wp2
    go_ret
    exact ⟨by rw [hQ0.out]; rfl,hPw.out.low⟩
  have e5 : (op == 5) = false:=by simpa using h5
  have h6 : 6≤op:=by have:=hP.out.lo; omega
  have h15 : op≤15:=hP.out.hi
  obtain ⟨j,hj⟩ : ∃ j : Nat,op - 6 = (j : Int):=⟨(op - 6).toNat,by omega⟩
  have hj10 : j < 10:=by omega
  obtain ⟨W,hWc,hWd⟩:=ht.out j hj10
  have hWo : W.data.toList = wordOf op:=by rw [hWd,wordOf,hj]; rfl
  have hWl : W.size≤10:=by rw [size_eq,hWo]; exact word_few op
  replace hWc:=hPw.out.sub _ _ hWc
  obtain ⟨V,hV⟩ : ∃ V,Hid (V = joinC ((vals.map vv).map value.formS)):=⟨_,Lib.hid rfl⟩
  have hT0 : T = kind.data.toList ++ ([46] ++ (name.data.toList ++ ([32] ++ (W.data.toList ++ (if op = 6 then [] else if op = 8 then [32,91] ++ (V ++ [93]) else [32] ++ V))))):=by
    rw [hTx.out,printE,if_neg h1,if_neg h2,if_neg h3,if_neg h4,if_neg h5,hWo,hV.out]; rfl
  have hln:=hlen.out
  rw [hT0] at hln
  simp only [List.length_append,List.length_cons,List.length_nil,← size_eq] at hln
  have g1 : ¬ 9223372036854775807 < kind.size + 1:=by omega
  have g2 : ¬ 9223372036854775807 < kind.size + 1 + name.size:=by omega
  have g3 : ¬ 9223372036854775807 < kind.size + 1 + name.size + 1:=by omega
  have g4 : ¬ 9223372036854775807 < kind.size + 1 + name.size + 1 + W.size:=by omega
  have hw : IntKind.i64.wrap (op - 6) = (j : Int):=by rw [IntKind.wrap_i64]; omega
  have n0 : (0 : Int)≤(j : Int):=by omega
  have n1 : (j : Int) < 10:=by omega
  have hgl : 0 < w1.heap.size:=World.block_lt_of_cell? w1 _ hWc
  replace hln:=Lib.hid hln
  replace hT0:=Lib.hid hT0
  replace hWo:=Lib.hid hWo
  clear hWd hWl
  go_upto_region 12 with fail
  go_cut [3] (fun s3 wy=>s3 = .string (kind ++ (⟨#[46]⟩ : ByteArray) ++ name ++ (⟨#[32]⟩ : ByteArray) ++ W)∧Hid (Beyond w1 wy))
  case first =>
    go_quiet (fail)
    go_wp2
    go_meet
    exact ⟨rfl,Lib.hid ((Below.refl w1.heap.size w1).grown (grown_drewN w1 _ none) (Nat.le_refl _) (fun k e=>by cases e))⟩
  case rest =>
  obtain ⟨rfl,hB⟩:=hcut
  have hP2:=Lib.hid (hPw.out.below hB.out)
  clear x0 x1 x2 x3 x4 hPw hebl g1 g2 g3 g4 hB hWc hgl hw n0 n1
  obtain ⟨x0,x1,x2,x3,x4,-⟩:=own5z hP2.out.own
  have hebl:=hP2.out.own.lt
  obtain ⟨s1,hs1⟩ : ∃ z : ByteArray,Hid (z = kind ++ (⟨#[46]⟩ : ByteArray) ++ name ++ (⟨#[32]⟩ : ByteArray) ++ W):=⟨_,Lib.hid rfl⟩
  rw [← hs1.out]
  have hsd:=Lib.hid (show s1.data.toList = kind.data.toList ++ [46] ++ name.data.toList ++ [32] ++ W.data.toList by rw [hs1.out,cat_eq,cat_eq,cat_eq,cat_eq])
  have hsz : s1.size = kind.size + 1 + name.size + 1 + W.size:=by rw [size_eq,hsd.out]; simp only [List.length_append,List.length_cons,List.length_nil,← size_eq]
  clear hj
  by_cases h66 : op = 6
  · subst h66
    have hQ:=Lib.hid (show (⟨T.toArray⟩ : ByteArray) = s1 from to_str (by rw [hT0.out,hsd.out,if_pos rfl]; simp))
    clear hsz
    go_wp2
    go_ret
    exact ⟨by rw [hQ.out]; rfl,hP2.out.low⟩
  have e6 : (op == 6) = false:=by simpa using h66
  have hTn:=hT0.out
  have hlnn:=hln.out
  rw [if_neg h66] at hTn hlnn
  have hfl : (if op = 8 then decide (0 < vals.length) else decide (vals.length = 1)) = true:=by
    have h:=hP.out.form
    unfold formB at h
    simp only [Bool.and_eq_true] at h
    have h3:=h.2.2
    rw [List.length_map] at h3
    by_cases h8 : op = 8
    · rw [if_pos h8] at h3 ⊢; exact h3
    · rw [if_neg h8] at h3 ⊢
      rw [if_pos ⟨by unfold tstB; simp [h6,h15],h66⟩] at h3
      exact h3
  have hfv:=hP.out.fewV
  rw [List.length_map] at hfv
  by_cases h8 : op = 8
  · subst h8
    rw [if_pos rfl] at hTn hlnn hfl
    simp only [decide_eq_true_eq] at hfl
    simp only [List.length_append,List.length_cons,List.length_nil] at hlnn
    have hval:=Lib.hid (joinV_any m vals va vn vc hv.out hL.out hP.out.oks (by omega) hfv (by rw [← hV.out]; omega) wc hP2.out.sub hP2.out.tab)
    rw [← hV.out] at hval
    have g1 : ¬ 9223372036854775807 < s1.size + 2:=by omega
    have g2 : ¬ 9223372036854775807 < s1.size + 2 + V.length:=by omega
    have g3 : ¬ 9223372036854775807 < s1.size + 2 + V.length + 1:=by omega
    have hQ:=Lib.hid (show (⟨T.toArray⟩ : ByteArray) = s1 ++ (⟨#[32,91]⟩ : ByteArray) ++ ⟨V.toArray⟩ ++ (⟨#[93]⟩ : ByteArray) from to_str (by rw [hTn,cat_eq,cat_eq,cat_eq,hsd.out]; simp))
    clear hTn hlnn hsz hfl hfv
    go_wp2_with fail
    refine hval.out.mono ?_
    rintro e w3 ⟨rfl,hb⟩
    have hP3:=Lib.hid (hP2.out.below hb)
    clear hb hval x0 x1 x2 x3 x4
    go_wp2
    go_ret
    exact ⟨by rw [hQ.out]; rfl,hP3.out.low⟩
  · have e8 : (op == 8) = false:=by simpa using h8
    rw [if_neg h8] at hTn hlnn hfl
    simp only [decide_eq_true_eq] at hfl
    simp only [List.length_append,List.length_cons,List.length_nil] at hlnn
    have hlt : 0 < vals.length:=by omega
    have hle : vals.length≤1:=by omega
    clear hfl
    have hvn:=(len_of hv.out).1
    rw [List.length_map] at hvn
    subst hvn
    obtain ⟨a0,c0,q1,-,-,hc4⟩:=hv.out
    injection q1 with q1 q2 q3
    subst q1; subst q3; clear q2
    rcases hc4 with he | ⟨blk,off,rfl,hc⟩
    · have : vals = []:=by simpa using he
      rw [this] at hlt; exact absurd hlt (by simp)
    obtain ⟨c0,c1,c2,c3⟩:=vd_cells hc hlt
    clear hc
    rw [Nat.zero_mul,Nat.add_zero] at c0 c1 c2 c3
    have c0:=hP2.out.sub _ _ c0
    have c1:=hP2.out.sub _ _ c1
    have c2:=hP2.out.sub _ _ c2
    have c3:=hP2.out.sub _ _ c3
    have hVv : V = value.formS (vv vals[0]):=by
      rw [hV.out]
      match vals,hlt,hle with
      | [v],_,_=>rfl
    have hval:=Lib.hid (format_src vals[0] wc ((hL.out vals[0] (List.getElem_mem hlt)).mono hP2.out.sub) hP2.out.tab (vals_each hP.out.oks (vv vals[0]) (List.mem_map_of_mem (List.getElem_mem hlt))))
    rw [← hVv] at hval
    have hbl : blk < wc.heap.size:=World.block_lt_of_cell? wc _ c0
    generalize vals[0] = v at c0 c1 c2 c3 hval
    clear hVv
    obtain ⟨v1,v2,v3,v4,v5,v6,v7⟩:=v
    simp only at c0 c1 c2 c3 hval
    have n1 : (0 : Int) < (vals.length : Int):=by omega
    have g1 : ¬ 9223372036854775807 < s1.size + 1:=by omega
    have g2 : ¬ 9223372036854775807 < s1.size + 1 + V.length:=by omega
    have hQ:=Lib.hid (show (⟨T.toArray⟩ : ByteArray) = s1 ++ (⟨#[32]⟩ : ByteArray) ++ ⟨V.toArray⟩ from to_str (by rw [hTn,cat_eq,cat_eq,hsd.out]; simp))
    clear hTn hlnn hsz hfv hle
    go_wp2_with fail
    refine hval.out.mono ?_
    rintro e w3 ⟨rfl,hb⟩
    have hP3:=Lib.hid (hP2.out.below hb)
    clear hb hval x0 x1 x2 x3 x4 c0 c1 c2 c3
    go_wp2
    go_ret
    exact ⟨by rw [hQ.out]; rfl,hP3.out.low⟩
theorem prog_any (m : Mem) (ht : TestsAt m) (d : ED) (r : List Value) (h : EAt m d r) : ExprOk m d r:=by
  induction h with
  | mk rows hv hk hl hL hE ih=>exact prog_step m ht _ _ _ _ _ _ _ rows hv hk hl hL hE ih
end Go.Proofs.YtfffpflflggonaaGreatDoor.src
namespace Go.Proofs.YtfffpflflggonaaGreatDoor.src
open Go.RowKit lex value text schema draw clause
def printR2 (x : PE) : Value:=if formS x = 0 then .tuple #[.string ⟨(printE x).toArray⟩,.int .i64 0] else .tuple #[.string ⟨#[]⟩,.int .i64 (formS x)]
set_option maxRecDepth 100000 in
set_option maxHeartbeats 4000000 in
theorem print_any (m : Mem) (d : ED) (r : List Value) (h : EAt m d r) (ht : TestsAt m) (hsz : formS (pe d) = 0→(printE (pe d)).length≤1000000000) (w : World) (hs : Sub m w.cell?) (hT : Tabs w) (hsp : SpaceTab w) :
    Calls Tryz.prog 14 #[.agg r.toArray] w fun e w'=>e = .returned (printR2 (pe d))∧Below w.heap.size w w':=by
  obtain ⟨op,kind,name,va,vn,vc,ka,kn,kc,rfl⟩:=eat_five h
  have hB1 : Below w.heap.size w (w.alloc (.cells #[.int .i64 op,.string kind,.string name,.slice va vn vc,.slice ka kn kc] 31)):=(Below.refl _ _).alloc (Nat.le_refl _) _
  have hX1:=Own.new w #[.int .i64 op,.string kind,.string name,.slice va vn vc,.slice ka kn kc] 31
  have hP:=Lib.hid (show PW w.heap.size m #[.int .i64 op,.string kind,.string name,.slice va vn vc,.slice ka kn kc] w (w.alloc (.cells #[.int .i64 op,.string kind,.string name,.slice va vn vc,.slice ka kn kc] 31)) from ⟨hB1,hX1,hs.trans (sub_of_below hB1),hT.below hB1,var_below hB1 hsp⟩)
  have hgo:=Lib.hid (fun (u : World) (hu : PW w.heap.size m #[.int .i64 op,.string kind,.string name,.slice va vn vc,.slice ka kn kc] w u)=>shape_any m d _ h u hu.sub hu.tab hu.spc)
  have htx:=Lib.hid (fun (h0 : formS (pe d) = 0) (u : World) (hu : PW w.heap.size m #[.int .i64 op,.string kind,.string name,.slice va vn vc,.slice ka kn kc] w u)=>prog_any m ht d _ h u hu.sub hu.tab hu.spc (ok_walk (pe d) 0 0 h0).1 (hsz h0))
  have hR:=Lib.hid (show printR2 (pe d) = if formS (pe d) = 0 then .tuple #[.string ⟨(printE (pe d)).toArray⟩,.int .i64 0] else .tuple #[.string ⟨#[]⟩,.int .i64 (formS (pe d))] from rfl)
  generalize printR2 (pe d) = R at hR ⊢
  generalize formS (pe d) = f at hgo htx hR
  clear hB1 hX1 hs hT hsp hsz h
  go_enter Tryz.func14,Tryz.ntmps14
  go_upto_region 1 with fail
  generalize w.alloc (.cells #[.int .i64 op,.string kind,.string name,.slice va vn vc,.slice ka kn kc] 31) = w1 at hP ⊢
  obtain ⟨eb,heb⟩ : ∃ z : Nat,Hid (z = w.heap.size):=⟨_,Lib.hid rfl⟩
  rw [← heb.out] at hP hgo htx ⊢
  obtain ⟨x0,x1,x2,x3,x4,-⟩:=own5z hP.out.own
  have hebl:=hP.out.own.lt
  go_wp2_with fail
  refine (hgo.out w1 hP.out).mono ?_
  rintro e w2 ⟨rfl,hb⟩
  have hP2:=Lib.hid (hP.out.below hb)
  clear hb x0 x1 x2 x3 x4 hebl hP hgo
  obtain ⟨x0,x1,x2,x3,x4,-⟩:=own5z hP2.out.own
  have hebl:=hP2.out.own.lt
  by_cases h0 : f = 0
  · have ht:=Lib.hid (htx.out h0 w2 hP2.out)
    have hQ:=Lib.hid (show R = _ from by rw [hR.out,if_pos h0])
    subst h0
    clear htx hR
    go_wp2_with fail
    refine ht.out.mono ?_
    rintro e w3 ⟨rfl,hb⟩
    have hP3:=Lib.hid (hP2.out.below hb)
    clear hb x0 x1 x2 x3 x4 ht
    go_wp2
    refine bodyPost_ret (v:=.tuple #[.string ⟨(printE (pe d)).toArray⟩,.int .i64 0]) (by simp [results,Tryz.results14,go_sem]) rfl ?_
    exact ⟨by rw [hQ.out],hP3.out.low⟩
  · have hQ:=Lib.hid (show R = _ from by rw [hR.out,if_neg h0])
    have hf : (f != 0) = true:=by simpa using h0
    clear htx hR h0
    go_wp2
    refine bodyPost_ret (v:=.tuple #[.string ⟨#[]⟩,.int .i64 f]) (by simp [results,Tryz.results14,go_sem]) rfl ?_
    exact ⟨by rw [hQ.out],hP2.out.low⟩
theorem parB_0 (op : Int) (t : List UInt8) : parB 0 op t = t:=by unfold parB; rw [if_neg (Nat.not_lt_zero _)]
set_option maxRecDepth 100000 in
set_option maxHeartbeats 4000000 in
theorem print_ref (m : Mem) (d : ED) (r : List Value) (h : EAt m d r) (hN : NmD d) (hsz : formS (pe d) = 0→(printE (pe d)).length≤1000000000) (w : World) (hs : Sub m w.cell?) (hT : Tabs w) (hsp : SpaceTab w) :
    Calls Tryz.prog 15 #[.agg r.toArray] w fun e w'=>e = .returned (printR2 (pe d))∧Below w.heap.size w w':=by
  obtain ⟨op,kind,name,va,vn,vc,ka,kn,kc,rfl⟩:=eat_five h
  have hB1 : Below w.heap.size w (w.alloc (.cells #[.int .i64 op,.string kind,.string name,.slice va vn vc,.slice ka kn kc] 31)):=(Below.refl _ _).alloc (Nat.le_refl _) _
  have hX1:=Own.new w #[.int .i64 op,.string kind,.string name,.slice va vn vc,.slice ka kn kc] 31
  have hP:=Lib.hid (show PW w.heap.size m #[.int .i64 op,.string kind,.string name,.slice va vn vc,.slice ka kn kc] w (w.alloc (.cells #[.int .i64 op,.string kind,.string name,.slice va vn vc,.slice ka kn kc] 31)) from ⟨hB1,hX1,hs.trans (sub_of_below hB1),hT.below hB1,var_below hB1 hsp⟩)
  have hgo:=Lib.hid (fun (u : World) (hu : PW w.heap.size m #[.int .i64 op,.string kind,.string name,.slice va vn vc,.slice ka kn kc] w u)=>rshape_any m d _ h hN u hu.sub hu.tab hu.spc)
  have htx:=Lib.hid (fun (h0 : formS (pe d) = 0) (u : World) (hu : PW w.heap.size m #[.int .i64 op,.string kind,.string name,.slice va vn vc,.slice ka kn kc] w u)=>(show Calls Tryz.prog 34 #[.agg #[.int .i64 op,.string kind,.string name,.slice va vn vc,.slice ka kn kc],.int .i64 0] u fun e w'=>e = .returned (.string ⟨(printE (pe d)).toArray⟩)∧Below u.heap.size u w' from by have:=show_any m d _ h 0 u hu.sub hu.tab hu.spc (ok_walk (pe d) 0 0 h0).1 (hsz h0); rw [parB_0] at this; exact this))
  have hR:=Lib.hid (show printR2 (pe d) = if formS (pe d) = 0 then .tuple #[.string ⟨(printE (pe d)).toArray⟩,.int .i64 0] else .tuple #[.string ⟨#[]⟩,.int .i64 (formS (pe d))] from rfl)
  generalize printR2 (pe d) = R at hR ⊢
  generalize formS (pe d) = f at hgo htx hR
  clear hB1 hX1 hs hT hsp hsz h
  go_enter Tryz.func15,Tryz.ntmps15
  go_upto_region 1 with fail
  generalize w.alloc (.cells #[.int .i64 op,.string kind,.string name,.slice va vn vc,.slice ka kn kc] 31) = w1 at hP ⊢
  obtain ⟨eb,heb⟩ : ∃ z : Nat,Hid (z = w.heap.size):=⟨_,Lib.hid rfl⟩
  rw [← heb.out] at hP hgo htx ⊢
  obtain ⟨x0,x1,x2,x3,x4,-⟩:=own5z hP.out.own
  have hebl:=hP.out.own.lt
  go_wp2_with fail
  refine (hgo.out w1 hP.out).mono ?_
  rintro e w2 ⟨rfl,hb⟩
  have hP2:=Lib.hid (hP.out.below hb)
  clear hb x0 x1 x2 x3 x4 hebl hP hgo
  obtain ⟨x0,x1,x2,x3,x4,-⟩:=own5z hP2.out.own
  have hebl:=hP2.out.own.lt
  by_cases h0 : f = 0
  · have ht:=Lib.hid (htx.out h0 w2 hP2.out)
    have hQ:=Lib.hid (show R = _ from by rw [hR.out,if_pos h0])
    subst h0
    clear htx hR
    go_wp2_with fail
    refine ht.out.mono ?_
    rintro e w3 ⟨rfl,hb⟩
    have hP3:=Lib.hid (hP2.out.below hb)
    clear hb x0 x1 x2 x3 x4 ht
    go_wp2
    refine bodyPost_ret (v:=.tuple #[.string ⟨(printE (pe d)).toArray⟩,.int .i64 0]) (by simp [results,Tryz.results15,go_sem]) rfl ?_
    exact ⟨by rw [hQ.out],hP3.out.low⟩
  · have hQ:=Lib.hid (show R = _ from by rw [hR.out,if_neg h0])
    have hf : (f != 0) = true:=by simpa using h0
    clear htx hR h0
    go_wp2
    refine bodyPost_ret (v:=.tuple #[.string ⟨#[]⟩,.int .i64 f]) (by simp [results,Tryz.results15,go_sem]) rfl ?_
    exact ⟨by rw [hQ.out],hP2.out.low⟩
end Go.Proofs.YtfffpflflggonaaGreatDoor.src
namespace Go.Proofs.YtfffpflflggonaaGreatDoor.src
open Go.RowKit lex value text schema draw clause
theorem value_few {v : VV} (h : checkS v = 0) : (value.formS v).length≤200000:=by
  have hs:=shape_of h
  have ht:=text_few h
  obtain ⟨k,n,t,l⟩:=v
  have hk:=kind_of h
  simp only at hk ht
  rcases (show k = 1∨k = 2∨k = 3∨k = 4∨k = 5 by omega) with rfl | rfl | rfl | rfl | rfl
  · show (if n = 0 then [102,97,108,115,101] else [116,114,117,101] : List UInt8).length≤_
    split <;> decide
  · have h1:=c_2 hs rfl
    rw [h] at h1
    by_cases hn : n < -1099511627776∨1099511627776 < n
    · rw [if_pos hn] at h1; cases h1
    have hp : (parseS (Lib.itoa n)).2 = 0:=by rw [parse_itoa,if_neg hn]
    have:=num_few hp
    show (Lib.itoa n).length≤_
    omega
  · show (quoteS t).length≤_
    have:=escL_len t
    have:=ht (Or.inl rfl)
    simp only [quoteS,List.length_cons,List.length_append,List.length_nil]
    omega
  · show t.length≤_
    have:=ht (Or.inr rfl)
    omega
  · have h1:=c_5 hs rfl
    rw [h] at h1
    obtain ⟨hl,hv⟩:=list_ok h1.symm
    show (91 :: (joinC (l.map quoteS) ++ [93])).length≤_
    have:=join_small l hl (fun x hx=>by
      have h2:=valid_size (hv x hx)
      have h3:=escL_len x
      simp only [quoteS,List.length_cons,List.length_append,List.length_nil]
      omega)
    simp only [List.length_cons,List.length_append,List.length_nil]
    omega
theorem sum_few {c : Nat} : ∀ {l : List (List UInt8)},(∀ x∈l,x.length≤c)→sumL l≤c * l.length
  | [],_=>by simp [sumL]
  | a :: r,h=>by
    have h1:=sum_few (l:=r) (fun x hx=>h x (List.mem_cons_of_mem _ hx))
    have h2:=h a List.mem_cons_self
    simp only [sumL,List.map_cons,List.sum_cons,List.length_cons] at h1 ⊢
    rw [Nat.mul_succ]
    omega
theorem values_few {l : List VV} (h : valsE l = 0) (h20 : l.length≤20) : (joinC (l.map value.formS)).length≤4000100:=by
  by_cases h0 : l.map value.formS = []
  · rw [h0]; exact Nat.zero_le _
  · rw [joinC_len _ h0]
    have:=sum_few (c:=200000) (l:=l.map value.formS) (fun x hx=>by
      obtain ⟨v,hv,rfl⟩:=List.mem_map.1 hx
      exact value_few (vals_each h v hv))
    rw [List.length_map] at this ⊢
    omega
mutual
def cntE : PE→Nat
  | .mk _ _ _ _ kids=>1 + cntL kids
def cntL : List PE→Nat
  | []=>0
  | k :: r=>cntE k + cntL r
end
mutual
theorem walk_cnt : ∀ (x : PE) (d b : Nat),(walkS x d b).1 = 0→(walkS x d b).2 = b + cntE x∧b + cntE x≤60
  | .mk op kind name vals kids,d,b,h=>by
    rw [walkS] at h ⊢
    split at h
    · cases h
    · rename_i hb
      split at h
      · cases h
      · rename_i hd
        split at h
        · rename_i hp; exact absurd h hp
        · rename_i hp
          rw [if_neg hb,if_neg hd,if_neg hp]
          have:=walk_cntL kids (d + 1) (b + 1) h (by omega)
          rw [cntE]
          omega
theorem walk_cntL : ∀ (l : List PE) (d b : Nat),(walkL l d b).1 = 0→b≤60→(walkL l d b).2 = b + cntL l∧b + cntL l≤60
  | [],d,b,_,hb=>by rw [walkL,cntL]; omega
  | k :: r,d,b,h,hb=>by
    rw [walkL] at h ⊢
    split at h
    · rename_i h0
      rw [if_pos h0]
      have h1:=walk_cnt k d b h0
      rw [h1.1] at h ⊢
      have h2:=walk_cntL r d _ h h1.2
      rw [cntL]
      omega
    · rename_i h0; exact absurd h h0
end
mutual
theorem print_few : ∀ x : PE,OkE x→(printE x).length + 10≤5000000 * cntE x
  | .mk op kind name vals kids,h=>by
    rw [OkE] at h
    have hP:=part_ok h.1
    have hk2:=printL_short kids h.2 2 [32,97,110,100,32] (by decide)
    have hk1:=printL_short kids h.2 1 [32,111,114,32] (by decide)
    have hk3:=printL_short kids h.2 3 [] (by decide)
    have hvf:=values_few hP.oks hP.fewV
    have hw:=word_few op
    have hkey : ∀ l : List UInt8,keyS l = true→l.length≤32:=fun l hl=>by
      unfold keyS at hl
      simp only [Bool.and_eq_true,decide_eq_true_eq] at hl
      exact hl.1.2
    rw [printE,cntE]
    by_cases h1 : op = 1
    · rw [if_pos h1]; show 4 + 10≤_; omega
    rw [if_neg h1]
    by_cases h2 : op = 2
    · rw [if_pos h2]; omega
    rw [if_neg h2]
    by_cases h3 : op = 3
    · rw [if_pos h3]; omega
    rw [if_neg h3]
    by_cases h4 : op = 4
    · rw [if_pos h4,List.length_append]; simp only [List.length_cons,List.length_nil]; omega
    rw [if_neg h4]
    by_cases h5 : op = 5
    · have:=hkey _ (hP.kname (Or.inr h5))
      rw [if_pos h5,List.length_append]; simp only [List.length_cons,List.length_nil]; omega
    rw [if_neg h5]
    have ht : tstB op = true:=by unfold tstB; have:=hP.lo; have:=hP.hi; simp; omega
    have:=hkey _ (hP.kname (Or.inl ht))
    have:=hkey _ (hP.kkind ht)
    split
    · simp only [List.length_append,List.length_cons,List.length_nil]; omega
    · split <;> (simp only [List.length_append,List.length_cons,List.length_nil]; omega)
theorem printL_short : ∀ (l : List PE),OkL l→∀ (o : Nat) (sep : List UInt8),sep.length≤5→(printL o sep l).length≤5000000 * cntL l
  | [],_,o,sep,_=>by rw [printL]; exact Nat.zero_le _
  | k :: r,h,o,sep,hs=>by
    rw [OkL] at h
    have h1:=print_few k h.1
    have h2:=printR_short r h.2 o sep hs
    have h3 : (parB o k.op (printE k)).length≤(printE k).length + 2:=by unfold parB; split <;> simp
    rw [printL,cntL,List.length_append,Nat.mul_add]
    omega
theorem printR_short : ∀ (l : List PE),OkL l→∀ (o : Nat) (sep : List UInt8),sep.length≤5→(printR o sep l).length≤5000000 * cntL l
  | [],_,o,sep,_=>by rw [printR]; exact Nat.zero_le _
  | k :: r,h,o,sep,hs=>by
    rw [OkL] at h
    have h1:=print_few k h.1
    have h2:=printR_short r h.2 o sep hs
    have h3 : (parB o k.op (printE k)).length≤(printE k).length + 2:=by unfold parB; split <;> simp
    rw [printR,cntL,List.length_append,List.length_append,Nat.mul_add]
    omega
end
theorem form_short (x : PE) (h : formS x = 0) : (printE x).length≤1000000000:=by
  have h1:=print_few x (ok_walk x 0 0 h).1
  have h2:=(walk_cnt x 0 0 h).2
  omega
end Go.Proofs.YtfffpflflggonaaGreatDoor.src
namespace Go.Proofs.YtfffpflflggonaaGreatDoor
open Go.ChangeShapes Go.WideShapes Go.ChangeAt Go.RowKit Go.WideMaps Go.WideElems
def strIn : Option Value→ByteArray | some (.string s)=>s | _=>⟨#[]⟩
section
variable {P : Program} {W : World} {H : Type} {enc : TypeId × Value→H}
theorem tab_strs {name : String} {g t e n fuel : Nat} {cs : Array Value} {d : DataW H} {p : List MemPlace} {base : Nat} {spare : Nat→Bool} {held : Bool} (hg : P.globalNamed name = some g) (hv : W.var? P name = some cs)
    (ht : P.underlying t = some (.array n e)) (he : P.underlying e = some .string) (hc : P.cellsOf e = 1)
    (hd : DataW.trod enc P W base spare held fuel t cs.toList = some (d,p)) :
    ∃ ss : List ByteArray,ss.length = n∧d = .agg (ss.map fun s=>.lit (.string s.data.toList))∧∀ i s,ss[i]? = some s→W.cell? ⟨g,i,none⟩ = some (.string s):=by
  obtain ⟨xs,m,-,hx,hl,hn,hel⟩:=DataW.trod_array ht hd
  have each : ∀ i,i < n→∃ s : ByteArray,xs[i]? = some (.lit (.string s.data.toList),[])∧cs[i]? = some (.string s):=by
    intro i hi
    have h:=hel i hi
    rw [hc,Nat.mul_one] at h
    rw [List.getElem?_eq_getElem (by omega)] at h
    obtain ⟨s,h1,h2,-⟩:=DataW.trod_string he h
    refine ⟨s,by rw [List.getElem?_eq_getElem (by omega),h2],?_⟩
    have h3:=congrArg (fun l : List Value=>l[0]?) h1
    simp only [List.getElem?_cons_zero,List.getElem?_take,Nat.zero_lt_one,↓reduceIte,List.getElem?_drop,Nat.add_zero] at h3
    simpa using h3
  refine ⟨(List.range n).map fun i=>strIn cs[i]?,by simp,?_,?_⟩
  · have e1 : d = .agg (xs.map (·.1)):=by simpa using congrArg Prod.fst hx
    rw [e1]
    congr 1
    apply List.ext_getElem?
    intro i
    by_cases hi : i < n
    · obtain ⟨s,h1,h2⟩:=each i hi
      simp [h1,hi,h2,strIn]
    · rw [List.getElem?_eq_none (by simp; omega),List.getElem?_eq_none (by simp; omega)]
  · intro i s hs
    by_cases hi : i < n
    · obtain ⟨s',h1,h2⟩:=each i hi
      simp [hi,h2,strIn] at hs
      subst hs
      rw [World.var?_cell hg hv i]
      exact h2
    · rw [List.getElem?_eq_none (by simp; omega)] at hs; cases hs
theorem tab_lists {name : String} {g t e e2 n fuel : Nat} {cs : Array Value} {d : DataW H} {p : List MemPlace} {base : Nat} {spare : Nat→Bool} {held : Bool} (hg : P.globalNamed name = some g) (hv : W.var? P name = some cs)
    (ht : P.underlying t = some (.array n e)) (he : P.underlying e = some (.slice e2)) (he2 : P.underlying e2 = some .string) (hc : P.cellsOf e = 1) (hc2 : P.cellsOf e2 = 1)
    (hd : DataW.trod enc P W base spare held fuel t cs.toList = some (d,p)) (i : Nat) (hi : i < n) :
    ∃ xs : List (DataW H),d = .agg xs∧((W.cell? ⟨g,i,none⟩ = some (.slice none 0 0)∧xs[i]? = some .nil) ∨
      ∃ (a : Addr) (cap : Nat) (l : List ByteArray) (sp : List (DataW H)),W.cell? ⟨g,i,none⟩ = some (.slice (some a) l.length cap)∧l.length≤cap∧cap≤maxLen∧xs[i]? = some (.slice (l.map fun s=>.lit (.string s.data.toList)) sp) ∧
        ∀ j s,l[j]? = some s→W.cell? (a.add j) = some (.string s)):=by
  obtain ⟨xs,m,-,hx,hl,hn,hel⟩:=DataW.trod_array ht hd
  have e1 : d = .agg (xs.map (·.1)):=by simpa using congrArg Prod.fst hx
  refine ⟨_,e1,?_⟩
  have h:=hel i hi
  rw [hc,Nat.mul_one,List.getElem?_eq_getElem (by omega)] at h
  have cell : ∀ v : Value,(cs.toList.drop i).take 1 = [v]→W.cell? ⟨g,i,none⟩ = some v:=by
    intro v h1
    have h3:=congrArg (fun l : List Value=>l[0]?) h1
    simp only [List.getElem?_cons_zero,List.getElem?_take,Nat.zero_lt_one,↓reduceIte,List.getElem?_drop,Nat.add_zero] at h3
    rw [World.var?_cell hg hv i]
    simpa using h3
  rcases open_strings he he2 hc2 h with ⟨h1,h2⟩ | ⟨a,len,cap,ss,h1,-,hlc,hcm,hlen,h2,h3,-⟩
  · exact Or.inl ⟨cell _ h1,by rw [List.getElem?_map,List.getElem?_eq_getElem (by omega),h2]; rfl⟩
  · have hle : len≤ss.length:=by rw [hlen]; split <;> omega
    have hlt : (ss.take len).length = len:=by simp; omega
    refine Or.inr ⟨a,cap,ss.take len,strs (ss.drop len),?_,by omega,hcm,?_,?_⟩
    · rw [hlt]
      exact cell _ h1
    · rw [List.getElem?_map,List.getElem?_eq_getElem (by omega),h2]
      rfl
    · intro j s hs
      rw [List.getElem?_take] at hs
      split at hs
      · rename_i hj
        have:=h3 j (by omega)
        rw [List.getD_eq_getElem?_getD,hs] at this
        exact this
      · cases hs
theorem sub_but (w : World) (b : Nat) (h : w.heap.size≤b) : Sub w.cell? (but b w):=by
  intro p v hp
  unfold but
  rw [if_neg]
  · exact hp
  · have:=World.block_lt_of_cell? w p hp
    omega
end
end Go.Proofs.YtfffpflflggonaaGreatDoor
namespace Go.Proofs.YtfffpflflggonaaGreatDoor.value
open Go.RowKit text
theorem own4 {w : World} {n : Nat} {x0 x1 x2 x3 : Value} {t : TypeId} (h : Own w n #[x0,x1,x2,x3] t) :
    w.cell? ⟨n,0,none⟩ = some x0∧w.cell? ⟨n,1,none⟩ = some x1∧w.cell? ⟨n,2,none⟩ = some x2∧w.cell? ⟨n,3,none⟩ = some x3 ∧
    w.frozen? ⟨n,0,none⟩ = false∧w.frozen? ⟨n,1,none⟩ = false∧w.frozen? ⟨n,2,none⟩ = false∧w.frozen? ⟨n,3,none⟩ = false :=
  ⟨h.cell 0,h.cell 1,h.cell 2,h.cell 3,h.free 0,h.free 1,h.free 2,h.free 3⟩
end Go.Proofs.YtfffpflflggonaaGreatDoor.value
