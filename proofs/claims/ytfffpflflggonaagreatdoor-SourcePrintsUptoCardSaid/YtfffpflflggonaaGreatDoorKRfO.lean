/- The reference's check of one part. -/
import Derived.Test.YtfffpflflggonaaGreatDoorKRfN
import Derived.Test.YtfffpflflggonaaGreatDoorKSrO
import Derived.Test.YtfffpflflggonaaGreatDoorKS10
namespace Go.Proofs.YtfffpflflggonaaGreatDoor.src
open Go.RowKit lex value text schema draw clause
theorem tst_dec (op : Int) : decide (6≤op∧op≤15) = tstB op:=by unfold tstB; by_cases h1 : 6≤op <;> by_cases h2 : op≤15 <;> simp [h1,h2]
theorem text_no {op : Int} (h : textB op = false) : (op == 9) = false∧(op == 10) = false∧(op == 11) = false:=by
  unfold textB at h
  simp at h
  obtain ⟨h1,h2,h3⟩:=h
  exact ⟨by simpa using h1,by simpa using h2,by simpa using h3⟩
theorem part_valr (d : VD) (w : World) (h : LAt w.cell? d) (hT : Tabs w) :
    Calls Tryz.prog 191 #[.agg #[.int .i64 d.kind,.int .i64 d.num,.string d.text,.slice d.ptr d.len d.cap]] w fun e w'=>e = .returned (.int .i64 (checkS (vv d)))∧Below w.heap.size w w':=by
  rw [srl_len h]
  exact check_ref (vv d) d.text d.ptr d.cap d.ls w ⟨rfl,lin_rows h.rows,rfl⟩ (by have:=h.text; omega) hT
theorem form_kids {op : Int} {kind name : List UInt8} {v k : Nat} (h : formB op kind name v k = true) (hk : 0 < k) : op = 2∨op = 3∨op = 4:=by
  unfold formB at h
  by_cases h2 : op = 2∨op = 3
  · omega
  · by_cases h4 : op = 4
    · omega
    · rw [if_neg h2,if_neg h4] at h
      simp only [Bool.and_eq_true,decide_eq_true_eq] at h
      omega
set_option maxRecDepth 100000 in
set_option maxHeartbeats 8000000 in
theorem rpart_any (op : Int) (kind name : ByteArray) (vals : List VD) (kids : List ED) (va ka : Option Addr) (vn vc kn kc : Nat) (rows : List (List Value)) (m : Mem)
    (hv : RowsAt m 4 (.slice va vn vc) (vals.map VD.row)) (hk : RowsAt m 5 (.slice ka kn kc) rows) (hl : rows.length = kids.length) (hL : ∀ v∈vals,LAt m v)
    (hE : ∀ (i : Nat) (r : List Value) (k : ED),rows[i]? = some r→kids[i]? = some k→EAt m k r)
    (hkz : kind.size≤maxLen) (hnz : name.size≤maxLen) (w : World) (hs : Sub m w.cell?) (hT : Tabs w) (hsp : SpaceTab w) :
    Calls Tryz.prog 119 #[.agg #[.int .i64 op,.string kind,.string name,.slice va vn vc,.slice ka kn kc]] w
      fun e w'=>e = .returned (.int .i64 (partS op kind.data.toList name.data.toList (vals.map vv) (kids.map opE)))∧Below w.heap.size w w':=by
  have hvn : vn = vals.length:=by have:=(len_of hv).1; simpa using this
  have hkn : kn = kids.length:=by have:=(len_of hk).1; omega
  subst hvn; subst hkn
  have hvm : vals.length≤maxLen:=by have:=(len_of hv).2; unfold maxLen; simpa using this
  have hkm : kids.length≤maxLen:=by have:=(len_of hk).2; unfold maxLen; omega
  have hbw : Below w.heap.size w (w.alloc (.cells #[.int .i64 op,.string kind,.string name,.slice va vals.length vc,.slice ka kids.length kc] 31)):=(Below.refl _ _).alloc (Nat.le_refl _) _
  have hP : PW w.heap.size m #[.int .i64 op,.string kind,.string name,.slice va vals.length vc,.slice ka kids.length kc] w (w.alloc (.cells #[.int .i64 op,.string kind,.string name,.slice va vals.length vc,.slice ka kids.length kc] 31)) :=
    ⟨hbw,Own.new w _ _,hs.trans (sub_of_below hbw),hT.below hbw,(show SpaceTab _ from var_below hbw hsp)⟩
  replace hP:=Lib.hid hP
  replace hv:=Lib.hid hv
  replace hk:=Lib.hid hk
  replace hE:=Lib.hid hE
  replace hL:=Lib.hid hL
  replace hl:=Lib.hid hl
  replace hvm:=Lib.hid hvm
  replace hkm:=Lib.hid hkm
  clear hbw hs hT hsp
  generalize hX : partS op kind.data.toList name.data.toList (vals.map vv) (kids.map opE) = X
  go_enter Tryz.func119,Tryz.ntmps119
  by_cases h1 : op < 1
  · have hQ:=Lib.hid (show (7 : Int) = X by rw [← hX]; unfold partS; rw [if_pos (Or.inl h1)])
    clear hX
    go_wp2
    go_ret
    exact ⟨text.ret_int hQ.out,hP.out.low⟩
  by_cases h15 : 15 < op
  · have hQ:=Lib.hid (show (7 : Int) = X by rw [← hX]; unfold partS; rw [if_pos (Or.inr h15)])
    clear hX
    go_wp2
    go_ret
    exact ⟨text.ret_int hQ.out,hP.out.low⟩
  have hR : partS op kind.data.toList name.data.toList (vals.map vv) (kids.map opE) = if formB op kind.data.toList name.data.toList vals.length kids.length = false then 15
      else if 12 < kids.length∨20 < vals.length then 5
      else if (op = 2∨op = 3)∧(kids.map opE).any (fun k=>k == op) = true then 15
      else if (tstB op && !keyS kind.data.toList || (tstB op || decide (op = 5)) && !keyS name.data.toList) = true then 6
      else if valsE (vals.map vv) ≠ 0 then valsE (vals.map vv)
      else if textB op = true∧headK (vals.map vv) ≠ 3 then 8
      else 0:=by
    unfold partS
    rw [if_neg (by omega),List.length_map,List.length_map]
  rw [hR] at hX
  clear hR
  replace hX:=Lib.hid hX
  go_wp2_with fail
  generalize w.alloc (.cells #[.int .i64 op,.string kind,.string name,.slice va vals.length vc,.slice ka kids.length kc] 31) = w1 at hP ⊢
  refine (counts_any op (by omega) (by omega) kind name va _ vc ka _ kc _).mono ?_
  rintro e w' ⟨rfl,hb⟩
  replace hP:=Lib.hid (hP.out.below hb)
  clear hb
  obtain ⟨q0,q1,q2,q3,q4,-⟩:=own5z hP.out.own
  cases hf : formB op kind.data.toList name.data.toList vals.length kids.length with
  | false =>
    have hQ:=Lib.hid (show (15 : Int) = X by rw [← hX.out,if_pos hf])
    go_wp2
    go_ret
    exact ⟨text.ret_int hQ.out,hP.out.low⟩
  | true =>
  replace hX:=Lib.hid (drop_if (by rw [hf]; decide) hX.out)
  by_cases hz : 12 < kids.length∨20 < vals.length
  · have hQ:=Lib.hid (show (5 : Int) = X by rw [← hX.out,if_pos hz])
    by_cases h12 : 12 < kids.length
    · have hi : (12 : Int) < (kids.length : Int):=by omega
      go_wp2
      go_ret
      exact ⟨text.ret_int hQ.out,hP.out.low⟩
    · have hi : ¬ (12 : Int) < (kids.length : Int):=by omega
      have hi2 : (20 : Int) < (vals.length : Int):=by omega
      go_wp2
      go_ret
      exact ⟨text.ret_int hQ.out,hP.out.low⟩
  have hi : ¬ (12 : Int) < (kids.length : Int):=by omega
  have hi2 : ¬ (20 : Int) < (vals.length : Int):=by omega
  replace hX:=Lib.hid (drop_if hz hX.out)
  clear hz
  go_wp2
  replace hf:=Lib.hid hf
  clear hi hi2
  go_loopw [3] (fun i wr=>∃ k : Nat,k≤kids.length∧i = .int .i64 k∧Hid (PW w.heap.size m #[.int .i64 op,.string kind,.string name,.slice va vals.length vc,.slice ka kids.length kc] w wr)∧Hid (∀ j,(hj : j < kids.length)→j < k→¬ (opE kids[j] = op∧(op = 2∨op = 3)))) (fun i _=>kids.length - (intOf i).toNat)
  case atStart=>exact ⟨0,Nat.zero_le _,rfl,hP,Lib.hid (fun j _ h=>absurd h (Nat.not_lt_zero _))⟩
  case round =>
    clear q0 q1 q2 q3 q4 hP
    obtain ⟨k,hk1,rfl,hPr,hN⟩:=hrel
    obtain ⟨q0,q1,q2,q3,q4,-⟩:=own5z hPr.out.own
    by_cases hlt : k < kids.length
    case pos =>
      have hops:=form_kids hf.out (by omega)
      obtain ⟨a0,c0,e1,-,-,h4⟩:=hk.out
      injection e1 with e1 e2 e3
      subst e1; subst e3; clear e2
      rcases h4 with he | ⟨blk,off,rfl,hc⟩
      · have:=hl.out
        rw [he] at this
        simp only [List.length_nil] at this
        omega
      obtain ⟨kind1,name1,va1,vn1,vc1,ka1,kn1,kc1,c0,-⟩:=kid_parts hc hl.out hE.out hlt
      clear hc
      have c0:=hPr.out.sub _ _ c0
      have n0 : (0 : Int)≤(k : Int):=by omega
      have n1 : (k : Int) < (kids.length : Int):=by omega
      have hH:=Lib.hid (fun h : opE kids[k] = op=>any_hit hlt h)
      have hNx:=Lib.hid (fun (h : ¬ (opE kids[k] = op∧(op = 2∨op = 3)))=>none_next hlt hN.out h)
      generalize opE kids[k] = o1 at c0 hH hNx
      have hPd:=Lib.hid (fun n=>hPr.out.below ((Below.refl wr.heap.size wr).grown (grown_drewN wr n none) (Nat.le_refl _) (fun k e=>by cases e)))
      clear hN
      by_cases ho : o1 = op
      · have bo : (o1 == op) = true:=by simpa using ho
        by_cases h4 : op = 4
        · have b4 : (op != 4) = false:=by simpa using h4
          have hN2:=Lib.hid (hNx.out (fun h=>by have:=h.2; omega))
          clear ho h4 hops
          go_wp2_with fail
          go_quiet (fail)
          go_wp2
          go_roundw
          case rel=>exact ⟨k + 1,by omega,by go_num,Lib.hid (hPd.out _),hN2⟩
          case measure=>simp [intOf]; omega
        · have b4 : (op != 4) = true:=by simpa using h4
          have hQ:=Lib.hid (show (15 : Int) = X by rw [← hX.out,if_pos ⟨by omega,hH.out ho⟩])
          clear ho h4 hops
          go_wp2_with fail
          go_quiet (fail)
          go_wp2
          go_ret
          exact ⟨text.ret_int hQ.out,(hPd.out _).low⟩
      · have bo : (o1 == op) = false:=by simpa using ho
        have hN2:=Lib.hid (hNx.out (fun h=>ho h.1))
        clear ho hops
        go_wp2_with fail
        go_quiet (fail)
        go_wp2
        go_roundw
        case rel=>exact ⟨k + 1,by omega,by go_num,Lib.hid (hPd.out _),hN2⟩
        case measure=>simp [intOf]; omega
    have n1 : ¬ (k : Int) < (kids.length : Int):=by omega
    replace hX:=Lib.hid (drop_if (none_all hk1 hlt hN.out) hX.out)
    clear hk hE hN
    go_upto_region 12 with fail
    generalize hB : (tstB op && !keyS kind.data.toList || (tstB op || decide (op = 5)) && !keyS name.data.toList) = b at hX
    replace hB:=Lib.hid hB
    go_cut [72] (fun s72 wy=>s72 = .bool b∧Hid (PW w.heap.size m #[.int .i64 op,.string kind,.string name,.slice va vals.length vc,.slice ka kids.length kc] w wy))
    case first =>
      cases ht : tstB op with
      | true =>
        cases hkk : keyS kind.data.toList with
        | false =>
          have hBB:=Lib.hid (show true = b by rw [← hB.out,ht,hkk]; rfl)
          go_wp2_with fail
          refine (istest_any op _).mono ?_
          rintro e wk ⟨rfl,hwk⟩
          subst hwk
          rw [tst_dec,ht]
          go_wp2_with fail
          refine (key_ref kind _ hkz).mono ?_
          rintro e wk ⟨rfl,hbk⟩
          rw [hkk]
          replace hPr:=Lib.hid (hPr.out.below hbk)
          clear hbk q0 q1 q2 q3 q4
          obtain ⟨q0,q1,q2,q3,q4,-⟩:=own5z hPr.out.own
          go_wp2
          go_meet
          exact ⟨congrArg Value.bool hBB.out,hPr⟩
        | true =>
          cases hkn : keyS name.data.toList with
          | false =>
            have hBB:=Lib.hid (show true = b by rw [← hB.out,ht,hkk,hkn]; rfl)
            go_wp2_with fail
            refine (istest_any op _).mono ?_
            rintro e wk ⟨rfl,hwk⟩
            subst hwk
            rw [tst_dec,ht]
            go_wp2_with fail
            refine (key_ref kind _ hkz).mono ?_
            rintro e wk ⟨rfl,hbk⟩
            rw [hkk]
            replace hPr:=Lib.hid (hPr.out.below hbk)
            clear hbk q0 q1 q2 q3 q4
            obtain ⟨q0,q1,q2,q3,q4,-⟩:=own5z hPr.out.own
            go_wp2_with fail
            refine (istest_any op _).mono ?_
            rintro e wk ⟨rfl,hwk⟩
            subst hwk
            rw [tst_dec,ht]
            go_wp2_with fail
            refine (key_ref name _ hnz).mono ?_
            rintro e wk ⟨rfl,hbk⟩
            rw [hkn]
            replace hPr:=Lib.hid (hPr.out.below hbk)
            clear hbk q0 q1 q2 q3 q4
            obtain ⟨q0,q1,q2,q3,q4,-⟩:=own5z hPr.out.own
            go_wp2
            go_meet
            exact ⟨congrArg Value.bool hBB.out,hPr⟩
          | true =>
            have hBB:=Lib.hid (show false = b by rw [← hB.out,ht,hkk,hkn]; rfl)
            go_wp2_with fail
            refine (istest_any op _).mono ?_
            rintro e wk ⟨rfl,hwk⟩
            subst hwk
            rw [tst_dec,ht]
            go_wp2_with fail
            refine (key_ref kind _ hkz).mono ?_
            rintro e wk ⟨rfl,hbk⟩
            rw [hkk]
            replace hPr:=Lib.hid (hPr.out.below hbk)
            clear hbk q0 q1 q2 q3 q4
            obtain ⟨q0,q1,q2,q3,q4,-⟩:=own5z hPr.out.own
            go_wp2_with fail
            refine (istest_any op _).mono ?_
            rintro e wk ⟨rfl,hwk⟩
            subst hwk
            rw [tst_dec,ht]
            go_wp2_with fail
            refine (key_ref name _ hnz).mono ?_
            rintro e wk ⟨rfl,hbk⟩
            rw [hkn]
            replace hPr:=Lib.hid (hPr.out.below hbk)
            clear hbk q0 q1 q2 q3 q4
            obtain ⟨q0,q1,q2,q3,q4,-⟩:=own5z hPr.out.own
            go_wp2
            go_meet
            exact ⟨congrArg Value.bool hBB.out,hPr⟩
      | false =>
        by_cases h5 : op = 5
        · have b5 : (op == 5) = true:=by simpa using h5
          have d5 : decide (op = 5) = true:=by simpa using h5
          clear h5
          cases hkn : keyS name.data.toList with
          | false =>
            have hBB:=Lib.hid (show true = b by rw [← hB.out,ht,d5,hkn]; rfl)
            go_wp2_with fail
            refine (istest_any op _).mono ?_
            rintro e wk ⟨rfl,hwk⟩
            subst hwk
            rw [tst_dec,ht]
            go_wp2_with fail
            refine (istest_any op _).mono ?_
            rintro e wk ⟨rfl,hwk⟩
            subst hwk
            rw [tst_dec,ht]
            go_wp2_with fail
            refine (key_ref name _ hnz).mono ?_
            rintro e wk ⟨rfl,hbk⟩
            rw [hkn]
            replace hPr:=Lib.hid (hPr.out.below hbk)
            clear hbk q0 q1 q2 q3 q4
            obtain ⟨q0,q1,q2,q3,q4,-⟩:=own5z hPr.out.own
            go_wp2
            go_meet
            exact ⟨congrArg Value.bool hBB.out,hPr⟩
          | true =>
            have hBB:=Lib.hid (show false = b by rw [← hB.out,ht,d5,hkn]; rfl)
            go_wp2_with fail
            refine (istest_any op _).mono ?_
            rintro e wk ⟨rfl,hwk⟩
            subst hwk
            rw [tst_dec,ht]
            go_wp2_with fail
            refine (istest_any op _).mono ?_
            rintro e wk ⟨rfl,hwk⟩
            subst hwk
            rw [tst_dec,ht]
            go_wp2_with fail
            refine (key_ref name _ hnz).mono ?_
            rintro e wk ⟨rfl,hbk⟩
            rw [hkn]
            replace hPr:=Lib.hid (hPr.out.below hbk)
            clear hbk q0 q1 q2 q3 q4
            obtain ⟨q0,q1,q2,q3,q4,-⟩:=own5z hPr.out.own
            go_wp2
            go_meet
            exact ⟨congrArg Value.bool hBB.out,hPr⟩
        · have b5 : (op == 5) = false:=by simpa using h5
          have d5 : decide (op = 5) = false:=by simpa using h5
          clear h5
          have hBB:=Lib.hid (show false = b by rw [← hB.out,ht,d5]; rfl)
          go_wp2_with fail
          refine (istest_any op _).mono ?_
          rintro e wk ⟨rfl,hwk⟩
          subst hwk
          rw [tst_dec,ht]
          go_wp2_with fail
          refine (istest_any op _).mono ?_
          rintro e wk ⟨rfl,hwk⟩
          subst hwk
          rw [tst_dec,ht]
          go_wp2
          go_meet
          exact ⟨congrArg Value.bool hBB.out,hPr⟩
    case rest =>
    clear q0 q1 q2 q3 q4 hPr
    obtain ⟨rfl,hPr⟩:=hcut
    obtain ⟨q0,q1,q2,q3,q4,-⟩:=own5z hPr.out.own
    cases b with
    | true =>
      have hQ:=Lib.hid (show (6 : Int) = X by rw [← hX.out,if_pos rfl])
      go_wp2
      go_ret
      exact ⟨text.ret_int hQ.out,hPr.out.low⟩
    | false =>
    replace hX:=Lib.hid (drop_if (by decide) hX.out)
    clear hB
    go_wp2
    go_loopw [4] (fun i wr=>∃ k : Nat,k≤vals.length∧i = .int .i64 k∧Hid (PW w.heap.size m #[.int .i64 op,.string kind,.string name,.slice va vals.length vc,.slice ka kids.length kc] w wr)∧Hid (valsE ((vals.drop k).map vv) = valsE (vals.map vv))) (fun i _=>vals.length - (intOf i).toNat)
    case atStart=>exact ⟨0,Nat.zero_le _,rfl,hPr,Lib.hid rfl⟩
    case round =>
      clear q0 q1 q2 q3 q4 hPr
      obtain ⟨k,hk1,rfl,hPr,hV⟩:=hrel
      obtain ⟨q0,q1,q2,q3,q4,-⟩:=own5z hPr.out.own
      by_cases hlt : k < vals.length
      · obtain ⟨a0,c0,e1,-,-,h4⟩:=hv.out
        injection e1 with e1 e2 e3
        subst e1; subst e3; clear e2
        rcases h4 with he | ⟨blk,off,rfl,hc⟩
        · have : vals = []:=by simpa using he
          rw [this] at hlt; exact absurd hlt (by simp)
        obtain ⟨c0,c1,c2,c3⟩:=vd_cells hc hlt
        clear hc
        have c0:=hPr.out.sub _ _ c0
        have c1:=hPr.out.sub _ _ c1
        have c2:=hPr.out.sub _ _ c2
        have c3:=hPr.out.sub _ _ c3
        have hLv:=Lib.hid ((hL.out vals[k] (List.getElem_mem hlt)).mono hPr.out.sub)
        have hD:=Lib.hid (vals_step hlt hV.out)
        generalize vals[k] = v at c0 c1 c2 c3 hLv hD
        obtain ⟨v1,v2,v3,v4,v5,v6,v7⟩:=v
        simp only at c0 c1 c2 c3
        have n0 : (0 : Int)≤(k : Int):=by omega
        have n1 : (k : Int) < (vals.length : Int):=by omega
        go_wp2_with fail
        refine (part_valr ⟨v1,v2,v3,v4,v5,v6,v7⟩ _ hLv.out hPr.out.tab).mono ?_
        rintro e w' ⟨rfl,hb⟩
        have hPy:=Lib.hid (hPr.out.below hb)
        clear hb q0 q1 q2 q3 q4 c0 c1 c2 c3
        generalize hcs : checkS (vv ⟨v1,v2,v3,v4,v5,v6,v7⟩) = cs at hD ⊢
        by_cases he : cs = 0
        · have hD1:=Lib.hid (hD.out.2 he)
          subst he
          go_wp2
          go_roundw
          case rel=>exact ⟨k + 1,by omega,by go_num,hPy,hD1⟩
          case measure=>simp [intOf]; omega
        · have hQ:=Lib.hid (show cs = X by rw [← hX.out,hD.out.1 he,if_pos he])
          have hne : (cs != 0) = true:=by simpa using he
          clear hD he
          go_wp2
          go_ret
          exact ⟨text.ret_int hQ.out,hPy.out.low⟩
      · have hX2:=Lib.hid (vals_end hlt hV.out hX.out)
        have n1 : ¬ (k : Int) < (vals.length : Int):=by omega
        clear hV
        go_upto_region 20 with fail
        generalize hTx : textB op = tx
        cases tx with
        | false =>
          obtain ⟨t9,t10,t11⟩:=text_no hTx
          have hQ:=Lib.hid (show (0 : Int) = X by rw [← hX2.out,if_neg (fun h=>by have:=h.1; rw [hTx] at this; cases this)])
          clear hTx
          go_wp2
          go_ret
          exact ⟨text.ret_int hQ.out,hPr.out.low⟩
        | true =>
          obtain ⟨v,hv1⟩ : ∃ v,vals = [v]:=one_of (text_one hTx hf.out)
          obtain ⟨a0,c0,e1,-,-,h4⟩:=hv.out
          injection e1 with e1 e2 e3
          subst e1; subst e3; clear e2
          rcases h4 with he | ⟨blk,off,rfl,hc⟩
          · rw [hv1] at he; cases he
          obtain ⟨c0,-⟩:=vd_cells hc (show 0 < vals.length by rw [hv1]; simp)
          replace c0:=hPr.out.sub _ _ c0
          have hh : headK (vals.map vv) = (vals[0]'(by rw [hv1]; simp)).kind:=by subst hv1; rfl
          have n2 : (0 : Int) < (vals.length : Int):=by rw [hv1]; simp
          generalize (vals[0]'(by rw [hv1]; simp)).kind = k0 at c0 hh
          rw [hh] at hX2
          rw [Nat.zero_mul,Nat.add_zero] at c0
          clear hc hv1 hh
          generalize hz : (k0 != 3) = z
          go_cut [109] (fun s109 wy=>s109 = .bool z∧wy = wr)
          case first =>
            have ho : op = 9∨op = 10∨op = 11:=by unfold textB at hTx; simpa using hTx
            rcases ho with ho | ho | ho
            · have t9 : (op == 9) = true:=by simpa using ho
              clear ho hTx
              go_wp2
              go_meet
              exact ⟨rfl,rfl⟩
            · have t9 : (op == 9) = false:=by simp; omega
              have t10 : (op == 10) = true:=by simpa using ho
              clear ho hTx
              go_wp2
              go_meet
              exact ⟨rfl,rfl⟩
            · have t9 : (op == 9) = false:=by simp; omega
              have t10 : (op == 10) = false:=by simp; omega
              have t11 : (op == 11) = true:=by simpa using ho
              clear ho hTx
              go_wp2
              go_meet
              exact ⟨rfl,rfl⟩
          case rest =>
          obtain ⟨rfl,hwc⟩:=hcut
          replace hwc:=hwc.symm
          subst hwc
          cases z with
          | false =>
            have hQ:=Lib.hid (show (0 : Int) = X by rw [← hX2.out,if_neg (fun h=>h.2 (by simpa using hz))])
            clear hTx hz
            go_wp2
            go_ret
            exact ⟨text.ret_int hQ.out,hPr.out.low⟩
          | true =>
            have hQ:=Lib.hid (show (8 : Int) = X by rw [← hX2.out,if_pos ⟨hTx,by simpa using hz⟩])
            clear hTx hz
            go_wp2
            go_ret
            exact ⟨text.ret_int hQ.out,hPr.out.low⟩
end Go.Proofs.YtfffpflflggonaaGreatDoor.src
