/- One part of a condition: the program's check of it. -/
import Derived.Test.YtfffpflflggonaaGreatDoorKSrN
import Derived.Test.YtfffpflflggonaaGreatDoorKS16
import Derived.Test.YtfffpflflggonaaGreatDoorKTextB
import Derived.Test.YtfffpflflggonaaGreatDoorKValG
namespace Go.Proofs.YtfffpflflggonaaGreatDoor.src
open Go.RowKit lex value text schema draw clause
theorem when_any (b : Bool) (n : Int) (w : World) : Calls Tryz.prog 86 #[.bool b,.int .i64 n] w fun e w'=>e = .returned (.int .i64 (if b = true then n else 0))∧w' = w:=by
  cases b
  · go_enter Tryz.func86,Tryz.ntmps86
    go_wp2
    go_ret
    exact ⟨rfl,rfl⟩
  · go_enter Tryz.func86,Tryz.ntmps86
    go_wp2
    go_ret
    exact ⟨rfl,rfl⟩
theorem srl_len {m : Mem} {d : VD} (h : LAt m d) : d.len = d.ls.length:=by
  obtain ⟨a,c,he,-,-,-⟩:=h.rows
  injection he with _ h2 _
  simpa using h2
theorem lin_rows {w : World} {a : Option Addr} {n c : Nat} {ls : List ByteArray} (h : RowsAt w.cell? 1 (.slice a n c) (ls.map strRow)) : LIn w a ls:=by
  obtain ⟨a0,c0,h1,h2,h3,h4⟩:=h
  injection h1 with e1 e2 e3
  subst e1
  rcases h4 with h4 | ⟨blk,off,rfl,hc⟩
  · exact Or.inl (by simpa using h4)
  · refine Or.inr ⟨blk,off,rfl,fun k hk=>?_⟩
    have:=hc k (strRow ls[k]) (by simp [hk]) 0 (.string ls[k]) rfl
    rw [Nat.mul_one,Nat.add_zero] at this
    exact this
theorem part_val (d : VD) (w : World) (h : LAt w.cell? d) (hT : Tabs w) :
    Calls Tryz.prog 164 #[.agg #[.int .i64 d.kind,.int .i64 d.num,.string d.text,.slice d.ptr d.len d.cap]] w fun e w'=>e = .returned (.int .i64 (checkS (vv d)))∧Below w.heap.size w w':=by
  rw [srl_len h]
  exact check_any (vv d) d.text d.ptr d.cap d.ls w ⟨rfl,lin_rows h.rows,rfl⟩ (by have:=h.few; omega) h.text hT
def opE : ED→Int
  | .mk op _ _ _ _=>op
theorem opE_pe : ∀ d : ED,(pe d).op = opE d
  | .mk _ _ _ _ _=>by rw [pe]; rfl
theorem ops_pe (l : List ED) : PE.ops (peL l) = l.map opE:=by
  rw [peL_map]
  unfold PE.ops
  rw [List.map_map]
  exact List.map_congr_left fun d _=>opE_pe d
theorem kid_parts {m : Mem} {rows : List (List Value)} {kids : List ED} {blk off : Nat} (hr : ∀ i r,rows[i]? = some r→∀ j x,r[j]? = some x→m ⟨blk,off + i * 5 + j,none⟩ = some x)
    (hl : rows.length = kids.length) (hE : ∀ (i : Nat) (r : List Value) (k : ED),rows[i]? = some r→kids[i]? = some k→EAt m k r) {k : Nat} (hk : k < kids.length) :
    ∃ kind name va vn vc ka kn kc,m ⟨blk,off + k * 5,none⟩ = some (.int .i64 (opE kids[k]))∧m ⟨blk,off + k * 5 + 1,none⟩ = some (.string kind)∧m ⟨blk,off + k * 5 + 2,none⟩ = some (.string name) ∧
      m ⟨blk,off + k * 5 + 3,none⟩ = some (.slice va vn vc)∧m ⟨blk,off + k * 5 + 4,none⟩ = some (.slice ka kn kc):=by
  have hk' : k < rows.length:=by omega
  have h1 : rows[k]? = some rows[k]:=by simp [hk']
  have h2 : kids[k]? = some kids[k]:=by simp [hk]
  have h:=hr k rows[k] h1
  generalize rows[k] = r at h h1
  generalize kids[k] = d at h2
  have he:=hE k _ _ h1 h2
  cases he with
  | mk rows' hv' hk' hl' hL' h' =>
    obtain ⟨va,vc,rfl,-,-,-⟩:=hv'
    obtain ⟨ka,kc,rfl,-,-,-⟩:=hk'
    exact ⟨_,_,_,_,_,_,_,_,h 0 _ rfl,h 1 _ rfl,h 2 _ rfl,h 3 _ rfl,h 4 _ rfl⟩
theorem any_hit {op : Int} {l : List ED} {k : Nat} (hk : k < l.length) (h : opE l[k] = op) : (l.map opE).any (fun x=>x == op) = true:=by
  rw [List.any_eq_true]
  exact ⟨opE l[k],by simp [List.mem_map]; exact ⟨l[k],List.getElem_mem hk,rfl⟩,by simp [h]⟩
theorem any_none {op : Int} {l : List ED} (h : ∀ j,(hj : j < l.length)→opE l[j] ≠ op) : (l.map opE).any (fun x=>x == op) = false:=by
  rw [List.any_eq_false]
  intro x hx
  obtain ⟨d,hd,rfl⟩:=List.mem_map.1 hx
  obtain ⟨j,hj,rfl⟩:=List.mem_iff_getElem.1 hd
  simpa using h j hj
theorem drop_if {p : Prop} [Decidable p] {a b X : Int} (h : ¬ p) (e : (if p then a else b) = X) : b = X:=by rw [if_neg h] at e; exact e
theorem none_next {op : Int} {l : List ED} {k : Nat} (hk : k < l.length) (hN : ∀ j,(hj : j < l.length)→j < k→¬ (opE l[j] = op∧(op = 2∨op = 3))) (h : ¬ (opE l[k] = op∧(op = 2∨op = 3))) :
    ∀ j,(hj : j < l.length)→j < k + 1→¬ (opE l[j] = op∧(op = 2∨op = 3)):=by
  intro j hj hlt
  rcases Nat.lt_or_ge j k with h1 | h1
  · exact hN j hj h1
  · obtain rfl : j = k:=by omega
    exact h
theorem none_all {op : Int} {l : List ED} {k : Nat} (_hk : k≤l.length) (hlt : ¬ k < l.length) (hN : ∀ j,(hj : j < l.length)→j < k→¬ (opE l[j] = op∧(op = 2∨op = 3))) :
    ¬ ((op = 2∨op = 3)∧(l.map opE).any (fun k=>k == op) = true):=by
  rintro ⟨h1,h2⟩
  rw [any_none (fun j hj e=>hN j hj (by omega) ⟨e,h1⟩)] at h2
  cases h2
theorem vals_step {l : List VD} {k : Nat} (hk : k < l.length) (h : valsE ((l.drop k).map vv) = valsE (l.map vv)) :
    (checkS (vv l[k]) ≠ 0→valsE (l.map vv) = checkS (vv l[k]))∧(checkS (vv l[k]) = 0→valsE ((l.drop (k + 1)).map vv) = valsE (l.map vv)):=by
  rw [List.drop_eq_getElem_cons hk,List.map_cons,valsE] at h
  refine ⟨fun h1=>?_,fun h1=>?_⟩
  · rw [← h,if_neg h1]
  · rw [← h,if_pos h1]
theorem vals_end {l : List VD} {k : Nat} {b X : Int} (hk : ¬ k < l.length) (h : valsE ((l.drop k).map vv) = valsE (l.map vv)) (e : (if valsE (l.map vv) ≠ 0 then valsE (l.map vv) else b) = X) : b = X:=by
  rw [List.drop_eq_nil_of_le (by omega)] at h
  have h0 : valsE (l.map vv) = 0:=h.symm
  rw [if_neg (by rw [h0]; decide)] at e
  exact e
theorem text_one {op : Int} {kind name : List UInt8} {n k : Nat} (h : textB op = true) (hf : formB op kind name n k = true) : n = 1:=by
  have ho : op = 9∨op = 10∨op = 11:=by unfold textB at h; simpa using h
  unfold formB tstB at hf
  rcases ho with rfl | rfl | rfl <;> (simp at hf; omega)
theorem one_of {l : List VD} (h : l.length = 1) : ∃ v,l = [v]:=List.length_eq_one_iff.1 h
structure PW (g : Nat) (m : Mem) (A : Array Value) (w wr : World) : Prop where
  low : Below w.heap.size w wr
  own : Own wr g A 31
  sub : Sub m wr.cell?
  tab : Tabs wr
  spc : SpaceTab wr
theorem PW.below {g : Nat} {m : Mem} {A : Array Value} {w wr u : World} (h : PW g m A w wr) (hb : Below wr.heap.size wr u) : PW g m A w u :=
  ⟨h.low.trans (hb.mono h.low.size),h.own.below hb h.own.lt,h.sub.trans (sub_of_below hb),h.tab.below hb,(show SpaceTab u from var_below hb h.spc)⟩
set_option maxRecDepth 100000 in
set_option maxHeartbeats 8000000 in
theorem part_any (op : Int) (kind name : ByteArray) (vals : List VD) (kids : List ED) (va ka : Option Addr) (vn vc kn kc : Nat) (rows : List (List Value)) (m : Mem)
    (hv : RowsAt m 4 (.slice va vn vc) (vals.map VD.row)) (hk : RowsAt m 5 (.slice ka kn kc) rows) (hl : rows.length = kids.length) (hL : ∀ v∈vals,LAt m v)
    (hE : ∀ (i : Nat) (r : List Value) (k : ED),rows[i]? = some r→kids[i]? = some k→EAt m k r)
    (d : Nat) (w : World) (hs : Sub m w.cell?) (hT : Tabs w) (hsp : SpaceTab w) :
    Calls Tryz.prog 111 #[.agg #[.int .i64 op,.string kind,.string name,.slice va vn vc,.slice ka kn kc],.int .i64 d] w
      fun e w'=>e = .returned (.int .i64 (if 10≤d then 18 else partS op kind.data.toList name.data.toList (vals.map vv) (kids.map opE)))∧Below w.heap.size w w':=by
  have hvn : vn = vals.length:=by have:=(len_of hv).1; simpa using this
  have hkn : kn = kids.length:=by have:=(len_of hk).1; omega
  subst hvn; subst hkn
  have hvm : vals.length≤maxLen:=by have:=(len_of hv).2; unfold maxLen; simpa using this
  have hkm : kids.length≤maxLen:=by have:=(len_of hk).2; unfold maxLen; omega
  have hbw : Below w.heap.size w (w.alloc (.cells #[.int .i64 op,.string kind,.string name,.slice va vals.length vc,.slice ka kids.length kc] 31)):=(Below.refl _ _).alloc (Nat.le_refl _) _
  have hP : PW w.heap.size m #[.int .i64 op,.string kind,.string name,.slice va vals.length vc,.slice ka kids.length kc] w (w.alloc (.cells #[.int .i64 op,.string kind,.string name,.slice va vals.length vc,.slice ka kids.length kc] 31)) :=
    ⟨hbw,Own.new w _ _,hs.trans (sub_of_below hbw),hT.below hbw,(show SpaceTab _ from var_below hbw hsp)⟩
  replace hP:=Lib.hid hP
  replace hv:=Lib.hid hv
  replace hk:=Lib.hid hk
  replace hE:=Lib.hid hE
  replace hL:=Lib.hid hL
  replace hl:=Lib.hid hl
  replace hvm:=Lib.hid hvm
  replace hkm:=Lib.hid hkm
  clear hbw hs hT hsp
  by_cases hd : 10≤d
  · rw [if_pos hd]
    have hdi : (10 : Int)≤(d : Int):=by omega
    clear hd
    go_enter Tryz.func111,Tryz.ntmps111
    go_wp2
    go_ret
    exact ⟨rfl,hP.out.low⟩
  rw [if_neg hd]
  have hdi : ¬ (10 : Int)≤(d : Int):=by omega
  clear hd
  generalize hX : partS op kind.data.toList name.data.toList (vals.map vv) (kids.map opE) = X
  go_enter Tryz.func111,Tryz.ntmps111
  by_cases h1 : op < 1
  · have hQ:=Lib.hid (show (7 : Int) = X by rw [← hX]; unfold partS; rw [if_pos (Or.inl h1)])
    clear hX
    go_wp2
    go_ret
    exact ⟨text.ret_int hQ.out,hP.out.low⟩
  by_cases h15 : 15 < op
  · have hQ:=Lib.hid (show (7 : Int) = X by rw [← hX]; unfold partS; rw [if_pos (Or.inr h15)])
    clear hX
    go_wp2
    go_ret
    exact ⟨text.ret_int hQ.out,hP.out.low⟩
  have hR : partS op kind.data.toList name.data.toList (vals.map vv) (kids.map opE) = if formB op kind.data.toList name.data.toList vals.length kids.length = false then 15
      else if 12 < kids.length∨20 < vals.length then 5
      else if (op = 2∨op = 3)∧(kids.map opE).any (fun k=>k == op) = true then 15
      else if (tstB op && !keyS kind.data.toList || (tstB op || decide (op = 5)) && !keyS name.data.toList) = true then 6
      else if valsE (vals.map vv) ≠ 0 then valsE (vals.map vv)
      else if textB op = true∧headK (vals.map vv) ≠ 3 then 8
      else 0:=by
    unfold partS
    rw [if_neg (by omega),List.length_map,List.length_map]
  rw [hR] at hX
  clear hR
  replace hX:=Lib.hid hX
  go_wp2_with fail
  generalize w.alloc (.cells #[.int .i64 op,.string kind,.string name,.slice va vals.length vc,.slice ka kids.length kc] 31) = w1 at hP ⊢
  refine (form_any op (by omega) (by omega) kind name va _ vc ka _ kc _).mono ?_
  rintro e w' ⟨rfl,hb⟩
  replace hP:=Lib.hid (hP.out.below hb)
  clear hb
  obtain ⟨q0,q1,q2,q3,q4,-⟩:=own5z hP.out.own
  cases hf : formB op kind.data.toList name.data.toList vals.length kids.length with
  | false =>
    have hQ:=Lib.hid (show (15 : Int) = X by rw [← hX.out,if_pos hf])
    go_wp2
    go_ret
    exact ⟨text.ret_int hQ.out,hP.out.low⟩
  | true =>
  replace hX:=Lib.hid (drop_if (by rw [hf]; decide) hX.out)
  by_cases hz : 12 < kids.length∨20 < vals.length
  · have hQ:=Lib.hid (show (5 : Int) = X by rw [← hX.out,if_pos hz])
    by_cases h12 : 12 < kids.length
    · have hi : (12 : Int) < (kids.length : Int):=by omega
      go_wp2
      go_ret
      exact ⟨text.ret_int hQ.out,hP.out.low⟩
    · have hi : ¬ (12 : Int) < (kids.length : Int):=by omega
      have hi2 : (20 : Int) < (vals.length : Int):=by omega
      go_wp2
      go_ret
      exact ⟨text.ret_int hQ.out,hP.out.low⟩
  have hi : ¬ (12 : Int) < (kids.length : Int):=by omega
  have hi2 : ¬ (20 : Int) < (vals.length : Int):=by omega
  replace hX:=Lib.hid (drop_if hz hX.out)
  clear hz
  go_wp2
  replace hf:=Lib.hid hf
  clear hi hi2
  go_loopw [37] (fun i wr=>∃ k : Nat,k≤kids.length∧i = .int .i64 k∧Hid (PW w.heap.size m #[.int .i64 op,.string kind,.string name,.slice va vals.length vc,.slice ka kids.length kc] w wr)∧Hid (∀ j,(hj : j < kids.length)→j < k→¬ (opE kids[j] = op∧(op = 2∨op = 3)))) (fun i _=>kids.length - (intOf i).toNat)
  case atStart=>exact ⟨0,Nat.zero_le _,rfl,hP,Lib.hid (fun j _ h=>absurd h (Nat.not_lt_zero _))⟩
  case round =>
    clear q0 q1 q2 q3 q4 hP
    obtain ⟨k,hk1,rfl,hPr,hN⟩:=hrel
    obtain ⟨q0,q1,q2,q3,q4,-⟩:=own5z hPr.out.own
    by_cases hlt : k < kids.length
    case pos =>
      obtain ⟨a0,c0,e1,-,-,h4⟩:=hk.out
      injection e1 with e1 e2 e3
      subst e1; subst e3; clear e2
      rcases h4 with he | ⟨blk,off,rfl,hc⟩
      · have:=hl.out
        rw [he] at this
        simp only [List.length_nil] at this
        omega
      obtain ⟨kind1,name1,va1,vn1,vc1,ka1,kn1,kc1,c0,c1,c2,c3,c4⟩:=kid_parts hc hl.out hE.out hlt
      clear hc
      have c0:=hPr.out.sub _ _ c0
      have c1:=hPr.out.sub _ _ c1
      have c2:=hPr.out.sub _ _ c2
      have c3:=hPr.out.sub _ _ c3
      have c4:=hPr.out.sub _ _ c4
      have n0 : (0 : Int)≤(k : Int):=by omega
      have n1 : (k : Int) < (kids.length : Int):=by omega
      have hH:=Lib.hid (fun h : opE kids[k] = op=>any_hit hlt h)
      have hNx:=Lib.hid (fun (h : ¬ (opE kids[k] = op∧(op = 2∨op = 3)))=>none_next hlt hN.out h)
      generalize opE kids[k] = o1 at c0 hH hNx
      have hbx : Below wr.heap.size wr (wr.alloc (.cells #[.int .i64 o1,.string kind1,.string name1,.slice va1 vn1 vc1,.slice ka1 kn1 kc1] 31)):=(Below.refl _ _).alloc (Nat.le_refl _) _
      have hPx:=Lib.hid (hPr.out.below hbx)
      have hbo:=Lib.hid (Own.new wr #[.int .i64 o1,.string kind1,.string name1,.slice va1 vn1 vc1,.slice ka1 kn1 kc1] 31)
      clear hbx hN
      go_upto_region 12 with fail
      generalize wr.alloc (.cells #[.int .i64 o1,.string kind1,.string name1,.slice va1 vn1 vc1,.slice ka1 kn1 kc1] 31) = w5 at hPx hbo ⊢
      clear q0 q1 q2 q3 q4 c0 c1 c2 c3 c4
      obtain ⟨q0,q1,q2,q3,q4,-⟩:=own5z hPx.out.own
      obtain ⟨c0,-⟩:=own5z hbo.out
      generalize hy : (decide (o1 = op) && (decide (op = 2) || decide (op = 3))) = y
      go_cut [55] (fun s55 wy=>s55 = .bool y∧wy = w5)
      case first =>
        by_cases ho : o1 = op
        · have bo : (o1 == op) = true:=by simpa using ho
          by_cases h2 : op = 2
          · have b2 : (op == 2) = true:=by simpa using h2
            have hy2:=Lib.hid (show true = y by rw [← hy,decide_eq_true ho,decide_eq_true h2]; rfl)
            clear ho h2 hy
            go_wp2
            go_meet
            exact ⟨congrArg Value.bool hy2.out,rfl⟩
          · have b2 : (op == 2) = false:=by simpa using h2
            have hy2:=Lib.hid (show (op == 3) = y by rw [← hy,decide_eq_true ho,decide_eq_false h2]; rfl)
            clear ho h2 hy
            go_wp2
            go_meet
            exact ⟨congrArg Value.bool hy2.out,rfl⟩
        · have bo : (o1 == op) = false:=by simpa using ho
          have hy2:=Lib.hid (show false = y by rw [← hy,decide_eq_false ho]; rfl)
          clear ho hy
          go_wp2
          go_meet
          exact ⟨congrArg Value.bool hy2.out,rfl⟩
      case rest =>
      obtain ⟨rfl,hwc⟩:=hcut
      replace hwc:=hwc.symm
      subst hwc
      cases y with
      | true =>
        have hyy : o1 = op∧(op = 2∨op = 3):=by simpa using hy
        have hQ:=Lib.hid (show (15 : Int) = X by rw [← hX.out,if_pos ⟨hyy.2,hH.out hyy.1⟩])
        clear hyy hy
        go_wp2
        go_ret
        exact ⟨text.ret_int hQ.out,hPx.out.low⟩
      | false =>
        have hN2:=Lib.hid (hNx.out (by simpa using hy))
        clear hy
        go_wp2
        go_roundw
        case rel=>exact ⟨k + 1,by omega,by go_num,hPx,hN2⟩
        case measure=>simp [intOf]; omega
    have n1 : ¬ (k : Int) < (kids.length : Int):=by omega
    replace hX:=Lib.hid (drop_if (none_all hk1 hlt hN.out) hX.out)
    clear hk hE hN
    go_upto_region 15 with fail
    generalize hB : (tstB op && !keyS kind.data.toList || (tstB op || decide (op = 5)) && !keyS name.data.toList) = b at hX
    replace hB:=Lib.hid hB
    go_cut [81] (fun s81 wy=>s81 = .bool b∧Hid (PW w.heap.size m #[.int .i64 op,.string kind,.string name,.slice va vals.length vc,.slice ka kids.length kc] w wy))
    case first =>
      cases ht : tstB op with
      | true =>
        cases hkk : keyS kind.data.toList with
        | false =>
          have hBB:=Lib.hid (show true = b by rw [← hB.out,ht,hkk]; rfl)
          go_wp2_with fail
          refine (test_is op _).mono ?_
          rintro e wk ⟨rfl,hwk⟩
          replace hwk:=hwk.symm
          subst hwk
          rw [ht]
          go_wp2_with fail
          refine (key_any kind _ (show SpaceTab _ from hPr.out.spc)).mono ?_
          rintro e wk ⟨rfl,hbk⟩
          rw [hkk]
          replace hPr:=Lib.hid (hPr.out.below hbk)
          clear hbk q0 q1 q2 q3 q4
          obtain ⟨q0,q1,q2,q3,q4,-⟩:=own5z hPr.out.own
          go_wp2
          go_meet
          exact ⟨congrArg Value.bool hBB.out,hPr⟩
        | true =>
          cases hkn : keyS name.data.toList with
          | false =>
            have hBB:=Lib.hid (show true = b by rw [← hB.out,ht,hkk,hkn]; rfl)
            go_wp2_with fail
            refine (test_is op _).mono ?_
            rintro e wk ⟨rfl,hwk⟩
            replace hwk:=hwk.symm
            subst hwk
            rw [ht]
            go_wp2_with fail
            refine (key_any kind _ (show SpaceTab _ from hPr.out.spc)).mono ?_
            rintro e wk ⟨rfl,hbk⟩
            rw [hkk]
            replace hPr:=Lib.hid (hPr.out.below hbk)
            clear hbk q0 q1 q2 q3 q4
            obtain ⟨q0,q1,q2,q3,q4,-⟩:=own5z hPr.out.own
            go_wp2_with fail
            refine (test_is op _).mono ?_
            rintro e wk ⟨rfl,hwk⟩
            replace hwk:=hwk.symm
            subst hwk
            rw [ht]
            go_wp2_with fail
            refine (key_any name _ (show SpaceTab _ from hPr.out.spc)).mono ?_
            rintro e wk ⟨rfl,hbk⟩
            rw [hkn]
            replace hPr:=Lib.hid (hPr.out.below hbk)
            clear hbk q0 q1 q2 q3 q4
            obtain ⟨q0,q1,q2,q3,q4,-⟩:=own5z hPr.out.own
            go_wp2
            go_meet
            exact ⟨congrArg Value.bool hBB.out,hPr⟩
          | true =>
            have hBB:=Lib.hid (show false = b by rw [← hB.out,ht,hkk,hkn]; rfl)
            go_wp2_with fail
            refine (test_is op _).mono ?_
            rintro e wk ⟨rfl,hwk⟩
            replace hwk:=hwk.symm
            subst hwk
            rw [ht]
            go_wp2_with fail
            refine (key_any kind _ (show SpaceTab _ from hPr.out.spc)).mono ?_
            rintro e wk ⟨rfl,hbk⟩
            rw [hkk]
            replace hPr:=Lib.hid (hPr.out.below hbk)
            clear hbk q0 q1 q2 q3 q4
            obtain ⟨q0,q1,q2,q3,q4,-⟩:=own5z hPr.out.own
            go_wp2_with fail
            refine (test_is op _).mono ?_
            rintro e wk ⟨rfl,hwk⟩
            replace hwk:=hwk.symm
            subst hwk
            rw [ht]
            go_wp2_with fail
            refine (key_any name _ (show SpaceTab _ from hPr.out.spc)).mono ?_
            rintro e wk ⟨rfl,hbk⟩
            rw [hkn]
            replace hPr:=Lib.hid (hPr.out.below hbk)
            clear hbk q0 q1 q2 q3 q4
            obtain ⟨q0,q1,q2,q3,q4,-⟩:=own5z hPr.out.own
            go_wp2
            go_meet
            exact ⟨congrArg Value.bool hBB.out,hPr⟩
      | false =>
        by_cases h5 : op = 5
        · have b5 : (op == 5) = true:=by simpa using h5
          have d5 : decide (op = 5) = true:=by simpa using h5
          clear h5
          cases hkn : keyS name.data.toList with
          | false =>
            have hBB:=Lib.hid (show true = b by rw [← hB.out,ht,d5,hkn]; rfl)
            go_wp2_with fail
            refine (test_is op _).mono ?_
            rintro e wk ⟨rfl,hwk⟩
            replace hwk:=hwk.symm
            subst hwk
            rw [ht]
            go_wp2_with fail
            refine (test_is op _).mono ?_
            rintro e wk ⟨rfl,hwk⟩
            replace hwk:=hwk.symm
            subst hwk
            rw [ht]
            go_wp2_with fail
            refine (key_any name _ (show SpaceTab _ from hPr.out.spc)).mono ?_
            rintro e wk ⟨rfl,hbk⟩
            rw [hkn]
            replace hPr:=Lib.hid (hPr.out.below hbk)
            clear hbk q0 q1 q2 q3 q4
            obtain ⟨q0,q1,q2,q3,q4,-⟩:=own5z hPr.out.own
            go_wp2
            go_meet
            exact ⟨congrArg Value.bool hBB.out,hPr⟩
          | true =>
            have hBB:=Lib.hid (show false = b by rw [← hB.out,ht,d5,hkn]; rfl)
            go_wp2_with fail
            refine (test_is op _).mono ?_
            rintro e wk ⟨rfl,hwk⟩
            replace hwk:=hwk.symm
            subst hwk
            rw [ht]
            go_wp2_with fail
            refine (test_is op _).mono ?_
            rintro e wk ⟨rfl,hwk⟩
            replace hwk:=hwk.symm
            subst hwk
            rw [ht]
            go_wp2_with fail
            refine (key_any name _ (show SpaceTab _ from hPr.out.spc)).mono ?_
            rintro e wk ⟨rfl,hbk⟩
            rw [hkn]
            replace hPr:=Lib.hid (hPr.out.below hbk)
            clear hbk q0 q1 q2 q3 q4
            obtain ⟨q0,q1,q2,q3,q4,-⟩:=own5z hPr.out.own
            go_wp2
            go_meet
            exact ⟨congrArg Value.bool hBB.out,hPr⟩
        · have b5 : (op == 5) = false:=by simpa using h5
          have d5 : decide (op = 5) = false:=by simpa using h5
          clear h5
          have hBB:=Lib.hid (show false = b by rw [← hB.out,ht,d5]; rfl)
          go_wp2_with fail
          refine (test_is op _).mono ?_
          rintro e wk ⟨rfl,hwk⟩
          replace hwk:=hwk.symm
          subst hwk
          rw [ht]
          go_wp2_with fail
          refine (test_is op _).mono ?_
          rintro e wk ⟨rfl,hwk⟩
          replace hwk:=hwk.symm
          subst hwk
          rw [ht]
          go_wp2
          go_meet
          exact ⟨congrArg Value.bool hBB.out,hPr⟩
    case rest =>
    clear q0 q1 q2 q3 q4 hPr
    obtain ⟨rfl,hPr⟩:=hcut
    obtain ⟨q0,q1,q2,q3,q4,-⟩:=own5z hPr.out.own
    cases b with
    | true =>
      have hQ:=Lib.hid (show (6 : Int) = X by rw [← hX.out,if_pos rfl])
      go_wp2
      go_ret
      exact ⟨text.ret_int hQ.out,hPr.out.low⟩
    | false =>
    replace hX:=Lib.hid (drop_if (by decide) hX.out)
    clear hB
    go_wp2
    go_loopw [85] (fun i wr=>∃ k : Nat,k≤vals.length∧i = .int .i64 k∧Hid (PW w.heap.size m #[.int .i64 op,.string kind,.string name,.slice va vals.length vc,.slice ka kids.length kc] w wr)∧Hid (valsE ((vals.drop k).map vv) = valsE (vals.map vv))) (fun i _=>vals.length - (intOf i).toNat)
    case atStart=>exact ⟨0,Nat.zero_le _,rfl,hPr,Lib.hid rfl⟩
    case round =>
      clear q0 q1 q2 q3 q4 hPr
      obtain ⟨k,hk1,rfl,hPr,hV⟩:=hrel
      obtain ⟨q0,q1,q2,q3,q4,-⟩:=own5z hPr.out.own
      by_cases hlt : k < vals.length
      · obtain ⟨a0,c0,e1,-,-,h4⟩:=hv.out
        injection e1 with e1 e2 e3
        subst e1; subst e3; clear e2
        rcases h4 with he | ⟨blk,off,rfl,hc⟩
        · have : vals = []:=by simpa using he
          rw [this] at hlt; exact absurd hlt (by simp)
        obtain ⟨c0,c1,c2,c3⟩:=vd_cells hc hlt
        clear hc
        have c0:=hPr.out.sub _ _ c0
        have c1:=hPr.out.sub _ _ c1
        have c2:=hPr.out.sub _ _ c2
        have c3:=hPr.out.sub _ _ c3
        have hLv:=Lib.hid ((hL.out vals[k] (List.getElem_mem hlt)).mono hPr.out.sub)
        have hD:=Lib.hid (vals_step hlt hV.out)
        generalize vals[k] = v at c0 c1 c2 c3 hLv hD
        obtain ⟨v1,v2,v3,v4,v5,v6,v7⟩:=v
        simp only at c0 c1 c2 c3
        have n0 : (0 : Int)≤(k : Int):=by omega
        have n1 : (k : Int) < (vals.length : Int):=by omega
        have hbx : Below wr.heap.size wr (wr.alloc (.cells #[.int .i64 v1,.int .i64 v2,.string v3,.slice v4 v5 v6] 76)):=(Below.refl _ _).alloc (Nat.le_refl _) _
        have hPx:=Lib.hid (hPr.out.below hbx)
        have hLx:=Lib.hid (hLv.out.mono (sub_of_below hbx))
        clear hbx
        go_wp2_with fail
        refine (part_val ⟨v1,v2,v3,v4,v5,v6,v7⟩ _ hLx.out hPx.out.tab).mono ?_
        rintro e w' ⟨rfl,hb⟩
        have hPy:=Lib.hid (hPx.out.below hb)
        clear hb q0 q1 q2 q3 q4 c0 c1 c2 c3
        generalize hcs : checkS (vv ⟨v1,v2,v3,v4,v5,v6,v7⟩) = cs at hD ⊢
        by_cases he : cs = 0
        · have hD1:=Lib.hid (hD.out.2 he)
          subst he
          go_wp2
          go_roundw
          case rel=>exact ⟨k + 1,by omega,by go_num,hPy,hD1⟩
          case measure=>simp [intOf]; omega
        · have hQ:=Lib.hid (show cs = X by rw [← hX.out,hD.out.1 he,if_pos he])
          have hne : (cs != 0) = true:=by simpa using he
          clear hD he
          go_wp2
          go_ret
          exact ⟨text.ret_int hQ.out,hPy.out.low⟩
      · have hX2:=Lib.hid (vals_end hlt hV.out hX.out)
        have n1 : ¬ (k : Int) < (vals.length : Int):=by omega
        clear hV
        go_upto_region 24 with fail
        generalize hTx : textB op = tx
        go_cut [10] (fun s10 wy=>s10 = .bool tx∧wy = wr)
        case first =>
          by_cases h9 : op = 9
          · have t9 : (op == 9) = true:=by simpa using h9
            have hT2:=Lib.hid (show true = tx by rw [← hTx,h9]; rfl)
            clear hTx h9
            go_wp2
            go_meet
            exact ⟨congrArg Value.bool hT2.out,rfl⟩
          have t9 : (op == 9) = false:=by simpa using h9
          by_cases h10 : op = 10
          · have t10 : (op == 10) = true:=by simpa using h10
            have hT2:=Lib.hid (show true = tx by rw [← hTx,h10]; rfl)
            clear hTx h9 h10
            go_wp2
            go_meet
            exact ⟨congrArg Value.bool hT2.out,rfl⟩
          have t10 : (op == 10) = false:=by simpa using h10
          have hT2:=Lib.hid (show (op == 11) = tx by rw [← hTx]; unfold textB; rw [decide_eq_false h9,decide_eq_false h10]; rfl)
          clear hTx h9 h10
          go_wp2
          go_meet
          exact ⟨congrArg Value.bool hT2.out,rfl⟩
        case rest =>
        obtain ⟨rfl,hwc⟩:=hcut
        replace hwc:=hwc.symm
        subst hwc
        cases tx with
        | false =>
          have hQ:=Lib.hid (show (0 : Int) = X by rw [← hX2.out,if_neg (fun h=>by have:=h.1; rw [hTx] at this; cases this)])
          clear hTx
          go_wp2_with fail
          refine (when_any _ _ _).mono ?_
          rintro e w' ⟨rfl,hw'⟩
          replace hw':=hw'.symm
          subst hw'
          go_wp2
          go_ret
          exact ⟨text.ret_int hQ.out,hPr.out.low⟩
        | true =>
          obtain ⟨v,hv1⟩ : ∃ v,vals = [v]:=one_of (text_one hTx hf.out)
          obtain ⟨a0,c0,e1,-,-,h4⟩:=hv.out
          injection e1 with e1 e2 e3
          subst e1; subst e3; clear e2
          rcases h4 with he | ⟨blk,off,rfl,hc⟩
          · rw [hv1] at he; cases he
          obtain ⟨c0,-⟩:=vd_cells hc (show 0 < vals.length by rw [hv1]; simp)
          replace c0:=hPr.out.sub _ _ c0
          have hh : headK (vals.map vv) = (vals[0]'(by rw [hv1]; simp)).kind:=by subst hv1; rfl
          have n2 : (0 : Int) < (vals.length : Int):=by rw [hv1]; simp
          generalize (vals[0]'(by rw [hv1]; simp)).kind = k0 at c0 hh
          rw [hh] at hX2
          rw [Nat.zero_mul,Nat.add_zero] at c0
          clear hc hv1 hh
          by_cases h3 : k0 = 3
          · have hQ:=Lib.hid (show (0 : Int) = X by rw [← hX2.out,if_neg (fun h=>h.2 h3)])
            have hk3 : (k0 != 3) = false:=by simpa using h3
            clear h3 hTx
            go_wp2_with fail
            refine (when_any _ _ _).mono ?_
            rintro e w' ⟨rfl,hw'⟩
            replace hw':=hw'.symm
            subst hw'
            go_wp2
            go_ret
            exact ⟨text.ret_int hQ.out,hPr.out.low⟩
          · have hQ:=Lib.hid (show (8 : Int) = X by rw [← hX2.out,if_pos ⟨hTx,h3⟩])
            have hk3 : (k0 != 3) = true:=by simpa using h3
            clear h3 hTx
            go_wp2_with fail
            refine (when_any _ _ _).mono ?_
            rintro e w' ⟨rfl,hw'⟩
            replace hw':=hw'.symm
            subst hw'
            go_wp2
            go_ret
            exact ⟨text.ret_int hQ.out,hPr.out.low⟩
end Go.Proofs.YtfffpflflggonaaGreatDoor.src
