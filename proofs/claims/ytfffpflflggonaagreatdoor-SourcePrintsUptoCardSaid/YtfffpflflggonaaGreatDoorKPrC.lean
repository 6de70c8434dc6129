/- Printing a condition: the reference's show. -/
import Derived.Test.YtfffpflflggonaaGreatDoorKS36
import Derived.Test.YtfffpflflggonaaGreatDoorKS30
import Derived.Test.YtfffpflflggonaaGreatDoorKRfU
import Derived.Deep.CutBlock
namespace Go.Proofs.YtfffpflflggonaaGreatDoor.src
open Go.RowKit lex value text schema draw clause
theorem okl_at : ∀ {l : List ED} {k : Nat} (h : k < l.length),OkL (peL l)→OkE (pe l[k])
  | [],k,h,_=>absurd h (Nat.not_lt_zero _)
  | a :: r,0,_,hk=>by rw [peL,OkL] at hk; exact hk.1
  | a :: r,k + 1,h,hk=>by rw [peL,OkL] at hk; exact okl_at (Nat.lt_of_succ_lt_succ h) hk.2
theorem printR_app (o : Nat) (sep : List UInt8) : ∀ a b : List PE,printR o sep (a ++ b) = printR o sep a ++ printR o sep b
  | [],b=>by rw [printR]; rfl
  | x :: a,b=>by rw [List.cons_append,printR,printR,printR_app o sep a b,List.append_assoc,List.append_assoc]
theorem printL_app (o : Nat) (sep : List UInt8) {a : List PE} (b : List PE) (h : a ≠ []) : printL o sep (a ++ b) = printL o sep a ++ printR o sep b:=by
  cases a with
  | nil=>exact absurd rfl h
  | cons x a=>rw [List.cons_append,printL,printL,printR_app,List.append_assoc]
theorem printL_next (o : Nat) (sep : List UInt8) {F : List PE} {k : Nat} (hk : k < F.length) : printL o sep (F.take (k + 1)) = printL o sep (F.take k) ++ (if k = 0 then [] else sep) ++ parB o F[k].op (printE F[k]):=by
  rw [List.take_succ_eq_append_getElem hk]
  by_cases h0 : k = 0
  · subst h0
    rw [if_pos rfl,List.take_zero]
    show printL o sep [F[0]] = printL o sep [] ++ [] ++ _
    rw [printL,printL,printR,List.append_nil]; rfl
  · rw [if_neg h0,printL_app o sep _ (by intro e; have:=congrArg List.length e; simp only [List.length_take,List.length_nil] at this; omega),printR,printR,List.append_nil,List.append_assoc]
theorem printL_few (o : Nat) (sep : List UInt8) {F : List PE} {k : Nat} (_hk : k≤F.length) : (printL o sep (F.take k)).length≤(printL o sep F).length:=by
  by_cases h0 : F.take k = []
  · rw [h0,printL]; exact Nat.zero_le _
  · have:=printL_app o sep (F.drop k) h0
    rw [List.take_append_drop] at this
    rw [this,List.length_append]
    omega
theorem parB_len (o : Nat) (op : Int) (t : List UInt8) : t.length≤(parB o op t).length:=by
  unfold parB
  split
  · simp only [List.length_cons,List.length_append,List.length_nil]; omega
  · exact Nat.le_refl _
theorem peL_at {l : List ED} {k : Nat} (h : k < l.length) (h' : k < (peL l).length) : (peL l)[k] = pe l[k]:=by
  have:=peL_map l
  simp only [this,List.getElem_map]
theorem peL_len (l : List ED) : (peL l).length = l.length:=by rw [peL_map,List.length_map]
theorem form_one {kind name : List UInt8} {v k : Nat} (h : formB 4 kind name v k = true) : k = 1:=by
  unfold formB at h
  rw [if_neg (by decide),if_pos rfl] at h
  simp only [Bool.and_eq_true,decide_eq_true_eq] at h
  exact h.1
theorem words_op (op : Int) (h1 : 6≤op) (h2 : op≤15) (w : World) : Calls Tryz.prog 64 #[.int .i64 op] w fun e w'=>e = .returned (.string ⟨(wordOf op).toArray⟩)∧Below w.heap.size w w':=by
  obtain ⟨j,hj,rfl⟩ : ∃ j : Nat,j < 10∧op = 6 + (j : Int):=⟨(op - 6).toNat,by omega,by omega⟩
  exact words_ref j hj w
theorem word_few (op : Int) : (wordOf op).length≤10:=by
  unfold wordOf
  have h : ∀ n,(tests10.getD n []).length≤10:=by
    intro n
    rcases Nat.lt_or_ge n 10 with hn | hn
    · have : ∀ n < 10,(tests10.getD n []).length≤10:=by decide
      exact this n hn
    · rw [List.getD_eq_getElem?_getD,List.getElem?_eq_none (by show 10≤n; exact hn)]
      exact Nat.zero_le _
  exact h _
def ShowOk (f : FuncId) (m : Mem) (d : ED) (r : List Value) : Prop:=∀ (o : Nat) (w : World),Sub m w.cell?→Tabs w→SpaceTab w→OkE (pe d)→(printE (pe d)).length≤1000000000 →
  Calls Tryz.prog f #[.agg r.toArray,.int .i64 o] w fun e w'=>e = .returned (.string ⟨(parB o (pe d).op (printE (pe d))).toArray⟩)∧Below w.heap.size w w'
set_option maxRecDepth 100000 in
set_option maxHeartbeats 8000000 in
theorem show_step (m : Mem) (op : Int) (kind name : ByteArray) (vals : List VD) (kids : List ED) (vs ks : Value) (rows : List (List Value)) (hv : RowsAt m 4 vs (vals.map VD.row)) (hk : RowsAt m 5 ks rows) (hl : rows.length = kids.length) (hL : ∀ v∈vals,LAt m v)
    (hE : ∀ (i : Nat) (r : List Value) (k : ED),rows[i]? = some r→kids[i]? = some k→EAt m k r)
    (ih : ∀ (j : Nat) (r : List Value) (k : ED),rows[j]? = some r→kids[j]? = some k→ShowOk 34 m k r) :
    ShowOk 34 m (.mk op kind name vals kids) [.int .i64 op,.string kind,.string name,vs,ks]:=by
  intro o w hs hT hsp hok hlen
  obtain ⟨va,vn,vc,rfl⟩ : ∃ a n c,vs = .slice a n c:=by obtain ⟨a,c,e,-⟩:=hv; exact ⟨a,_,c,e⟩
  obtain ⟨ka,kn,kc,rfl⟩ : ∃ a n c,ks = .slice a n c:=by obtain ⟨a,c,e,-⟩:=hk; exact ⟨a,_,c,e⟩
  have hkn:=(len_of hk).1
  rw [hl] at hkn
  subst hkn
  have hkm:=(len_of hk).2
  rw [pe,OkE] at hok
  obtain ⟨hpart,hokl⟩:=hok
  have hP:=Lib.hid (part_ok hpart)
  obtain ⟨T,hTx⟩ : ∃ T,Hid (T = printE (pe (.mk op kind name vals kids))):=⟨_,Lib.hid rfl⟩
  rw [← hTx.out] at hlen ⊢
  rw [show (pe (.mk op kind name vals kids)).op = op by rw [pe]; rfl]
  rw [pe] at hTx
  have hB1 : Below w.heap.size w (w.alloc (.cells #[.int .i64 op,.string kind,.string name,.slice va vn vc,.slice ka kids.length kc] 31)):=(Below.refl _ _).alloc (Nat.le_refl _) _
  have hX1:=Own.new w #[.int .i64 op,.string kind,.string name,.slice va vn vc,.slice ka kids.length kc] 31
  have hPw:=Lib.hid (show PW w.heap.size m #[.int .i64 op,.string kind,.string name,.slice va vn vc,.slice ka kids.length kc] w (w.alloc (.cells #[.int .i64 op,.string kind,.string name,.slice va vn vc,.slice ka kids.length kc] 31)) from ⟨hB1,hX1,hs.trans (sub_of_below hB1),hT.below hB1,var_below hB1 hsp⟩)
  replace hlen:=Lib.hid hlen
  replace hokl:=Lib.hid hokl
  replace hl:=Lib.hid hl
  clear hB1 hX1 hs hT hsp hpart
  replace hv:=Lib.hid hv
  replace hk:=Lib.hid hk
  replace hL:=Lib.hid hL
  replace hE:=Lib.hid hE
  replace ih:=Lib.hid ih
  go_enter Tryz.func34,Tryz.ntmps34
  go_upto_region 1 with fail
  generalize w.alloc (.cells #[.int .i64 op,.string kind,.string name,.slice va vn vc,.slice ka kids.length kc] 31) = w1 at hPw ⊢
  obtain ⟨eb,heb⟩ : ∃ z : Nat,Hid (z = w.heap.size):=⟨_,Lib.hid rfl⟩
  rw [← heb.out] at hPw ⊢
  obtain ⟨x0,x1,x2,x3,x4,-⟩:=own5z hPw.out.own
  have hebl:=hPw.out.own.lt
  go_upto_block 0 with fail
  go_cut [5] (fun s5 wy=>∃ s : ByteArray,s5 = .string s∧Hid (s.data.toList = T)∧Hid (PW eb m #[.int .i64 op,.string kind,.string name,.slice va vn vc,.slice ka kids.length kc] w wy))
  case first =>
    by_cases h1 : op = 1
    · subst h1
      have hQ:=Lib.hid (show (⟨#[116,114,117,101]⟩ : ByteArray).data.toList = T by rw [hTx.out,printE,if_pos rfl]; rfl)
      go_wp2
      go_meet
      exact ⟨_,rfl,hQ,hPw⟩
    by_cases h5 : op = 5
    · subst h5
      have hQ0:=show (⟨#[109,101,109,98,101,114,32]⟩ ++ name : ByteArray).data.toList = T by rw [hTx.out,printE,if_neg (by decide),if_neg (by decide),if_neg (by decide),if_neg (by decide),if_pos rfl,cat_eq]
      have g1 : ¬ 9223372036854775807 < 7 + name.size:=by
        have h:=hlen.out
        rw [← hQ0,cat_eq,List.length_append,← size_eq name] at h
        omega
      replace hQ0:=Lib.hid hQ0
      go_wp2
      go_meet
      exact ⟨_,rfl,hQ0,hPw⟩
    have e1 : (op == 1) = false:=by simpa using h1
    have e5 : (op == 5) = false:=by simpa using h5
    by_cases h4 : op = 4
    · subst h4
      have hk1 : kids.length = 1:=by have:=form_one hP.out.form; unfold PE.ops at this; rw [List.length_map,peL_len] at this; exact this
      have hlt : 0 < kids.length:=by omega
      obtain ⟨blk,off,op1,kind1,name1,va1,vn1,vc1,ka1,kn1,kc1,rfl,c0,c1,c2,c3,c4,hr⟩:=kid_at (hk.out.mono hPw.out.sub) hl.out (fun j r k h1 h2=>hE.out j r k h1 h2) hlt
      have hQ0 : T = ([110,111,116,32] : List UInt8) ++ parB 3 (pe kids[0]).op (printE (pe kids[0])):=by
        rw [hTx.out,printE,if_neg (by decide),if_neg (by decide),if_neg (by decide),if_pos rfl]
        congr 1
        have h:=printL_next 3 [] (F:=peL kids) (k:=0) (by rw [peL_len]; exact hlt)
        rw [List.take_of_length_le (by rw [peL_len]; omega),if_pos rfl,List.take_zero,printL,peL_at hlt] at h
        exact h
      clear hk1
      have hln:=hlen.out
      rw [hQ0,List.length_append] at hln
      have hkl:=parB_len 3 (pe kids[0]).op (printE (pe kids[0]))
      have hcall:=Lib.hid (ih.out 0 _ kids[0] hr (List.getElem?_eq_getElem hlt) 3 w1 hPw.out.sub hPw.out.tab hPw.out.spc (okl_at hlt hokl.out) (by omega))
      have hbl : blk < w1.heap.size:=World.block_lt_of_cell? w1 _ c0
      generalize parB 3 (pe kids[0]).op (printE (pe kids[0])) = K at hQ0 hln hcall
      have hQ:=Lib.hid hQ0
      clear hQ0 hkl
      rw [Nat.zero_mul,Nat.add_zero] at c0 c1 c2 c3 c4
      have n1 : (0 : Int) < (kids.length : Int):=by omega
      go_wp2_with fail
      refine hcall.out.mono ?_
      rintro e w2 ⟨rfl,hb⟩
      have hP2:=Lib.hid (hPw.out.below hb)
      have g1 : ¬ 9223372036854775807 < 4 + (⟨K.toArray⟩ : ByteArray).size:=by rw [size_eq]; show ¬ 9223372036854775807 < 4 + K.length; simp only [List.length_cons,List.length_nil] at hln; omega
      have hS:=Lib.hid (show (⟨#[110,111,116,32]⟩ ++ ⟨K.toArray⟩ : ByteArray).data.toList = T by rw [cat_eq,hQ.out])
      clear hb c0 c1 c2 c3 c4 x0 x1 x2 x3 x4 hcall hln
      go_wp2
      go_meet
      exact ⟨_,rfl,hS,hP2⟩
    have e4 : (op == 4) = false:=by simpa using h4
    by_cases h2 : op = 2
    · subst h2
      have hQ0:=Lib.hid (show T = printL 2 [32,97,110,100,32] (peL kids) by rw [hTx.out,printE]; simp)
      go_wp2_with fail
      go_loopw [5,6] (fun v5 i wr=>∃ (k : Nat) (s : ByteArray),k≤kids.length∧v5 = .string s∧i = .int .i64 k∧Hid (s.data.toList = printL 2 [32,97,110,100,32] ((peL kids).take k))∧Hid (PW eb m #[.int .i64 2,.string kind,.string name,.slice va vn vc,.slice ka kids.length kc] w wr)) (fun _ i _=>kids.length - (intOf i).toNat)
      case atStart=>exact ⟨0,_,Nat.zero_le _,rfl,rfl,by rw [List.take_zero,printL]; rfl,hPw⟩
      case round =>
        clear x0 x1 x2 x3 x4 hPw hebl
        obtain ⟨k,s,hk1,rfl,rfl,hS,hPr⟩:=hrel
        obtain ⟨x0,x1,x2,x3,x4,-⟩:=own5z hPr.out.own
        have hebl:=hPr.out.own.lt
        by_cases hlt : k < kids.length
        case neg =>
          have hkk : k = kids.length:=by omega
          have hQ:=Lib.hid (show s.data.toList = T by rw [hS.out,hQ0.out,hkk,List.take_of_length_le (by rw [peL_len]; exact Nat.le_refl _)])
          have n1 : ¬ (k : Int) < (kids.length : Int):=by omega
          go_wp2
          go_meet
          exact ⟨_,rfl,hQ,hPr⟩
        obtain ⟨blk,off,op1,kind1,name1,va1,vn1,vc1,ka1,kn1,kc1,rfl,c0,c1,c2,c3,c4,hr⟩:=kid_at (hk.out.mono hPr.out.sub) hl.out (fun j r k h1 h2=>hE.out j r k h1 h2) hlt
        have hkF : k < (peL kids).length:=by rw [peL_len]; exact hlt
        have hnx:=printL_next 2 [32,97,110,100,32] hkF
        rw [peL_at hlt hkF] at hnx
        have hfw:=Nat.le_trans (printL_few 2 [32,97,110,100,32] (F:=peL kids) (k:=k + 1) (by omega)) (show (printL 2 [32,97,110,100,32] (peL kids)).length≤1000000000 by rw [← hQ0.out]; exact hlen.out)
        rw [hnx] at hfw
        simp only [List.length_append] at hfw
        have hsz : s.size = (printL 2 [32,97,110,100,32] ((peL kids).take k)).length:=by rw [size_eq,hS.out]
        have hkl:=parB_len 2 (pe kids[k]).op (printE (pe kids[k]))
        have hcall:=Lib.hid (fun (u : World) (hb : Beyond wr u)=>ih.out k _ kids[k] hr (List.getElem?_eq_getElem hlt) 2 u (hPr.out.sub.trans (sub_of_below hb)) (hPr.out.tab.below hb) (show SpaceTab u from var_below hb hPr.out.spc) (okl_at hlt hokl.out) (by omega))
        have hbd:=Lib.hid (fun (u : World)=>(show Calls Tryz.prog 63 #[.int .i64 2] u fun e u'=>e = .returned (.int .i64 2)∧Beyond u u' from (bind_ref 2 u).mono fun e u' h=>⟨by rw [h.1]; rfl,by rw [h.2]; exact Beyond.refl _⟩))
        generalize parB 2 (pe kids[k]).op (printE (pe kids[k])) = K at hnx hfw hcall
        have hKs : (⟨K.toArray⟩ : ByteArray).size = K.length:=by rw [size_eq]
        have hbl : blk < wr.heap.size:=World.block_lt_of_cell? wr _ c0
        have n0 : (0 : Int)≤(k : Int):=by omega
        have n1 : (k : Int) < (kids.length : Int):=by omega
        replace hnx:=Lib.hid hnx
        clear hkl
        have hKp : Hid (∀ u,Beyond wr u→u.cell? ⟨eb,0,none⟩ = some (.int .i64 2)∧u.cell? ⟨eb,4,none⟩ = some (.slice (some ⟨blk,off,none⟩) kids.length kc)∧u.cell? ⟨blk,off + k * 5,none⟩ = some (.int .i64 op1)∧u.cell? ⟨blk,off + k * 5 + 1,none⟩ = some (.string kind1)∧u.cell? ⟨blk,off + k * 5 + 2,none⟩ = some (.string name1)∧u.cell? ⟨blk,off + k * 5 + 3,none⟩ = some (.slice va1 vn1 vc1)∧u.cell? ⟨blk,off + k * 5 + 4,none⟩ = some (.slice ka1 kn1 kc1)) :=
          Lib.hid fun u hb=>⟨cell_later hb x0,cell_later hb x4,cell_later hb c0,cell_later hb c1,cell_later hb c2,cell_later hb c3,cell_later hb c4⟩
        have hy0:=Beyond.drew wr
        by_cases hk0 : k = 0
        · have hn0 : ¬ (0 : Int) < (k : Int):=by omega
          rw [if_pos hk0] at hfw
          simp only [List.length_nil] at hfw
          have g1 : ¬ 9223372036854775807 < s.size + K.length:=by omega
          have hS2:=Lib.hid (show (s ++ (⟨K.toArray⟩ : ByteArray)).data.toList = printL 2 [32,97,110,100,32] ((peL kids).take (k + 1)) by rw [hnx.out,if_pos hk0,cat_eq,hS.out,List.append_nil])
          clear hfw hk0 hsz hKs
          go_upto_region 23 with fail
          go_region_held3 (fun u=>u.cell? ⟨eb,0,none⟩ = some (.int .i64 2)∧u.cell? ⟨eb,4,none⟩ = some (.slice (some ⟨blk,off,none⟩) kids.length kc)∧u.cell? ⟨blk,off + k * 5,none⟩ = some (.int .i64 op1)∧u.cell? ⟨blk,off + k * 5 + 1,none⟩ = some (.string kind1)∧u.cell? ⟨blk,off + k * 5 + 2,none⟩ = some (.string name1)∧u.cell? ⟨blk,off + k * 5 + 3,none⟩ = some (.slice va1 vn1 vc1)∧u.cell? ⟨blk,off + k * 5 + 4,none⟩ = some (.slice ka1 kn1 kc1))
            (exact hKp.out _ (by assumption))
            ((first
              | (go_at_call 63; refine (hbd.out _).mono ?_; rintro e u1 ⟨rfl,hy⟩; have hz:=Beyond.next hy (by assumption))
              | (go_at_call 34; refine (hcall.out _ (by assumption)).mono ?_; rintro e u2 ⟨rfl,hy2⟩; have hz2:=Beyond.next hy2 (by assumption))))
          all_goals
            go_wp2
            go_roundw
            case rel=>exact ⟨k + 1,_,by omega,rfl,by go_num,hS2.out,hPr.out.below (by assumption)⟩
            case measure=>simp [intOf]; omega
        · have hn0 : (0 : Int) < (k : Int):=by omega
          rw [if_neg hk0] at hfw
          simp only [List.length_cons,List.length_nil] at hfw
          have g0 : ¬ 9223372036854775807 < s.size + 5:=by omega
          obtain ⟨s1,hs1⟩ : ∃ z : ByteArray,Hid (z = s ++ (⟨#[32,97,110,100,32]⟩ : ByteArray)):=⟨_,Lib.hid rfl⟩
          have hs1z : s1.size = s.size + 5:=by rw [hs1.out,ByteArray.size_append]; rfl
          have g1 : ¬ 9223372036854775807 < s1.size + K.length:=by omega
          have hS2:=Lib.hid (show (s1 ++ (⟨K.toArray⟩ : ByteArray)).data.toList = printL 2 [32,97,110,100,32] ((peL kids).take (k + 1)) by rw [hnx.out,if_neg hk0,cat_eq,hs1.out,cat_eq,hS.out])
          clear hfw hk0 hsz hKs hs1z
          go_upto_region 23 with fail
          rw [← hs1.out]
          go_region_held3 (fun u=>u.cell? ⟨eb,0,none⟩ = some (.int .i64 2)∧u.cell? ⟨eb,4,none⟩ = some (.slice (some ⟨blk,off,none⟩) kids.length kc)∧u.cell? ⟨blk,off + k * 5,none⟩ = some (.int .i64 op1)∧u.cell? ⟨blk,off + k * 5 + 1,none⟩ = some (.string kind1)∧u.cell? ⟨blk,off + k * 5 + 2,none⟩ = some (.string name1)∧u.cell? ⟨blk,off + k * 5 + 3,none⟩ = some (.slice va1 vn1 vc1)∧u.cell? ⟨blk,off + k * 5 + 4,none⟩ = some (.slice ka1 kn1 kc1))
            (exact hKp.out _ (by assumption))
            ((first
              | (go_at_call 63; refine (hbd.out _).mono ?_; rintro e u1 ⟨rfl,hy⟩; have hz:=Beyond.next hy (by assumption))
              | (go_at_call 34; refine (hcall.out _ (by assumption)).mono ?_; rintro e u2 ⟨rfl,hy2⟩; have hz2:=Beyond.next hy2 (by assumption))))
          all_goals
            go_wp2
            go_roundw
            case rel=>exact ⟨k + 1,_,by omega,rfl,by go_num,hS2.out,hPr.out.below (by assumption)⟩
            case measure=>simp [intOf]; omega
    have e2 : (op == 2) = false:=by simpa using h2
    by_cases h3 : op = 3
    · subst h3
      have hQ0:=Lib.hid (show T = printL 1 [32,111,114,32] (peL kids) by rw [hTx.out,printE]; simp)
      go_wp2_with fail
      go_loopw [5,6] (fun v5 i wr=>∃ (k : Nat) (s : ByteArray),k≤kids.length∧v5 = .string s∧i = .int .i64 k∧Hid (s.data.toList = printL 1 [32,111,114,32] ((peL kids).take k))∧Hid (PW eb m #[.int .i64 3,.string kind,.string name,.slice va vn vc,.slice ka kids.length kc] w wr)) (fun _ i _=>kids.length - (intOf i).toNat)
      case atStart=>exact ⟨0,_,Nat.zero_le _,rfl,rfl,by rw [List.take_zero,printL]; rfl,hPw⟩
      case round =>
        clear x0 x1 x2 x3 x4 hPw hebl
        obtain ⟨k,s,hk1,rfl,rfl,hS,hPr⟩:=hrel
        obtain ⟨x0,x1,x2,x3,x4,-⟩:=own5z hPr.out.own
        have hebl:=hPr.out.own.lt
        by_cases hlt : k < kids.length
        case neg =>
          have hkk : k = kids.length:=by omega
          have hQ:=Lib.hid (show s.data.toList = T by rw [hS.out,hQ0.out,hkk,List.take_of_length_le (by rw [peL_len]; exact Nat.le_refl _)])
          have n1 : ¬ (k : Int) < (kids.length : Int):=by omega
          go_wp2
          go_meet
          exact ⟨_,rfl,hQ,hPr⟩
        obtain ⟨blk,off,op1,kind1,name1,va1,vn1,vc1,ka1,kn1,kc1,rfl,c0,c1,c2,c3,c4,hr⟩:=kid_at (hk.out.mono hPr.out.sub) hl.out (fun j r k h1 h2=>hE.out j r k h1 h2) hlt
        have hkF : k < (peL kids).length:=by rw [peL_len]; exact hlt
        have hnx:=printL_next 1 [32,111,114,32] hkF
        rw [peL_at hlt hkF] at hnx
        have hfw:=Nat.le_trans (printL_few 1 [32,111,114,32] (F:=peL kids) (k:=k + 1) (by omega)) (show (printL 1 [32,111,114,32] (peL kids)).length≤1000000000 by rw [← hQ0.out]; exact hlen.out)
        rw [hnx] at hfw
        simp only [List.length_append] at hfw
        have hsz : s.size = (printL 1 [32,111,114,32] ((peL kids).take k)).length:=by rw [size_eq,hS.out]
        have hkl:=parB_len 1 (pe kids[k]).op (printE (pe kids[k]))
        have hcall:=Lib.hid (fun (u : World) (hb : Beyond wr u)=>ih.out k _ kids[k] hr (List.getElem?_eq_getElem hlt) 1 u (hPr.out.sub.trans (sub_of_below hb)) (hPr.out.tab.below hb) (show SpaceTab u from var_below hb hPr.out.spc) (okl_at hlt hokl.out) (by omega))
        have hbd:=Lib.hid (fun (u : World)=>(show Calls Tryz.prog 63 #[.int .i64 3] u fun e u'=>e = .returned (.int .i64 1)∧Beyond u u' from (bind_ref 3 u).mono fun e u' h=>⟨by rw [h.1]; rfl,by rw [h.2]; exact Beyond.refl _⟩))
        generalize parB 1 (pe kids[k]).op (printE (pe kids[k])) = K at hnx hfw hcall
        have hKs : (⟨K.toArray⟩ : ByteArray).size = K.length:=by rw [size_eq]
        have hbl : blk < wr.heap.size:=World.block_lt_of_cell? wr _ c0
        have n0 : (0 : Int)≤(k : Int):=by omega
        have n1 : (k : Int) < (kids.length : Int):=by omega
        replace hnx:=Lib.hid hnx
        clear hkl
        have hKp : Hid (∀ u,Beyond wr u→u.cell? ⟨eb,0,none⟩ = some (.int .i64 3)∧u.cell? ⟨eb,4,none⟩ = some (.slice (some ⟨blk,off,none⟩) kids.length kc)∧u.cell? ⟨blk,off + k * 5,none⟩ = some (.int .i64 op1)∧u.cell? ⟨blk,off + k * 5 + 1,none⟩ = some (.string kind1)∧u.cell? ⟨blk,off + k * 5 + 2,none⟩ = some (.string name1)∧u.cell? ⟨blk,off + k * 5 + 3,none⟩ = some (.slice va1 vn1 vc1)∧u.cell? ⟨blk,off + k * 5 + 4,none⟩ = some (.slice ka1 kn1 kc1)) :=
          Lib.hid fun u hb=>⟨cell_later hb x0,cell_later hb x4,cell_later hb c0,cell_later hb c1,cell_later hb c2,cell_later hb c3,cell_later hb c4⟩
        have hy0:=Beyond.drew wr
        by_cases hk0 : k = 0
        · have hn0 : ¬ (0 : Int) < (k : Int):=by omega
          rw [if_pos hk0] at hfw
          simp only [List.length_nil] at hfw
          have g1 : ¬ 9223372036854775807 < s.size + K.length:=by omega
          have hS2:=Lib.hid (show (s ++ (⟨K.toArray⟩ : ByteArray)).data.toList = printL 1 [32,111,114,32] ((peL kids).take (k + 1)) by rw [hnx.out,if_pos hk0,cat_eq,hS.out,List.append_nil])
          clear hfw hk0 hsz hKs
          go_upto_region 23 with fail
          go_region_held3 (fun u=>u.cell? ⟨eb,0,none⟩ = some (.int .i64 3)∧u.cell? ⟨eb,4,none⟩ = some (.slice (some ⟨blk,off,none⟩) kids.length kc)∧u.cell? ⟨blk,off + k * 5,none⟩ = some (.int .i64 op1)∧u.cell? ⟨blk,off + k * 5 + 1,none⟩ = some (.string kind1)∧u.cell? ⟨blk,off + k * 5 + 2,none⟩ = some (.string name1)∧u.cell? ⟨blk,off + k * 5 + 3,none⟩ = some (.slice va1 vn1 vc1)∧u.cell? ⟨blk,off + k * 5 + 4,none⟩ = some (.slice ka1 kn1 kc1))
            (exact hKp.out _ (by assumption))
            ((first
              | (go_at_call 63; refine (hbd.out _).mono ?_; rintro e u1 ⟨rfl,hy⟩; have hz:=Beyond.next hy (by assumption))
              | (go_at_call 34; refine (hcall.out _ (by assumption)).mono ?_; rintro e u2 ⟨rfl,hy2⟩; have hz2:=Beyond.next hy2 (by assumption))))
          all_goals
            go_wp2
            go_roundw
            case rel=>exact ⟨k + 1,_,by omega,rfl,by go_num,hS2.out,hPr.out.below (by assumption)⟩
            case measure=>simp [intOf]; omega
        · have hn0 : (0 : Int) < (k : Int):=by omega
          rw [if_neg hk0] at hfw
          simp only [List.length_cons,List.length_nil] at hfw
          have g0 : ¬ 9223372036854775807 < s.size + 4:=by omega
          obtain ⟨s1,hs1⟩ : ∃ z : ByteArray,Hid (z = s ++ (⟨#[32,111,114,32]⟩ : ByteArray)):=⟨_,Lib.hid rfl⟩
          have hs1z : s1.size = s.size + 4:=by rw [hs1.out,ByteArray.size_append]; rfl
          have g1 : ¬ 9223372036854775807 < s1.size + K.length:=by omega
          have hS2:=Lib.hid (show (s1 ++ (⟨K.toArray⟩ : ByteArray)).data.toList = printL 1 [32,111,114,32] ((peL kids).take (k + 1)) by rw [hnx.out,if_neg hk0,cat_eq,hs1.out,cat_eq,hS.out])
          clear hfw hk0 hsz hKs hs1z
          go_upto_region 23 with fail
          rw [← hs1.out]
          go_region_held3 (fun u=>u.cell? ⟨eb,0,none⟩ = some (.int .i64 3)∧u.cell? ⟨eb,4,none⟩ = some (.slice (some ⟨blk,off,none⟩) kids.length kc)∧u.cell? ⟨blk,off + k * 5,none⟩ = some (.int .i64 op1)∧u.cell? ⟨blk,off + k * 5 + 1,none⟩ = some (.string kind1)∧u.cell? ⟨blk,off + k * 5 + 2,none⟩ = some (.string name1)∧u.cell? ⟨blk,off + k * 5 + 3,none⟩ = some (.slice va1 vn1 vc1)∧u.cell? ⟨blk,off + k * 5 + 4,none⟩ = some (.slice ka1 kn1 kc1))
            (exact hKp.out _ (by assumption))
            ((first
              | (go_at_call 63; refine (hbd.out _).mono ?_; rintro e u1 ⟨rfl,hy⟩; have hz:=Beyond.next hy (by assumption))
              | (go_at_call 34; refine (hcall.out _ (by assumption)).mono ?_; rintro e u2 ⟨rfl,hy2⟩; have hz2:=Beyond.next hy2 (by assumption))))
          all_goals
            go_wp2
            go_roundw
            case rel=>exact ⟨k + 1,_,by omega,rfl,by go_num,hS2.out,hPr.out.below (by assumption)⟩
            case measure=>simp [intOf]; omega
    have e3 : (op == 3) = false:=by simpa using h3
    have h6 : 6≤op:=by have:=hP.out.lo; omega
    have h15 : op≤15:=hP.out.hi
    obtain ⟨W,hW⟩ : ∃ W,Hid (W = wordOf op):=⟨_,Lib.hid rfl⟩
    have hWl : W.length≤10:=by rw [hW.out]; exact word_few op
    obtain ⟨V,hV⟩ : ∃ V,Hid (V = joinC ((vals.map vv).map value.formS)):=⟨_,Lib.hid rfl⟩
    have hT0 : T = kind.data.toList ++ ([46] ++ (name.data.toList ++ ([32] ++ (W ++ (if op = 6 then [] else if op = 8 then [32,91] ++ (V ++ [93]) else [32] ++ V))))):=by
      rw [hTx.out,printE,if_neg h1,if_neg h2,if_neg h3,if_neg h4,if_neg h5,hW.out,hV.out]; rfl
    have hln:=hlen.out
    rw [hT0] at hln
    simp only [List.length_append,List.length_cons,List.length_nil,← size_eq] at hln
    have hcw:=Lib.hid (fun (u : World)=>(show Calls Tryz.prog 64 #[.int .i64 op] u fun e u'=>e = .returned (.string ⟨W.toArray⟩)∧Beyond u u' from (words_op op h6 h15 u).mono fun e u' h=>⟨by rw [h.1,hW.out],h.2⟩))
    obtain ⟨s0,hs0⟩ : ∃ z : ByteArray,Hid (z = kind ++ (⟨#[46]⟩ : ByteArray) ++ name ++ (⟨#[32]⟩ : ByteArray)):=⟨_,Lib.hid rfl⟩
    have g1 : ¬ 9223372036854775807 < kind.size + 1:=by omega
    have g2 : ¬ 9223372036854775807 < kind.size + 1 + name.size:=by omega
    have g3 : ¬ 9223372036854775807 < kind.size + 1 + name.size + 1:=by omega
    have g4 : ¬ 9223372036854775807 < kind.size + 1 + name.size + 1 + W.length:=by omega
    have hKp : Hid (∀ u,Beyond w1 u→u.cell? ⟨eb,0,none⟩ = some (.int .i64 op)∧u.cell? ⟨eb,1,none⟩ = some (.string kind)∧u.cell? ⟨eb,2,none⟩ = some (.string name)) :=
      Lib.hid fun u hb=>⟨cell_later hb x0,cell_later hb x1,cell_later hb x2⟩
    have hy0:=Beyond.drew w1
    replace hln:=Lib.hid hln
    replace hT0:=Lib.hid hT0
    go_upto_region 3 with fail
    go_cut [5] (fun s5 wy=>s5 = .string (kind ++ (⟨#[46]⟩ : ByteArray) ++ name ++ (⟨#[32]⟩ : ByteArray) ++ ⟨W.toArray⟩)∧Hid (Beyond w1 wy))
    case first =>
      go_region_held3 (fun u=>u.cell? ⟨eb,0,none⟩ = some (.int .i64 op)∧u.cell? ⟨eb,1,none⟩ = some (.string kind)∧u.cell? ⟨eb,2,none⟩ = some (.string name))
        (exact hKp.out _ (by assumption))
        ((go_at_call 64; refine (hcw.out _).mono ?_; rintro e u1 ⟨rfl,hy⟩; have hz:=Beyond.next hy (by assumption)))
      all_goals
        go_wp2
        go_meet
        exact ⟨rfl,Lib.hid (by assumption)⟩
    case rest =>
    obtain ⟨rfl,hB⟩:=hcut
    have hP2:=Lib.hid (hPw.out.below hB.out)
    clear x0 x1 x2 x3 x4 hPw hebl hy0 hKp hcw g1 g2 g3 g4 hB
    obtain ⟨x0,x1,x2,x3,x4,-⟩:=own5z hP2.out.own
    have hebl:=hP2.out.own.lt
    obtain ⟨s1,hs1⟩ : ∃ z : ByteArray,Hid (z = kind ++ (⟨#[46]⟩ : ByteArray) ++ name ++ (⟨#[32]⟩ : ByteArray) ++ ⟨W.toArray⟩):=⟨_,Lib.hid rfl⟩
    rw [← hs1.out]
    have hsd:=Lib.hid (show s1.data.toList = kind.data.toList ++ [46] ++ name.data.toList ++ [32] ++ W by rw [hs1.out,cat_eq,cat_eq,cat_eq,cat_eq])
    have hsz : s1.size = kind.size + 1 + name.size + 1 + W.length:=by rw [size_eq,hsd.out]; simp only [List.length_append,List.length_cons,List.length_nil,← size_eq]
    by_cases h66 : op = 6
    · subst h66
      have hQ:=Lib.hid (show s1.data.toList = T by rw [hT0.out,hsd.out,if_pos rfl]; simp)
      go_wp2
      go_meet
      exact ⟨_,rfl,hQ,hP2⟩
    have e6 : (op == 6) = false:=by simpa using h66
    have ne6 : (op != 6) = true:=by simpa using h66
    have hTn:=hT0.out
    have hlnn:=hln.out
    rw [if_neg h66] at hTn hlnn
    by_cases h8 : op = 8
    · subst h8
      rw [if_pos rfl] at hTn hlnn
      simp only [List.length_append,List.length_cons,List.length_nil] at hlnn
      have hval:=Lib.hid (values_print m vals va vn vc hv.out hL.out hP.out.oks (by rw [← hV.out]; omega) wc hP2.out.sub hP2.out.tab)
      rw [← hV.out] at hval
      have g1 : ¬ 9223372036854775807 < 2 + V.length:=by omega
      have g2 : ¬ 9223372036854775807 < 2 + V.length + 1:=by omega
      have g3 : ¬ 9223372036854775807 < s1.size + (2 + V.length + 1):=by omega
      have hQ:=Lib.hid (show (s1 ++ ((⟨#[32,91]⟩ : ByteArray) ++ ⟨V.toArray⟩ ++ (⟨#[93]⟩ : ByteArray))).data.toList = T by rw [hTn,cat_eq,cat_eq,cat_eq,hsd.out]; simp)
      clear hTn hlnn hsz
      go_wp2_with fail
      refine hval.out.mono ?_
      rintro e w3 ⟨rfl,hb⟩
      have hP3:=Lib.hid (hP2.out.below hb)
      clear hb hval x0 x1 x2 x3 x4
      go_wp2
      go_meet
      exact ⟨_,rfl,hQ,hP3⟩
    · have e8 : (op == 8) = false:=by simpa using h8
      rw [if_neg h8] at hTn hlnn
      simp only [List.length_append,List.length_cons,List.length_nil] at hlnn
      have hval:=Lib.hid (values_print m vals va vn vc hv.out hL.out hP.out.oks (by rw [← hV.out]; omega) wc hP2.out.sub hP2.out.tab)
      rw [← hV.out] at hval
      have g1 : ¬ 9223372036854775807 < 1 + V.length:=by omega
      have g3 : ¬ 9223372036854775807 < s1.size + (1 + V.length):=by omega
      have hQ:=Lib.hid (show (s1 ++ ((⟨#[32]⟩ : ByteArray) ++ ⟨V.toArray⟩)).data.toList = T by rw [hTn,cat_eq,cat_eq,hsd.out]; simp)
      clear hTn hlnn hsz
      go_wp2_with fail
      refine hval.out.mono ?_
      rintro e w3 ⟨rfl,hb⟩
      have hP3:=Lib.hid (hP2.out.below hb)
      clear hb hval x0 x1 x2 x3 x4
      go_wp2
      go_meet
      exact ⟨_,rfl,hQ,hP3⟩
  case rest =>
    clear x0 x1 x2 x3 x4 hPw hebl
    obtain ⟨s,rfl,hS,hPr⟩:=hcut
    obtain ⟨x0,x1,x2,x3,x4,-⟩:=own5z hPr.out.own
    go_wp2_with fail
    refine (bind_ref op _).mono ?_
    rintro e wk ⟨rfl,hwk⟩
    subst hwk
    have hsz : s.size≤1000000000:=by rw [size_eq,hS.out]; exact hlen.out
    by_cases hb : bindN op < o
    · have hbi : (bindN op : Int) < (o : Int):=by omega
      have g1 : ¬ 9223372036854775807 < 1 + s.size:=by omega
      have g2 : ¬ 9223372036854775807 < 1 + s.size + 1:=by omega
      have hQ:=Lib.hid (show (⟨(parB o op T).toArray⟩ : ByteArray) = (⟨#[40]⟩ : ByteArray) ++ s ++ ⟨#[41]⟩ from to_str (by rw [cat_eq,cat_eq,hS.out,parB,if_pos hb]; simp))
      go_wp2
      go_ret
      exact ⟨by rw [hQ.out]; rfl,hPr.out.low⟩
    · have hbi : ¬ (bindN op : Int) < (o : Int):=by omega
      have hQ:=Lib.hid (show (⟨(parB o op T).toArray⟩ : ByteArray) = s from to_str (by rw [hS.out,parB,if_neg hb]))
      go_wp2
      go_ret
      exact ⟨by rw [hQ.out]; rfl,hPr.out.low⟩
theorem show_any (m : Mem) (d : ED) (r : List Value) (h : EAt m d r) : ShowOk 34 m d r:=by
  induction h with
  | mk rows hv hk hl hL hE ih=>exact show_step m _ _ _ _ _ _ _ rows hv hk hl hL hE ih
end Go.Proofs.YtfffpflflggonaaGreatDoor.src
