/- Printing a condition: the program's within and its literal. Printing a condition: the program's join of conditions. -/
import Derived.Test.YtfffpflflggonaaGreatDoorKS37
import Derived.Test.YtfffpflflggonaaGreatDoorKPrC
namespace Go.Proofs.YtfffpflflggonaaGreatDoor.src
open Go.RowKit lex value text schema draw clause
def ExprOk (m : Mem) (d : ED) (r : List Value) : Prop:=∀ (w : World),Sub m w.cell?→Tabs w→SpaceTab w→OkE (pe d)→(printE (pe d)).length≤1000000000 →
  Calls Tryz.prog 33 #[.agg r.toArray] w fun e w'=>e = .returned (.string ⟨(printE (pe d)).toArray⟩)∧Below w.heap.size w w'
def inO (op : Int) (ops : List Int) (t : List UInt8) : List UInt8:=if op∈ops then 40 :: (t ++ [41]) else t
set_option maxRecDepth 100000 in
set_option maxHeartbeats 8000000 in
theorem within_any (m : Mem) (d : ED) (op : Int) (kind name : ByteArray) (va ka : Option Addr) (vn vc kn kc : Nat) (hx : ExprOk m d [.int .i64 op,.string kind,.string name,.slice va vn vc,.slice ka kn kc])
    (ops : List Int) (ob oc : Nat) (w : World) (hs : Sub m w.cell?) (hT : Tabs w) (hsp : SpaceTab w) (hok : OkE (pe d)) (hlen : (printE (pe d)).length≤1000000000)
    (hO : ∀ j (h : j < ops.length),w.cell? ⟨ob,j,none⟩ = some (.int .i64 ops[j])) (hn : ops.length≤2) :
    Calls Tryz.prog 60 #[.agg #[.int .i64 op,.string kind,.string name,.slice va vn vc,.slice ka kn kc],.slice (some ⟨ob,0,none⟩) ops.length oc] w
      fun e w'=>e = .returned (.string ⟨(inO op ops (printE (pe d))).toArray⟩)∧Below w.heap.size w w':=by
  have hB1 : Below w.heap.size w (w.alloc (.cells #[.int .i64 op,.string kind,.string name,.slice va vn vc,.slice ka kn kc] 31)):=(Below.refl _ _).alloc (Nat.le_refl _) _
  have hX1:=Lib.hid (Own.new w #[.int .i64 op,.string kind,.string name,.slice va vn vc,.slice ka kn kc] 31)
  have hgo:=Lib.hid (hx _ (hs.trans (sub_of_below hB1)) (hT.below hB1) (show SpaceTab _ from var_below hB1 hsp) hok hlen)
  have hO1:=Lib.hid (fun j h=>sub_of_below hB1 _ _ (hO j h))
  generalize printE (pe d) = T at hgo hlen ⊢
  have hTs : (⟨T.toArray⟩ : ByteArray).size = T.length:=by rw [size_eq]
  replace hB1:=Lib.hid hB1
  clear hx hs hT hsp hok hO
  go_enter Tryz.func60,Tryz.ntmps60
  go_upto_region 1 with fail
  generalize w.alloc (.cells #[.int .i64 op,.string kind,.string name,.slice va vn vc,.slice ka kn kc] 31) = w1 at hB1 hX1 hgo hO1 ⊢
  obtain ⟨eb,heb⟩ : ∃ z : Nat,Hid (z = w.heap.size):=⟨_,Lib.hid rfl⟩
  rw [← heb.out] at hX1 ⊢
  obtain ⟨x0,x1,x2,x3,x4,-⟩:=own5z hX1.out
  have hebl:=hX1.out.lt
  go_wp2
  go_loopw [9] (fun i wr=>w1 = wr∧∃ k : Nat,k≤ops.length∧i = .int .i64 k∧Hid (∀ j (h : j < ops.length),j < k→ops[j] ≠ op)) (fun i _=>ops.length - (intOf i).toNat)
  case atStart=>exact ⟨rfl,0,Nat.zero_le _,rfl,Lib.hid (fun j _ h=>absurd h (Nat.not_lt_zero _))⟩
  case round =>
    obtain ⟨rfl,k,hk,rfl,hN⟩:=hrel
    by_cases hlt : k < ops.length
    case neg =>
      have hQ:=Lib.hid (show T = inO op ops T by
        unfold inO
        rw [if_neg]
        intro hm
        obtain ⟨j,hj,e⟩:=List.mem_iff_getElem.1 hm
        exact hN.out j hj (by omega) e)
      have n1 : ¬ (k : Int) < (ops.length : Int):=by omega
      go_wp2_with fail
      refine hgo.out.mono ?_
      rintro e w2 ⟨rfl,hb⟩
      have hB2:=Lib.hid (hB1.out.trans (hb.mono hB1.out.size))
      clear hb
      go_wp2
      go_ret
      exact ⟨by rw [← hQ.out]; rfl,hB2.out⟩
    have c0:=hO1.out k hlt
    have hNx:=Lib.hid (fun (h : ops[k] ≠ op)=>show ∀ j (h : j < ops.length),j < k + 1→ops[j] ≠ op from fun j hj hjk=>by
      by_cases e : j = k
      · subst e; exact h
      · exact hN.out j hj (by omega))
    have hIn:=Lib.hid (fun (h : ops[k] = op)=>show (40 :: (T ++ [41])) = inO op ops T by unfold inO; rw [if_pos (by rw [← h]; exact List.getElem_mem hlt)])
    generalize ops[k] = p at c0 hNx hIn
    have n0 : (0 : Int)≤(k : Int):=by omega
    have n1 : (k : Int) < (ops.length : Int):=by omega
    by_cases hp : p = op
    · have hQ:=Lib.hid (hIn.out hp)
      have bp : (op == p) = true:=by simpa using hp.symm
      have g1 : ¬ 9223372036854775807 < 1 + T.length:=by omega
      have g2 : ¬ 9223372036854775807 < 1 + T.length + 1:=by omega
      have hS:=Lib.hid (show (⟨(inO op ops T).toArray⟩ : ByteArray) = (⟨#[40]⟩ : ByteArray) ++ ⟨T.toArray⟩ ++ ⟨#[41]⟩ from to_str (by rw [cat_eq,cat_eq,← hQ.out]; simp))
      clear hp hTs
      go_wp2_with fail
      refine hgo.out.mono ?_
      rintro e w2 ⟨rfl,hb⟩
      have hB2:=Lib.hid (hB1.out.trans (hb.mono hB1.out.size))
      clear hb
      go_wp2
      go_ret
      exact ⟨by rw [hS.out]; rfl,hB2.out⟩
    · have hN2:=Lib.hid (hNx.out hp)
      have bp : (op == p) = false:=by simpa using fun e=>hp e.symm
      clear hTs
      go_wp2
      go_roundw
      case rel=>exact ⟨by first | rfl | trivial,k + 1,by omega,by go_num,hN2.out⟩
      case measure=>simp [intOf]; omega
set_option maxRecDepth 100000 in
set_option maxHeartbeats 4000000 in
theorem lit_any (m : Mem) (d : ED) (op : Int) (kind name : ByteArray) (va ka : Option Addr) (vn vc kn kc : Nat) (hx : ExprOk m d [.int .i64 op,.string kind,.string name,.slice va vn vc,.slice ka kn kc])
    (w : World) (hs : Sub m w.cell?) (hT : Tabs w) (hsp : SpaceTab w) (hok : OkE (pe d)) (hlen : (printE (pe d)).length≤1000000000) :
    Calls Tryz.prog 59 #[.agg #[.int .i64 op,.string kind,.string name,.slice va vn vc,.slice ka kn kc]] w
      fun e w'=>e = .returned (.string ⟨(inO op [3] (printE (pe d))).toArray⟩)∧Below w.heap.size w w':=by
  have hB1 : Below w.heap.size w (w.alloc (.cells #[.int .i64 op,.string kind,.string name,.slice va vn vc,.slice ka kn kc] 31)):=(Below.refl _ _).alloc (Nat.le_refl _) _
  have hX1:=Lib.hid (Own.new w #[.int .i64 op,.string kind,.string name,.slice va vn vc,.slice ka kn kc] 31)
  have hs1:=Lib.hid (hs.trans (sub_of_below hB1))
  have hT1:=Lib.hid (hT.below hB1)
  have hsp1:=Lib.hid (show SpaceTab _ from var_below hB1 hsp)
  replace hB1:=Lib.hid hB1
  clear hs hT hsp
  go_enter Tryz.func59,Tryz.ntmps59
  go_upto_region 1 with fail
  generalize w.alloc (.cells #[.int .i64 op,.string kind,.string name,.slice va vn vc,.slice ka kn kc] 31) = w1 at hB1 hX1 hs1 hT1 hsp1 ⊢
  obtain ⟨eb,heb⟩ : ∃ z : Nat,Hid (z = w.heap.size):=⟨_,Lib.hid rfl⟩
  rw [← heb.out] at hX1 ⊢
  obtain ⟨x0,x1,x2,x3,x4,-⟩:=own5z hX1.out
  have hebl:=hX1.out.lt
  have hb2:=(Below.refl w1.heap.size w1).alloc (Nat.le_refl _) (.cells #[.int .i64 3] 3)
  have hB2:=Lib.hid (hB1.out.trans (hb2.mono hB1.out.size))
  have hgo:=Lib.hid (within_any m d op kind name va ka vn vc kn kc hx [3] w1.heap.size 1 (w1.alloc (.cells #[.int .i64 3] 3)) (hs1.out.trans (sub_of_below hb2)) (hT1.out.below hb2) (var_below hb2 hsp1.out) hok hlen
    (fun j h=>by
      have hj : j = 0:=by simp at h; omega
      subst hj
      exact (Own.new w1 #[.int .i64 3] 3).cell 0) (by decide))
  clear hb2 hx
  go_wp2_with fail
  refine hgo.out.mono ?_
  rintro e w3 ⟨rfl,hb⟩
  have hB3:=Lib.hid (hB2.out.trans (hb.mono hB2.out.size))
  clear hb x0 x1 x2 x3 x4
  go_wp2
  go_ret
  exact ⟨rfl,hB3.out⟩
end Go.Proofs.YtfffpflflggonaaGreatDoor.src
namespace Go.Proofs.YtfffpflflggonaaGreatDoor.src
open Go.RowKit lex value text schema draw clause
theorem joinA_print : ∀ l : List PE,joinA (l.map fun k=>parB 2 k.op (printE k)) = printL 2 [32,97,110,100,32] l
  | []=>by rw [printL]; rfl
  | [a]=>by rw [printL,printR,List.append_nil]; rfl
  | a :: b :: r=>by
    have:=joinA_print (b :: r)
    rw [List.map_cons] at this
    rw [List.map_cons,List.map_cons,joinA,this]
    simp only [printL,printR]
    rfl
theorem joinA_of (ds : List ByteArray) (va : Option Addr) (n c : Nat) (w : World) (h : RowsAt w.cell? 1 (.slice va n c) (ds.map strRow)) (h2 : 2≤ds.length) (h20 : ds.length≤20) (hsz : (joinA (lsL ds)).length≤140737488355328) :
    Calls Tryz.prog 122 #[.slice va n c,.string ⟨#[32,97,110,100,32]⟩] w fun e w'=>e = .returned (.string ⟨(joinA (lsL ds)).toArray⟩)∧Below w.heap.size w w':=by
  obtain ⟨rfl,hc,blk,off,rfl,hL⟩:=strs_at h (by omega)
  have hb : blk < w.heap.size:=World.block_lt_of_cell? w _ (hL 0 (by omega))
  exact joinA_any blk off c ds w hL h2 hc hb h20 hsz
set_option maxRecDepth 100000 in
set_option maxHeartbeats 8000000 in
theorem kidsA_any (m : Mem) (kids : List ED) (rows : List (List Value)) (ka : Option Addr) (kn kc : Nat) (hk : RowsAt m 5 (.slice ka kn kc) rows) (hl : rows.length = kids.length)
    (hE : ∀ (i : Nat) (r : List Value) (k : ED),rows[i]? = some r→kids[i]? = some k→EAt m k r)
    (hcall : ∀ (k : Nat) (h : k < kids.length) (op : Int) (kind name : ByteArray) (va ka : Option Addr) (vn vc kn kc : Nat),rows[k]? = some [.int .i64 op,.string kind,.string name,.slice va vn vc,.slice ka kn kc]→∀ u : World,Sub m u.cell?→Tabs u→SpaceTab u →
      Calls Tryz.prog 59 #[.agg #[.int .i64 op,.string kind,.string name,.slice va vn vc,.slice ka kn kc]] u fun e w'=>e = .returned (.string ⟨(parB 2 (pe kids[k]).op (printE (pe kids[k]))).toArray⟩)∧Below u.heap.size u w')
    (h1 : 2≤kids.length) (h20 : kids.length≤12) (hlen : (printL 2 [32,97,110,100,32] (peL kids)).length≤1000000000) (w : World) (hs : Sub m w.cell?) (hT : Tabs w) (hsp : SpaceTab w) :
    Calls Tryz.prog 58 #[.slice ka kn kc,.string ⟨#[32,97,110,100,32]⟩,.func (.func 59) #[] #[]] w fun e w'=>e = .returned (.string ⟨(printL 2 [32,97,110,100,32] (peL kids)).toArray⟩)∧Below w.heap.size w w':=by
  have hn:=(len_of hk).1
  have hn2:=(len_of hk).2
  rw [hl] at hn
  subst hn
  obtain ⟨F,hF⟩ : ∃ F,Hid (F = (peL kids).map fun k=>parB 2 k.op (printE k)):=⟨_,Lib.hid rfl⟩
  rw [← joinA_print,← hF.out] at hlen ⊢
  have hFl : F.length = kids.length:=by rw [hF.out,List.length_map,peL_len]
  have hFk : ∀ k (h : k < kids.length) (h' : k < F.length),F[k] = parB 2 (pe kids[k]).op (printE (pe kids[k])):=by
    intro k h h'
    have e:=hF.out
    subst e
    rw [List.getElem_map,peL_at h]
  replace hFk:=Lib.hid hFk
  replace hFl:=Lib.hid hFl
  replace hk:=Lib.hid hk
  replace hl:=Lib.hid hl
  replace hE:=Lib.hid hE
  replace hcall:=Lib.hid hcall
  replace hlen:=Lib.hid hlen
  replace hT:=Lib.hid hT
  replace hsp:=Lib.hid hsp
  replace hs:=Lib.hid hs
  go_enter Tryz.func58,Tryz.ntmps58
  go_wp2
  go_loopw [7,12] (fun v7 i wr=>∃ (k : Nat) (ds : List ByteArray),k≤kids.length∧i = .int .i64 k∧Hid (lsL ds = F.take k)∧Hid (RO 9 1 w.heap.size v7 (ds.map strRow) wr)∧Hid (Below w.heap.size w wr)) (fun _ i _=>kids.length - (intOf i).toNat)
  case atStart=>exact ⟨0,[],Nat.zero_le _,rfl,rfl,ro_nil _ _ _ _,Below.refl _ _⟩
  case round =>
    obtain ⟨k,ds,hk1,rfl,hD,hR,hB⟩:=hrel
    obtain ⟨pa,pc,hp⟩:=ro_form hR.out (strRows_len ds)
    rw [List.length_map] at hp
    subst hp
    have hdk:=lsL_len (F:=F) (k:=k) (by rw [hFl.out]; exact hk1) hD.out
    by_cases hlt : k < kids.length
    case neg =>
      have hDF:=Lib.hid (show lsL ds = F by rw [hD.out,List.take_of_length_le (by rw [hFl.out]; omega)])
      have hgo:=Lib.hid (joinA_of ds pa ds.length pc wr (hR.out.rows (strRows_len ds)) (by omega) (by omega) (by rw [hDF.out]; have:=hlen.out; omega))
      rw [hDF.out] at hgo
      have n1 : ¬ (k : Int) < (kids.length : Int):=by omega
      clear hdk
      go_wp2_with fail
      refine hgo.out.mono ?_
      rintro e w2 ⟨rfl,hb⟩
      have hB2:=Lib.hid (hB.out.trans (hb.mono hB.out.size))
      clear hb
      go_wp2
      go_ret
      exact ⟨rfl,hB2.out⟩
    have hdl : ds.length≤20:=by omega
    have hm:=Lib.hid (hs.out.trans (sub_of_below hB.out))
    obtain ⟨blk,off,op1,kind1,name1,va1,vn1,vc1,ka1,kn1,kc1,rfl,c0,c1,c2,c3,c4,hr⟩:=kid_at (hk.out.mono hm.out) hl.out (fun j r k h1 h2=>hE.out j r k h1 h2) hlt
    have hkF : k < F.length:=by rw [hFl.out]; exact hlt
    have hgo:=Lib.hid (hcall.out k hlt op1 kind1 name1 va1 ka1 vn1 vc1 kn1 kc1 hr)
    rw [← hFk.out k hlt hkF] at hgo
    have n0 : (0 : Int)≤(k : Int):=by omega
    have n1 : (k : Int) < (kids.length : Int):=by omega
    have hbl : blk < wr.heap.size:=World.block_lt_of_cell? wr _ c0
    have hbx:=(Below.refl wr.heap.size wr).alloc (Nat.le_refl _) (.cells #[.int .i64 op1,.string kind1,.string name1,.slice va1 vn1 vc1,.slice ka1 kn1 kc1] 31)
    have hx:=Lib.hid (Own.new wr #[.int .i64 op1,.string kind1,.string name1,.slice va1 vn1 vc1,.slice ka1 kn1 kc1] 31)
    have hBx:=Lib.hid (hB.out.trans (hbx.mono hB.out.size))
    have hRx:=Lib.hid (hR.out.below hbx)
    clear hbx hdk hB hR hm hr
    go_upto_region 5 with fail
    generalize wr.alloc (.cells #[.int .i64 op1,.string kind1,.string name1,.slice va1 vn1 vc1,.slice ka1 kn1 kc1] 31) = w2 at hx hBx hRx ⊢
    obtain ⟨xb,hxb⟩ : ∃ z : Nat,Hid (z = wr.heap.size):=⟨_,Lib.hid rfl⟩
    rw [← hxb.out] at hx ⊢
    clear c0 c1 c2 c3 c4 hbl
    obtain ⟨x0,x1,x2,x3,x4,-⟩:=own5z hx.out
    have hxl:=hx.out.lt
    have hgu:=Lib.hid (hgo.out w2 (hs.out.trans (sub_of_below hBx.out)) (hT.out.below hBx.out) (var_below hBx.out hsp.out))
    obtain ⟨x',hx'⟩ : ∃ z : ByteArray,Hid (z = ⟨F[k].toArray⟩):=⟨_,Lib.hid rfl⟩
    rw [← hx'.out] at hgu
    have hD4:=Lib.hid (lsL_take hkF hD.out (x:=x') (by rw [hx'.out]))
    clear hgo
    go_wp2_with fail
    refine hgu.out.mono ?_
    rintro e w3 ⟨rfl,hb⟩
    have hB3:=hBx.out.trans (hb.mono hBx.out.size)
    have hbs:=(Below.refl w3.heap.size w3).alloc (Nat.le_refl _) (.cells #[.string x'] 9)
    have hz3 : w.heap.size≤w3.heap.size:=hB3.size
    have hR3:=Lib.hid ((hRx.out.below hb).below hbs)
    have hB4:=Lib.hid (hB3.trans (hbs.mono hz3))
    have hrow:=Lib.hid (lit_rows (sz:=1) (w:=w3.alloc (.cells #[.string x'] 9)) (g:=w3.heap.size) (cs:=[.string x']) (fun j=>by rw [(Own.new w3 #[.string x'] 9).cell j]; simp))
    clear hb hbs hB3 x0 x1 x2 x3 x4 hx hxl hBx hRx hD hgu
    go_wp2_with (at_builtin; refine wpList_append_str rfl _ _ rfl w.heap.size pa ds.length pc (ds.map strRow) rfl hR3.out (strRows_len ds) (by rw [List.length_map]) _ 1 1 [[.string x']] rfl hrow.out (by simp) (strRow_one x') (by omega) (by simp; omega) ?_; intro va' vc' w5 hR5 hn5 hg5 hat5; replace hR5:=Lib.hid hR5; replace hg5:=Lib.hid hg5; clear hn5 hat5)
    have hB5:=Lib.hid (hB4.out.trans (hR3.out.below_own hB4.out.size hg5.out))
    go_roundw
    case rel=>exact ⟨k + 1,ds ++ [x'],by omega,by go_num,hD4.out,by rw [List.map_append]; exact hR5,hB5.out⟩
    case measure=>simp [intOf]; omega
theorem joinO_print : ∀ l : List PE,joinO (l.map fun k=>parB 1 k.op (printE k)) = printL 1 [32,111,114,32] l
  | []=>by rw [printL]; rfl
  | [a]=>by rw [printL,printR,List.append_nil]; rfl
  | a :: b :: r=>by
    have:=joinO_print (b :: r)
    rw [List.map_cons] at this
    rw [List.map_cons,List.map_cons,joinO,this]
    simp only [printL,printR]
    rfl
theorem joinO_of (ds : List ByteArray) (va : Option Addr) (n c : Nat) (w : World) (h : RowsAt w.cell? 1 (.slice va n c) (ds.map strRow)) (h2 : 2≤ds.length) (h20 : ds.length≤20) (hsz : (joinO (lsL ds)).length≤140737488355328) :
    Calls Tryz.prog 122 #[.slice va n c,.string ⟨#[32,111,114,32]⟩] w fun e w'=>e = .returned (.string ⟨(joinO (lsL ds)).toArray⟩)∧Below w.heap.size w w':=by
  obtain ⟨rfl,hc,blk,off,rfl,hL⟩:=strs_at h (by omega)
  have hb : blk < w.heap.size:=World.block_lt_of_cell? w _ (hL 0 (by omega))
  exact joinO_any blk off c ds w hL h2 hc hb h20 hsz
set_option maxRecDepth 100000 in
set_option maxHeartbeats 8000000 in
theorem kidsO_any (m : Mem) (kids : List ED) (rows : List (List Value)) (ka : Option Addr) (kn kc : Nat) (hk : RowsAt m 5 (.slice ka kn kc) rows) (hl : rows.length = kids.length)
    (hE : ∀ (i : Nat) (r : List Value) (k : ED),rows[i]? = some r→kids[i]? = some k→EAt m k r)
    (hcall : ∀ (k : Nat) (h : k < kids.length) (op : Int) (kind name : ByteArray) (va ka : Option Addr) (vn vc kn kc : Nat),rows[k]? = some [.int .i64 op,.string kind,.string name,.slice va vn vc,.slice ka kn kc]→∀ u : World,Sub m u.cell?→Tabs u→SpaceTab u →
      Calls Tryz.prog 33 #[.agg #[.int .i64 op,.string kind,.string name,.slice va vn vc,.slice ka kn kc]] u fun e w'=>e = .returned (.string ⟨(parB 1 (pe kids[k]).op (printE (pe kids[k]))).toArray⟩)∧Below u.heap.size u w')
    (h1 : 2≤kids.length) (h20 : kids.length≤12) (hlen : (printL 1 [32,111,114,32] (peL kids)).length≤1000000000) (w : World) (hs : Sub m w.cell?) (hT : Tabs w) (hsp : SpaceTab w) :
    Calls Tryz.prog 58 #[.slice ka kn kc,.string ⟨#[32,111,114,32]⟩,.func (.func 33) #[] #[]] w fun e w'=>e = .returned (.string ⟨(printL 1 [32,111,114,32] (peL kids)).toArray⟩)∧Below w.heap.size w w':=by
  have hn:=(len_of hk).1
  have hn2:=(len_of hk).2
  rw [hl] at hn
  subst hn
  obtain ⟨F,hF⟩ : ∃ F,Hid (F = (peL kids).map fun k=>parB 1 k.op (printE k)):=⟨_,Lib.hid rfl⟩
  rw [← joinO_print,← hF.out] at hlen ⊢
  have hFl : F.length = kids.length:=by rw [hF.out,List.length_map,peL_len]
  have hFk : ∀ k (h : k < kids.length) (h' : k < F.length),F[k] = parB 1 (pe kids[k]).op (printE (pe kids[k])):=by
    intro k h h'
    have e:=hF.out
    subst e
    rw [List.getElem_map,peL_at h]
  replace hFk:=Lib.hid hFk
  replace hFl:=Lib.hid hFl
  replace hk:=Lib.hid hk
  replace hl:=Lib.hid hl
  replace hE:=Lib.hid hE
  replace hcall:=Lib.hid hcall
  replace hlen:=Lib.hid hlen
  replace hT:=Lib.hid hT
  replace hsp:=Lib.hid hsp
  replace hs:=Lib.hid hs
  go_enter Tryz.func58,Tryz.ntmps58
  go_wp2
  go_loopw [7,12] (fun v7 i wr=>∃ (k : Nat) (ds : List ByteArray),k≤kids.length∧i = .int .i64 k∧Hid (lsL ds = F.take k)∧Hid (RO 9 1 w.heap.size v7 (ds.map strRow) wr)∧Hid (Below w.heap.size w wr)) (fun _ i _=>kids.length - (intOf i).toNat)
  case atStart=>exact ⟨0,[],Nat.zero_le _,rfl,rfl,ro_nil _ _ _ _,Below.refl _ _⟩
  case round =>
    obtain ⟨k,ds,hk1,rfl,hD,hR,hB⟩:=hrel
    obtain ⟨pa,pc,hp⟩:=ro_form hR.out (strRows_len ds)
    rw [List.length_map] at hp
    subst hp
    have hdk:=lsL_len (F:=F) (k:=k) (by rw [hFl.out]; exact hk1) hD.out
    by_cases hlt : k < kids.length
    case neg =>
      have hDF:=Lib.hid (show lsL ds = F by rw [hD.out,List.take_of_length_le (by rw [hFl.out]; omega)])
      have hgo:=Lib.hid (joinO_of ds pa ds.length pc wr (hR.out.rows (strRows_len ds)) (by omega) (by omega) (by rw [hDF.out]; have:=hlen.out; omega))
      rw [hDF.out] at hgo
      have n1 : ¬ (k : Int) < (kids.length : Int):=by omega
      clear hdk
      go_wp2_with fail
      refine hgo.out.mono ?_
      rintro e w2 ⟨rfl,hb⟩
      have hB2:=Lib.hid (hB.out.trans (hb.mono hB.out.size))
      clear hb
      go_wp2
      go_ret
      exact ⟨rfl,hB2.out⟩
    have hdl : ds.length≤20:=by omega
    have hm:=Lib.hid (hs.out.trans (sub_of_below hB.out))
    obtain ⟨blk,off,op1,kind1,name1,va1,vn1,vc1,ka1,kn1,kc1,rfl,c0,c1,c2,c3,c4,hr⟩:=kid_at (hk.out.mono hm.out) hl.out (fun j r k h1 h2=>hE.out j r k h1 h2) hlt
    have hkF : k < F.length:=by rw [hFl.out]; exact hlt
    have hgo:=Lib.hid (hcall.out k hlt op1 kind1 name1 va1 ka1 vn1 vc1 kn1 kc1 hr)
    rw [← hFk.out k hlt hkF] at hgo
    have n0 : (0 : Int)≤(k : Int):=by omega
    have n1 : (k : Int) < (kids.length : Int):=by omega
    have hbl : blk < wr.heap.size:=World.block_lt_of_cell? wr _ c0
    have hbx:=(Below.refl wr.heap.size wr).alloc (Nat.le_refl _) (.cells #[.int .i64 op1,.string kind1,.string name1,.slice va1 vn1 vc1,.slice ka1 kn1 kc1] 31)
    have hx:=Lib.hid (Own.new wr #[.int .i64 op1,.string kind1,.string name1,.slice va1 vn1 vc1,.slice ka1 kn1 kc1] 31)
    have hBx:=Lib.hid (hB.out.trans (hbx.mono hB.out.size))
    have hRx:=Lib.hid (hR.out.below hbx)
    clear hbx hdk hB hR hm hr
    go_upto_region 5 with fail
    generalize wr.alloc (.cells #[.int .i64 op1,.string kind1,.string name1,.slice va1 vn1 vc1,.slice ka1 kn1 kc1] 31) = w2 at hx hBx hRx ⊢
    obtain ⟨xb,hxb⟩ : ∃ z : Nat,Hid (z = wr.heap.size):=⟨_,Lib.hid rfl⟩
    rw [← hxb.out] at hx ⊢
    clear c0 c1 c2 c3 c4 hbl
    obtain ⟨x0,x1,x2,x3,x4,-⟩:=own5z hx.out
    have hxl:=hx.out.lt
    have hgu:=Lib.hid (hgo.out w2 (hs.out.trans (sub_of_below hBx.out)) (hT.out.below hBx.out) (var_below hBx.out hsp.out))
    obtain ⟨x',hx'⟩ : ∃ z : ByteArray,Hid (z = ⟨F[k].toArray⟩):=⟨_,Lib.hid rfl⟩
    rw [← hx'.out] at hgu
    have hD4:=Lib.hid (lsL_take hkF hD.out (x:=x') (by rw [hx'.out]))
    clear hgo
    go_wp2_with fail
    refine hgu.out.mono ?_
    rintro e w3 ⟨rfl,hb⟩
    have hB3:=hBx.out.trans (hb.mono hBx.out.size)
    have hbs:=(Below.refl w3.heap.size w3).alloc (Nat.le_refl _) (.cells #[.string x'] 9)
    have hz3 : w.heap.size≤w3.heap.size:=hB3.size
    have hR3:=Lib.hid ((hRx.out.below hb).below hbs)
    have hB4:=Lib.hid (hB3.trans (hbs.mono hz3))
    have hrow:=Lib.hid (lit_rows (sz:=1) (w:=w3.alloc (.cells #[.string x'] 9)) (g:=w3.heap.size) (cs:=[.string x']) (fun j=>by rw [(Own.new w3 #[.string x'] 9).cell j]; simp))
    clear hb hbs hB3 x0 x1 x2 x3 x4 hx hxl hBx hRx hD hgu
    go_wp2_with (at_builtin; refine wpList_append_str rfl _ _ rfl w.heap.size pa ds.length pc (ds.map strRow) rfl hR3.out (strRows_len ds) (by rw [List.length_map]) _ 1 1 [[.string x']] rfl hrow.out (by simp) (strRow_one x') (by omega) (by simp; omega) ?_; intro va' vc' w5 hR5 hn5 hg5 hat5; replace hR5:=Lib.hid hR5; replace hg5:=Lib.hid hg5; clear hn5 hat5)
    have hB5:=Lib.hid (hB4.out.trans (hR3.out.below_own hB4.out.size hg5.out))
    go_roundw
    case rel=>exact ⟨k + 1,ds ++ [x'],by omega,by go_num,hD4.out,by rw [List.map_append]; exact hR5,hB5.out⟩
    case measure=>simp [intOf]; omega
end Go.Proofs.YtfffpflflggonaaGreatDoor.src
