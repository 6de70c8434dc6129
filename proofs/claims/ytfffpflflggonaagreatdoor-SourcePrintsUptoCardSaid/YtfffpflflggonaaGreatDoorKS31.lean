/- The reference's parser: parts are put together. Decimal numbers and versions of three numbers, said plainly. No program in sight. The tokens of a quoted text and of a number. No program in sight. The tokens of texts that are put together of words, signs, quoted texts, numbers and versions. No program in sight. Conditions within negations and parentheses, up to the limit of nesting. No program in sight. -/
import Derived.Test.YtfffpflflggonaaGreatDoorKSrH
import Derived.Test.YtfffpflflggonaaGreatDoorKS2
import Derived.Lib.ItoaNum
import Derived.Test.YtfffpflflggonaaGreatDoorKS3
import Derived.Test.YtfffpflflggonaaGreatDoorKS14
import Derived.Lib.ItoaLen
import Derived.Test.YtfffpflflggonaaGreatDoorKS10
import Derived.Test.YtfffpflflggonaaGreatDoorKSrS
namespace Go.Proofs.YtfffpflflggonaaGreatDoor.src
open Go.RowKit lex value text schema draw clause
def flatL (op : Int) (l : List PE) : List PE:=l.flatMap (flatE op)
def joinE (op : Int) : List PE→PE
  | [x]=>x
  | l=>.mk op [] [] [] (flatL op l)
theorem flat_step {op : Int} {l : List PE} {k : Nat} (h : k < l.length) : flatL op (l.take (k + 1)) = flatL op (l.take k) ++ flatE op l[k]:=by
  unfold flatL
  rw [List.take_succ_eq_append_getElem h,List.flatMap_append]
  simp
theorem flat_le {op : Int} {l : List PE} (k : Nat) : (flatL op (l.take k)).length≤(flatL op l).length:=by
  have : flatL op l = flatL op (l.take k) ++ flatL op (l.drop k):=by
    unfold flatL
    rw [← List.flatMap_append,List.take_append_drop]
  rw [this,List.length_append]
  omega
def JoinIs (m : Mem) (op : Int) (xs : List PE) (w : World) (e : Ending) (w' : World) : Prop:=Below w.heap.size w w'∧∃ r,e = .returned (.agg r.toArray)∧∀ N,Sub m N→Sub (nex w.heap.size [] w') N→ExAt N (joinE op xs) r
theorem kids_get {m : Mem} {xs : List PE} {rows : List (List Value)} {a : Option Addr} {n c : Nat} (hR : RowsAt m 5 (.slice a n c) rows) (hX : KidsAt m xs rows) {k : Nat} (hk : k < xs.length) :
    ∃ blk off op kd nm va vn vc ka kn kc,a = some ⟨blk,off,none⟩∧m ⟨blk,off + k * 5,none⟩ = some (.int .i64 op)∧m ⟨blk,off + k * 5 + 1,none⟩ = some (.string kd)∧m ⟨blk,off + k * 5 + 2,none⟩ = some (.string nm) ∧
      m ⟨blk,off + k * 5 + 3,none⟩ = some (.slice va vn vc)∧m ⟨blk,off + k * 5 + 4,none⟩ = some (.slice ka kn kc)∧ExAt m xs[k] [.int .i64 op,.string kd,.string nm,.slice va vn vc,.slice ka kn kc]:=by
  have hk' : k < rows.length:=by rw [hX.1]; exact hk
  have h1 : rows[k]? = some rows[k]:=List.getElem?_eq_getElem hk'
  have hE:=hX.2 k _ _ h1 (List.getElem?_eq_getElem hk)
  obtain ⟨op,kd,nm,vals,va,vn,vc,ka,kn,kc,rws,e,-⟩:=hE.parts
  rw [e] at h1 hE
  obtain ⟨a0,c0,e1,-,-,h4⟩:=hR
  injection e1 with e1 e2 e3
  subst e1; subst e3
  rcases h4 with h4 | ⟨blk,off,rfl,hc⟩
  · rw [h4] at hk'; exact absurd hk' (Nat.not_lt_zero _)
  have h:=hc k _ h1
  exact ⟨blk,off,op,kd,nm,va,vn,vc,ka,kn,kc,rfl,h 0 _ rfl,h 1 _ rfl,h 2 _ rfl,h 3 _ rfl,h 4 _ rfl,hE⟩
set_option maxRecDepth 100000 in
set_option maxHeartbeats 8000000 in
theorem join_any (op : Int) (xs : List PE) (rows : List (List Value)) (a : Option Addr) (c : Nat) (m : Mem) (w : World) (hR : RowsAt m 5 (.slice a xs.length c) rows) (hX : KidsAt m xs rows) (hs : Sub m w.cell?) (h1 : 1≤xs.length) (hn : xs.length≤30001) (hK : (flatL op xs).length≤4000000000) :
    Calls Tryz.prog 50 #[.int .i64 op,.slice a xs.length c] w (JoinIs m op xs w):=by
  have hz:=Lib.hid (Own.new w #[.int .i64 0,.string ⟨#[]⟩,.string ⟨#[]⟩,.slice none 0 0,.slice none 0 0] 31)
  have hB0:=Lib.hid ((Below.refl w.heap.size w).alloc (Nat.le_refl _) (.cells #[.int .i64 0,.string ⟨#[]⟩,.string ⟨#[]⟩,.slice none 0 0,.slice none 0 0] 31))
  have hs0:=Lib.hid (hs.trans (sub_of_below hB0.out))
  replace hR:=Lib.hid hR
  replace hX:=Lib.hid hX
  replace hs:=Lib.hid hs
  go_enter Tryz.func50,Tryz.ntmps50
  go_upto_region 1 with fail
  generalize w.alloc (.cells #[.int .i64 0,.string ⟨#[]⟩,.string ⟨#[]⟩,.slice none 0 0,.slice none 0 0] 31) = w0 at hz hB0 hs0 ⊢
  obtain ⟨gz,hgz⟩ : ∃ z : Nat,Hid (z = w.heap.size):=⟨_,Lib.hid rfl⟩
  rw [← hgz.out] at hz ⊢
  have hgz' : w.heap.size≤gz:=Nat.le_of_eq hgz.out.symm
  have hzl:=hz.out.lt
  by_cases hone : xs.length = 1
  · obtain ⟨blk,off,o1,kd,nm,va,vn,vc,ka,kn,kc,rfl,c0,c1,c2,c3,c4,hE⟩:=kids_get hR.out hX.out (k:=0) (by omega)
    have hx1 : joinE op xs = xs[0]'(by omega):=by
      obtain ⟨x,rfl⟩:=List.length_eq_one_iff.1 hone
      rfl
    simp only [Nat.zero_mul,Nat.add_zero] at c0 c1 c2 c3 c4
    replace c0:=hs0.out _ _ c0
    replace c1:=hs0.out _ _ c1
    replace c2:=hs0.out _ _ c2
    replace c3:=hs0.out _ _ c3
    replace c4:=hs0.out _ _ c4
    have hb1 : ((xs.length : Int) == 1) = true:=by rw [hone]; rfl
    have hn0 : (0 : Int) < (xs.length : Int):=by omega
    obtain ⟨z0,z1,z2,z3,z4,f0,f1,f2,f3,f4⟩:=own5z hz.out
    have hF:=Lib.hid (show JoinIs m op xs w (.returned (.agg #[.int .i64 o1,.string kd,.string nm,.slice va vn vc,.slice ka kn kc])) (((((w0.setCell ⟨gz,0,none⟩ (.int .i64 o1)).setCell ⟨gz,1,none⟩ (.string kd)).setCell ⟨gz,2,none⟩ (.string nm)).setCell ⟨gz,3,none⟩ (.slice va vn vc)).setCell ⟨gz,4,none⟩ (.slice ka kn kc)) from
      ⟨hB0.out.grown (grown5 w0 gz _ _ _ _ _) hB0.out.size (fun k e=>by cases e; exact hgz'),_,rfl,fun N h2 _=>by rw [hx1]; exact hE.mono h2⟩)
    clear hE hx1 hone
    go_wp2
    refine bodyPost_ret (v:=.agg #[.int .i64 o1,.string kd,.string nm,.slice va vn vc,.slice ka kn kc]) (by simp [results,Tryz.results50,go_sem, *]) rfl ?_
    exact hF.out
  have hb1 : ((xs.length : Int) == 1) = false:=beq_eq_false_iff_ne.2 (by omega)
  have hx1:=Lib.hid (show joinE op xs = .mk op [] [] [] (flatL op xs) from by
    match xs,hone with
    | [],_=>rfl
    | [x],h=>exact absurd rfl h
    | x :: y :: r,_=>rfl)
  clear hone
  have he1:=Lib.hid (Own.new w0 #[.int .i64 op,.string ⟨#[]⟩,.string ⟨#[]⟩,.slice none 0 0,.slice none 0 0] 31)
  have hz1:=Lib.hid (hz.out.alloc (.cells #[.int .i64 op,.string ⟨#[]⟩,.string ⟨#[]⟩,.slice none 0 0,.slice none 0 0] 31))
  have hB1:=Lib.hid (hB0.out.alloc hB0.out.size (.cells #[.int .i64 op,.string ⟨#[]⟩,.string ⟨#[]⟩,.slice none 0 0,.slice none 0 0] 31))
  clear hz hB0 hs0
  go_wp2_with fail
  generalize w0.alloc (.cells #[.int .i64 op,.string ⟨#[]⟩,.string ⟨#[]⟩,.slice none 0 0,.slice none 0 0] 31) = w1 at he1 hz1 hB1 ⊢
  obtain ⟨eb,heb⟩ : ∃ z : Nat,Hid (z = w0.heap.size):=⟨_,Lib.hid rfl⟩
  rw [← heb.out] at he1 hzl ⊢
  go_loopw [6] (fun s6 wr=>∃ (k : Nat) (rk : List (List Value)) (kva : Option Addr) (kvc : Nat),k≤xs.length∧s6 = .int .i64 k∧Hid (Own wr eb #[.int .i64 op,.string ⟨#[]⟩,.string ⟨#[]⟩,.slice none 0 0,.slice kva rk.length kvc] 31)∧Hid (Own wr gz #[.int .i64 0,.string ⟨#[]⟩,.string ⟨#[]⟩,.slice none 0 0,.slice none 0 0] 31) ∧
    Hid (RO 31 5 (eb + 1) (.slice kva rk.length kvc) rk wr)∧Hid (KidsAt m (flatL op (xs.take k)) rk)∧Hid (Below w.heap.size w wr)) (fun s6 _=>xs.length - (intOf s6).toNat)
  case atStart=>exact ⟨0,[],none,0,Nat.zero_le _,rfl,he1,hz1,Lib.hid (ro_nil _ _ _ _),Lib.hid (KidsAt.nil _),hB1⟩
  case round =>
    clear he1 hz1 hB1
    obtain ⟨k,rk,kva,kvc,hk1,rfl,he,hz,hRO,hA,hB⟩:=hrel
    obtain ⟨e0,e1,e2,e3,e4,-,-,-,-,ef4⟩:=own5z he.out
    have hel:=he.out.lt
    have h5:=Lib.hid hA.out.five
    have hal : (flatL op (xs.take k)).length = rk.length:=hA.out.1.symm
    have hfl:=flat_le (op:=op) (l:=xs) k
    by_cases hlt : k < xs.length
    case neg =>
      have n1 : ¬ (k : Int) < (xs.length : Int):=by omega
      have hk2 : xs.take k = xs:=List.take_of_length_le (by omega)
      rw [hk2] at hA
      obtain ⟨z0,z1,z2,z3,z4,f0,f1,f2,f3,f4⟩:=own5z hz.out
      have hzl':=hz.out.lt
      have hF:=Lib.hid (show JoinIs m op xs w (.returned (.agg #[.int .i64 op,.string ⟨#[]⟩,.string ⟨#[]⟩,.slice none 0 0,.slice kva rk.length kvc])) (((((wr.setCell ⟨gz,0,none⟩ (.int .i64 op)).setCell ⟨gz,1,none⟩ (.string ⟨#[]⟩)).setCell ⟨gz,2,none⟩ (.string ⟨#[]⟩)).setCell ⟨gz,3,none⟩ (.slice none 0 0)).setCell ⟨gz,4,none⟩ (.slice kva rk.length kvc)) from by
        refine ⟨hB.out.grown (grown5 wr gz _ _ _ _ _) hB.out.size (fun k e=>by cases e; exact hgz'),_,rfl,fun N h2 h3=>?_⟩
        rw [hx1.out]
        have hgr:=grown5 wr gz (.int .i64 op) (.string ⟨#[]⟩) (.string ⟨#[]⟩) (.slice none 0 0) (.slice kva rk.length kvc)
        have hRO2:=hRO.out.kept hgr (fun y e=>by cases e; omega)
        refine ExAt.make (op:=op) (kd:=⟨#[]⟩) (nm:=⟨#[]⟩) (vals:=[]) (rows_nil _ _) (fun _ hv=>(List.not_mem_nil hv).elim) ((hRO2.new (g:=eb) h5.out (by omega)).mono ?_) (hA.out.mono h2)
        refine Sub.trans ?_ h3
        intro p v hp
        have h4:=nex_some hp
        exact nex_mk (by have:=h4.1; omega) (by simp) h4.2.2)
      clear hRO hA hB hal hfl h5 hk2
      go_wp2
      refine bodyPost_ret (v:=.agg #[.int .i64 op,.string ⟨#[]⟩,.string ⟨#[]⟩,.slice none 0 0,.slice kva rk.length kvc]) (by simp [results,Tryz.results50,go_sem, *]) rfl ?_
      exact hF.out
    obtain ⟨blk,off,o1,kd,nm,va,vn,vc,ka,kn,kc,rfl,c0,c1,c2,c3,c4,hE⟩:=kids_get hR.out hX.out hlt
    have hfs:=flat_step (op:=op) hlt
    have hfl2:=flat_le (op:=op) (l:=xs) (k + 1)
    rw [hfs,List.length_append] at hfl2
    have n0 : (0 : Int)≤(k : Int):=by omega
    have n1 : (k : Int) < (xs.length : Int):=by omega
    have hsub:=Lib.hid (hs.out.trans (sub_of_below hB.out))
    obtain ⟨hxop,RK,hRK,hKK⟩:=ex_kids hE
    have hkn:=(rows_len hRK).1
    have hxl:=hKK.1
    generalize xs[k] = x at *
    replace c0:=hsub.out _ _ c0
    replace c1:=hsub.out _ _ c1
    replace c2:=hsub.out _ _ c2
    replace c3:=hsub.out _ _ c3
    replace c4:=hsub.out _ _ c4
    have hbl : blk < wr.heap.size:=World.block_lt_of_cell? wr _ c0
    cases ho : (o1 == op) with
    | true =>
      have hflx : flatE op x = x.kids:=by unfold flatE; rw [if_pos (by rw [hxop]; exact eq_of_beq ho)]
      have hA':=Lib.hid (show KidsAt m (flatL op (xs.take (k + 1))) (rk ++ RK) by rw [hfs,hflx]; exact hA.out.append hKK)
      have hsum : rk.length + kn≤1099511627776:=by rw [hflx] at hfl2; omega
      have hRKd:=Lib.hid (show RowsAt wr.drew.cell? 5 (.slice ka kn kc) RK from hRK.mono hsub.out)
      have h5k:=Lib.hid hKK.five
      have h1k:=Lib.hid hKK.flat1
      have hRd:=Lib.hid (hRO.out.kept (grown_drew wr none) (fun y e=>by cases e))
      have hed:=Lib.hid (show Own wr.drew eb #[.int .i64 op,.string ⟨#[]⟩,.string ⟨#[]⟩,.slice none 0 0,.slice kva rk.length kvc] 31 from he.out.kept (grown_drew wr none) (by simp))
      have hzd:=Lib.hid (hz.out.kept (grown_drew wr none) (by simp))
      have hBd:=Lib.hid (hB.out.grown (grown_drew wr none) hB.out.size (fun k e=>by cases e))
      have hsz : eb + 1≤wr.drew.heap.size:=hel
      have hown:=Lib.hid hRd.out.out.lt
      clear hRK hKK hxop hflx hE hRO he hz hB hA hfs hfl hfl2 hal
      go_wp2_with fail
      go_region_law ((first
        | (refine step_append_exp rfl _ _ rfl (eb + 1) kva rk.length kvc rk rfl hRd.out h5.out rfl ka kn kc RK rfl hRKd.out h5k.out h1k.out hsum hsz ?_; intro va' vc' w5 hR5 hn5 hg5 hat5; replace hR5:=Lib.hid hR5; replace hn5:=Lib.hid hn5; clear hat5; have hO5:=Lib.hid (hed.out.kept hg5 (fun e=>by have:=(hown.out eb e).1; omega)); have hz5:=Lib.hid (hzd.out.kept hg5 (fun e=>by have:=(hown.out gz e).1; omega)); have hB5:=Lib.hid (hBd.out.grown hg5 hBd.out.size (fun i e=>by have:=(hown.out i e).1; omega)); replace hg5:=Lib.hid hg5; have o45:=hO5.out.cell 4; have of45:=hO5.out.free 4; have ol5:=hO5.out.lt; simp only [List.getElem?_toArray,List.getElem?_cons_succ,List.getElem?_cons_zero] at o45)
        | go_simp))
      all_goals
        have h5n:=Lib.hid (show ∀ r∈rk ++ RK,r.length = 5 from fun r hr=>(List.mem_append.1 hr).elim (h5.out r) (h5k.out r))
        generalize hrw : rk ++ RK = rows' at hR5 hA' hn5 h5n
        clear hrw
        rw [hn5.out] at hR5
        have hO6:=Lib.hid (show Own (w5.setCell ⟨eb,4,none⟩ (.slice va' (rk.length + kn) vc')) eb #[.int .i64 op,.string ⟨#[]⟩,.string ⟨#[]⟩,.slice none 0 0,.slice va' rows'.length vc'] 31 from by have:=hO5.out.set 4 (.slice va' (rk.length + kn) vc'); rw [hn5.out] at this ⊢; exact this)
        have hz6:=Lib.hid (hz5.out.setOther (p:=⟨eb,4,none⟩) (by simp; omega) (.slice va' (rk.length + kn) vc'))
        have hR6:=Lib.hid (hR5.out.set (q:=eb) (i:=4) (by omega) (.slice va' (rk.length + kn) vc'))
        have hB6:=Lib.hid (hB5.out.grown (grown_setCell w5 eb 4 (.slice va' (rk.length + kn) vc')) hB5.out.size (fun i e=>by cases e; omega))
        clear hO5 hz5 hR5 hB5 hRd hed hzd hBd hown hg5 hRKd h5k h1k
        go_wp2
        go_roundw
        case rel=>exact ⟨k + 1,rows',va',vc',by omega,by go_num,hO6,hz6,hR6,hA',hB6⟩
        case measure=>simp [intOf]; omega
    | false =>
      have hflx : flatE op x = [x]:=by unfold flatE; rw [if_neg (by rw [hxop]; intro e; rw [e] at ho; simp at ho)]
      have hA':=Lib.hid (show KidsAt m (flatL op (xs.take (k + 1))) (rk ++ [[Value.int .i64 o1,.string kd,.string nm,.slice va vn vc,.slice ka kn kc]]) by rw [hfs,hflx]; exact hA.out.append (KidsAt.one hE))
      have hsum : rk.length + 1≤1099511627776:=by rw [hflx,List.length_singleton] at hfl2; omega
      have h1k:=Lib.hid (show ∀ u∈([[Value.int .i64 o1,.string kd,.string nm,.slice va vn vc,.slice ka kn kc]] : List (List Value)).flatten,u.oneCell' = true from fun u hu=>(KidsAt.one hE).flat1 u hu)
      have hrow:=Lib.hid (lit_rows (sz:=5) (w:=wr.drew.alloc (.cells #[Value.int .i64 o1,.string kd,.string nm,.slice va vn vc,.slice ka kn kc] 31)) (g:=wr.heap.size) (cs:=[Value.int .i64 o1,.string kd,.string nm,.slice va vn vc,.slice ka kn kc]) (fun j=>by rw [show wr.heap.size = wr.drew.heap.size from rfl,(Own.new wr.drew #[Value.int .i64 o1,.string kd,.string nm,.slice va vn vc,.slice ka kn kc] 31).cell j]; simp))
      have hgd:=g_call (grown_drew wr none) (World.grownBy_alloc wr.drew (.cells #[Value.int .i64 o1,.string kd,.string nm,.slice va vn vc,.slice ka kn kc] 31) none)
      have hRd:=Lib.hid (hRO.out.kept hgd (fun y e=>by cases e))
      have hed:=Lib.hid (he.out.kept hgd (by simp))
      have hzd:=Lib.hid (hz.out.kept hgd (by simp))
      have hBd:=Lib.hid (hB.out.grown hgd hB.out.size (fun k e=>by cases e))
      have hsz : eb + 1≤(wr.drew.alloc (.cells #[Value.int .i64 o1,.string kd,.string nm,.slice va vn vc,.slice ka kn kc] 31)).heap.size:=by rw [World.size_alloc]; show eb + 1≤wr.heap.size + 1; omega
      clear hgd
      have hown:=Lib.hid hRd.out.out.lt
      clear hRK hKK hxop hflx hE hRO he hz hB hA hfs hfl hfl2 hal
      go_wp2_with fail
      go_region_law ((first
        | (refine step_append_exp rfl _ _ rfl (eb + 1) kva rk.length kvc rk rfl hRd.out h5.out rfl _ 1 1 [[Value.int .i64 o1,.string kd,.string nm,.slice va vn vc,.slice ka kn kc]] rfl hrow.out (by intro r hr; rw [List.mem_singleton.1 hr]; rfl) h1k.out hsum hsz ?_; intro va' vc' w5 hR5 hn5 hg5 hat5; replace hR5:=Lib.hid hR5; replace hn5:=Lib.hid hn5; clear hat5; have hO5:=Lib.hid (hed.out.kept hg5 (fun e=>by have:=(hown.out eb e).1; omega)); have hz5:=Lib.hid (hzd.out.kept hg5 (fun e=>by have:=(hown.out gz e).1; omega)); have hB5:=Lib.hid (hBd.out.grown hg5 hBd.out.size (fun i e=>by have:=(hown.out i e).1; omega)); replace hg5:=Lib.hid hg5; have o45:=hO5.out.cell 4; have of45:=hO5.out.free 4; have ol5:=hO5.out.lt; simp only [List.getElem?_toArray,List.getElem?_cons_succ,List.getElem?_cons_zero] at o45)
        | go_simp))
      all_goals
        have h5n:=Lib.hid (show ∀ r∈rk ++ [[Value.int .i64 o1,.string kd,.string nm,.slice va vn vc,.slice ka kn kc]],r.length = 5 from fun r hr=>(List.mem_append.1 hr).elim (h5.out r) (fun h=>by rw [List.mem_singleton.1 h]; rfl))
        generalize hrw : rk ++ [[Value.int .i64 o1,.string kd,.string nm,.slice va vn vc,.slice ka kn kc]] = rows' at hR5 hA' hn5 h5n
        clear hrw
        rw [hn5.out] at hR5
        have hO6:=Lib.hid (show Own (w5.setCell ⟨eb,4,none⟩ (.slice va' (rk.length + 1) vc')) eb #[.int .i64 op,.string ⟨#[]⟩,.string ⟨#[]⟩,.slice none 0 0,.slice va' rows'.length vc'] 31 from by have:=hO5.out.set 4 (.slice va' (rk.length + 1) vc'); rw [hn5.out] at this ⊢; exact this)
        have hz6:=Lib.hid (hz5.out.setOther (p:=⟨eb,4,none⟩) (by simp; omega) (.slice va' (rk.length + 1) vc'))
        have hR6:=Lib.hid (hR5.out.set (q:=eb) (i:=4) (by omega) (.slice va' (rk.length + 1) vc'))
        have hB6:=Lib.hid (hB5.out.grown (grown_setCell w5 eb 4 (.slice va' (rk.length + 1) vc')) hB5.out.size (fun i e=>by cases e; omega))
        clear hO5 hz5 hR5 hB5 hRd hed hzd hBd hown hg5 hrow h1k
        go_wp2
        go_roundw
        case rel=>exact ⟨k + 1,rows',va',vc',by omega,by go_num,hO6,hz6,hR6,hA',hB6⟩
        case measure=>simp [intOf]; omega
end Go.Proofs.YtfffpflflggonaaGreatDoor.src
namespace Go.Proofs.YtfffpflflggonaaGreatDoor.value
open text
theorem cutD_digs : ∀ l : List UInt8,l.all digB = true→cutD l = none
  | [],_=>rfl
  | c :: r,h=>by
    rw [List.all_cons,Bool.and_eq_true] at h
    have hc:=digB_bd h.1
    rw [cutD,if_neg (by omega),cutD_digs r h.2]
    rfl
def ver3 (a b c : Int) : List UInt8:=Lib.itoa a ++ 46 :: (Lib.itoa b ++ 46 :: Lib.itoa c)
end Go.Proofs.YtfffpflflggonaaGreatDoor.value
namespace Go.Proofs.YtfffpflflggonaaGreatDoor.lex
open text value
theorem lqS_escL : ∀ (l r : List UInt8),l.all okT = true→lqS false (escL l ++ 34 :: r) = some ((escL l).length + 1)
  | [],r,_=>by show lqS false (34 :: r) = some 1; rw [lqS,if_neg (by decide),if_pos (by decide)]
  | c :: l,r,h=>by
    rw [List.all_cons,Bool.and_eq_true] at h
    have hc : 32≤c.toNat:=by have:=h.1; unfold okT at this; simp at this; exact this.1
    have e : escL (c :: l) = esc c ++ escL l:=by simp [escL]
    have ih:=lqS_escL l r h.2
    rw [e]
    by_cases hq : c.toNat = 34∨c.toNat = 92
    · rw [esc_two hq]
      show lqS false (92 :: c :: (escL l ++ 34 :: r)) = _
      rw [lqS,if_neg (by decide),if_neg (by decide),if_pos (by decide),lqS,if_neg (by omega),ih]
      simp only [List.length_append,List.length_cons,List.length_nil,Option.map_some]
      congr 1
      omega
    · rw [esc_one (by omega) (by omega)]
      show lqS false (c :: (escL l ++ 34 :: r)) = _
      rw [lqS,if_neg (by omega),if_neg (by omega),if_neg (by omega),ih]
      simp only [List.length_append,List.length_cons,List.length_nil,Option.map_some]
      congr 1
theorem num_all : ∀ l : List UInt8,l.all digB = true→l.all numB = true
  | [],_=>rfl
  | c :: r,h=>by
    rw [List.all_cons,Bool.and_eq_true] at h
    rw [List.all_cons,num_all r h.2]
    unfold numB
    rw [h.1]
    rfl
theorem letB_dig {c : UInt8} (h : digB c = true) : letB c = false:=by
  have:=digB_bd h
  exact letB_low (by omega)
theorem itoa_shape (n : Int) : ∃ c r,Lib.itoa n = c :: r∧letB c = false∧numStart c r = true∧r.all digB = true∧tokB c∧cutD (c :: r) = none:=by
  have hd:=dec_digits n.natAbs
  cases hD : Lib.decDigits n.natAbs with
  | nil=>exact absurd hD (dec_ne _)
  | cons d r =>
    rw [hD,List.all_cons,Bool.and_eq_true] at hd
    have hb:=digB_bd hd.1
    by_cases h0 : n < 0
    · refine ⟨45,d :: r,by rw [Lib.itoa,if_pos h0,hD],by decide,?_,by rw [List.all_cons,hd.1,hd.2]; rfl,by unfold tokB; decide,?_⟩
      · show (digB 45 || (decide ((45 : UInt8).toNat = 45) && digB d)) = true
        rw [hd.1]; rfl
      · rw [cutD,if_neg (by decide),cutD_digs (d :: r) (by rw [List.all_cons,hd.1,hd.2]; rfl)]; rfl
    · have e : n.toNat = n.natAbs:=by omega
      refine ⟨d,r,by rw [Lib.itoa,if_neg h0,e,hD],letB_dig hd.1,?_,hd.2,⟨by omega,by omega,by omega,by omega⟩,cutD_digs _ (by rw [List.all_cons,hd.1,hd.2]; rfl)⟩
      unfold numStart
      rw [hd.1]; rfl
end Go.Proofs.YtfffpflflggonaaGreatDoor.lex
namespace Go.Proofs.YtfffpflflggonaaGreatDoor.lex
open text value
def hdN (p : UInt8→Bool) : List UInt8→Bool
  | []=>true
  | c :: _=>!p c
theorem span_stop {p : UInt8→Bool} : ∀ (l r : List UInt8),l.all p = true→hdN p r = true→spanN p (l ++ r) = l.length
  | [],[],_,_=>rfl
  | [],c :: r,_,h=>by
    show spanN p (c :: r) = 0
    rw [spanN,if_neg (by unfold hdN at h; simpa using h)]
  | c :: l,r,h,h2=>by
    rw [List.all_cons,Bool.and_eq_true] at h
    show spanN p (c :: (l ++ r)) = _
    rw [spanN,if_pos h.1,span_stop l r h.2 h2,List.length_cons]
    omega
theorem take_one_len (c : UInt8) (l r : List UInt8) : (c :: (l ++ r)).take (1 + l.length) = c :: l:=by
  rw [Nat.add_comm,List.take_succ_cons,List.take_left]
theorem drop_one_len (c : UInt8) (l r : List UInt8) : (c :: (l ++ r)).drop (1 + l.length) = r:=by
  rw [Nat.add_comm,List.drop_succ_cons,List.drop_left]
theorem let_tokB {c : UInt8} (h : letB c = true) : tokB c:=by
  unfold letB at h
  simp only [Bool.and_eq_true,decide_eq_true_eq] at h
  exact ⟨by omega,by omega,by omega,by omega⟩
theorem sign_mem {c : UInt8} (h : signB c = true) : c.toNat = 123∨c.toNat = 125∨c.toNat = 40∨c.toNat = 41∨c.toNat = 91∨c.toNat = 93∨c.toNat = 44∨c.toNat = 46∨c.toNat = 60∨c.toNat = 62:=by
  unfold signB at h; simpa using h
theorem sign_tokB {c : UInt8} (h : signB c = true) : tokB c:=by
  have:=sign_mem h
  exact ⟨by omega,by omega,by omega,by omega⟩
theorem tok_word {c : UInt8} {w r : List UInt8} {L : Int} (h : letB c = true) (hw : w.all wordB = true) (hr : hdN wordB r = true) : tokS (c :: w ++ r) L = preT [⟨1,c :: w,0,L⟩] (tokS r L):=by
  show tokS (c :: (w ++ r)) L = _
  have hx:=nx_word (c:=c) (r:=w ++ r) h
  rw [span_stop w r hw hr,take_one_len] at hx
  rw [tokS_tok (let_tokB h) hx,drop_one_len]
theorem tok_sign {c : UInt8} {r : List UInt8} {L : Int} (h : signB c = true) (hn : ((decide (c.toNat = 60) || decide (c.toNat = 62)) && eqB r) = false) : tokS (c :: r) L = preT [⟨5,[c],0,L⟩] (tokS r L):=by
  have hx:=nx_sign (c:=c) (r:=r) h
  rw [if_neg (by rw [hn]; decide)] at hx
  rw [tokS_tok (sign_tokB h) hx]
  rfl
theorem tok_sign2 {c : UInt8} {r : List UInt8} {L : Int} (h : signB c = true) (hn : (decide (c.toNat = 60) || decide (c.toNat = 62)) = true) : tokS (c :: 61 :: r) L = preT [⟨5,[c,61],0,L⟩] (tokS r L):=by
  have hx:=nx_sign (c:=c) (r:=61 :: r) h
  rw [if_pos (by rw [hn]; rfl)] at hx
  rw [tokS_tok (sign_tokB h) hx]
  rfl
theorem next_quote_on {t : List UInt8} (h : validS t = true) (r : List UInt8) : nextS (quoteS t ++ r) = .ok (⟨3,t,0⟩,(quoteS t).length):=by
  have ha : t.all okT = true:=by
    unfold validS at h
    simp only [Bool.and_eq_true] at h
    exact h.2
  have e : quoteS t ++ r = 34 :: (escL t ++ 34 :: r):=by
    show 34 :: (escL t ++ [34]) ++ r = _
    simp
  rw [e,nx_text (by decide),lqS_escL t r ha]
  have e2 : (34 :: (escL t ++ 34 :: r)).take (1 + ((escL t).length + 1)) = quoteS t:=by
    rw [← e]
    apply List.take_left'
    rw [quoteS_len]
    omega
  simp only
  rw [e2,unquoteS_quote]
  simp only [h,if_true]
  congr 2
  rw [quoteS_len]
  omega
theorem tok_text {t : List UInt8} (h : validS t = true) (r : List UInt8) (L : Int) : tokS (quoteS t ++ r) L = preT [⟨3,t,0,L⟩] (tokS r L):=by
  have hx:=next_quote_on h r
  have e : quoteS t ++ r = 34 :: (escL t ++ [34] ++ r):=rfl
  have ht:=tokS_tok (L:=L) (show tokB 34 by unfold tokB; decide) (by rw [← e]; exact hx)
  rw [← e,List.drop_left] at ht
  exact ht
theorem tok_num (n : Int) (h1 : ¬ (n < -1099511627776∨1099511627776 < n)) {r : List UInt8} (hr : hdN numB r = true) (L : Int) : tokS (Lib.itoa n ++ r) L = preT [⟨2,[],n,L⟩] (tokS r L):=by
  obtain ⟨c,w,e,hl,hn,hw,ht,hcut⟩:=itoa_shape n
  have hsp:=span_stop w r (num_all w hw) hr
  have hp:=parse_itoa n
  rw [if_neg h1] at hp
  have hv : (verS (Lib.itoa n)).isSome = false:=by rw [e,k0_none hcut]; rfl
  have hn2 : numStart c (w ++ r) = true:=by
    unfold numStart at hn ⊢
    cases w with
    | nil =>
      rw [show secB ([] : List UInt8) = false from rfl,Bool.and_false,Bool.or_false] at hn
      rw [hn]; rfl
    | cons d q=>exact hn
  have htk : (c :: (w ++ r)).take (1 + spanN numB (w ++ r)) = Lib.itoa n:=by rw [hsp,take_one_len,e]
  rw [e]
  show tokS (c :: (w ++ r)) L = _
  rcases num_ways hl hn2 htk with ⟨h2,_⟩ | ⟨_,_,hx⟩ | ⟨_,h2,_⟩
  · rw [hv] at h2; cases h2
  · rw [hp] at hx
    rw [tokS_tok ht hx,hsp,drop_one_len]
  · rw [hp] at h2; exact absurd rfl h2
theorem tok_ver {c : UInt8} {w r : List UInt8} {L : Int} (hc : digB c = true) (hw : w.all numB = true) (hv : (verS (c :: w)).isSome = true) (hr : hdN numB r = true) : tokS (c :: w ++ r) L = preT [⟨4,c :: w,0,L⟩] (tokS r L):=by
  show tokS (c :: (w ++ r)) L = _
  have hb:=digB_bd hc
  have hsp:=span_stop w r hw hr
  have htk : (c :: (w ++ r)).take (1 + spanN numB (w ++ r)) = c :: w:=by rw [hsp,take_one_len]
  rcases num_ways (letB_dig hc) (show numStart c (w ++ r) = true by unfold numStart; rw [hc]; rfl) htk with ⟨_,hx⟩ | ⟨h2,_,_⟩ | ⟨h2,_,_⟩
  · rw [tokS_tok ⟨by omega,by omega,by omega,by omega⟩ hx,hsp,drop_one_len]
  · rw [hv] at h2; cases h2
  · rw [hv] at h2; cases h2
end Go.Proofs.YtfffpflflggonaaGreatDoor.lex
namespace Go.Proofs.YtfffpflflggonaaGreatDoor.src
open lex value text
def tkNot : Tok:=⟨1,sNot,0,1⟩
def tkLp : Tok:=⟨5,sLp,0,1⟩
def tkRp : Tok:=⟨5,sRp,0,1⟩
def tkEnd : Tok:=⟨6,[],0,1⟩
def sUser : List UInt8:=[117,115,101,114]
def sAge : List UInt8:=[97,103,101]
theorem chain_one {part : List Tok→R PE} {op : Int} {word : List UInt8} {f : Nat} {ts : List Tok} {x : PE} {r : List Tok} (h : part ts = .ok (x,r)) (hw : isN word r = false) : chainF part op word f ts = .ok (x,r):=by
  rw [chainF,h,bnd_ok,if_neg (by rw [hw]; decide)]
end Go.Proofs.YtfffpflflggonaaGreatDoor.src
