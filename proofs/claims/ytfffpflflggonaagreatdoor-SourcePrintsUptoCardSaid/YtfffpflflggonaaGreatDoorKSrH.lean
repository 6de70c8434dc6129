/- The program's parser: parts with a word between them. -/
import Derived.Test.YtfffpflflggonaaGreatDoorKSrG
namespace Go.Proofs.YtfffpflflggonaaGreatDoor.src
open Go.RowKit lex value text schema draw clause
theorem Rd.ex {g B K : Nat} {St : World→PS→Prop} {w : World} {r : R PE} {e : Ending} {w' : World} (h : Rd g St w (ExIs B g K) r e w') :
    ∃ (x : PE) (op : Int) (kd nm : ByteArray) (va : Option Addr) (vn vc : Nat) (ka : Option Addr) (kn kc : Nat),e = .returned (.agg #[.int .i64 op,.string kd,.string nm,.slice va vn vc,.slice ka kn kc])∧ExAt (nex B [g] w') x [.int .i64 op,.string kd,.string nm,.slice va vn vc,.slice ka kn kc]∧x.kids.length≤K∧∀ b q,r = .ok (b,q)→x = b:=by
  have key : ∀ x,ExIs B g K x e w'→∃ (op : Int) (kd nm : ByteArray) (va : Option Addr) (vn vc : Nat) (ka : Option Addr) (kn kc : Nat),e = .returned (.agg #[.int .i64 op,.string kd,.string nm,.slice va vn vc,.slice ka kn kc])∧ExAt (nex B [g] w') x [.int .i64 op,.string kd,.string nm,.slice va vn vc,.slice ka kn kc]∧x.kids.length≤K:=by
    rintro x ⟨row,h1,h2,h3⟩
    obtain ⟨op,kd,nm,vals,va,vn,vc,ka,kn,kc,rows,rfl,-⟩:=h2.parts
    exact ⟨op,kd,nm,va,vn,vc,ka,kn,kc,h1,h2,h3⟩
  obtain ⟨h1,h2,h3⟩:=h
  cases r with
  | error q =>
    obtain ⟨x,h3⟩:=h3
    obtain ⟨op,kd,nm,va,vn,vc,ka,kn,kc,h4,h5,h6⟩:=key x h3
    exact ⟨x,op,kd,nm,va,vn,vc,ka,kn,kc,h4,h5,h6,fun b q e=>by cases e⟩
  | ok v =>
    obtain ⟨op,kd,nm,va,vn,vc,ka,kn,kc,h4,h5,h6⟩:=key v.1 h3
    exact ⟨v.1,op,kd,nm,va,vn,vc,ka,kn,kc,h4,h5,h6,fun b q e=>by injection e with e; rw [e]⟩
theorem ex_kids {M : Mem} {x : PE} {op : Int} {kd nm : ByteArray} {vs : Value} {ka : Option Addr} {kn kc : Nat} (h : ExAt M x [.int .i64 op,.string kd,.string nm,vs,.slice ka kn kc]) : x.op = op∧∃ rows,RowsAt M 5 (.slice ka kn kc) rows∧KidsAt M x.kids rows:=by
  obtain ⟨op',kd',nm',vals,va,vn,vc,ka',kn',kc',rows,e,hx,h1,h2,h3,h4⟩:=h.parts
  simp only [List.cons.injEq,Value.int.injEq,Value.slice.injEq,true_and,and_true] at e
  obtain ⟨e1,-,-,-,e2,e3,e4⟩:=e
  subst e1; subst e2; subst e3; subst e4
  exact ⟨by rw [hx]; rfl,rows,h3,h4⟩
def nexK (B g ob : Nat) (v : Value) (w : World) : Mem:=nex B (g :: ob :: v.ownBlock.toList) w
theorem nexK_new {B g ob : Nat} {v v' : Value} {w u : World} (hg : w.grownBy u v.ownBlock) (hat : ∀ k,v'.ownBlock = some k→v.ownBlock = some k∨k = w.heap.size) : Sub (nexK B g ob v w) (nexK B g ob v' u):=by
  refine nex_new hg (fun k hk=>Or.inl (by rw [hk]; simp)) (fun k hk=>?_)
  rcases List.mem_cons.1 hk with rfl | hk
  · exact Or.inl (by simp)
  rcases List.mem_cons.1 hk with rfl | hk
  · exact Or.inl (by simp)
  · have hk' : v'.ownBlock = some k:=by simpa using hk
    rcases hat k hk' with h | h
    · exact Or.inl (by rw [h]; simp)
    · exact Or.inr (Or.inl (by omega))
theorem nexK_g {B g ob : Nat} {v : Value} {w u : World} {r : Option Nat} (hg : w.grownBy u r) (hr : r = none∨r = some g∨r = some ob) : Sub (nexK B g ob v w) (nexK B g ob v u):=nex_grown hg (fun k hk=>by
  rcases hr with h | h | h <;> rw [h] at hk
  · cases hk
  · cases hk; exact Or.inl (by simp)
  · cases hk; exact Or.inl (by simp))
theorem nexK_out {B g ob : Nat} {v : Value} (w : World) : Sub (nexK B g ob v w) (nex B [g] w):=nex_up w (Nat.le_refl _) (fun k hk=>Or.inl (by simp at hk; simp [hk]))
theorem nexK_part {B B' g ob : Nat} {v : Value} (w : World) (hB : B≤B') (ho : ob < B') (hv : ∀ k,v.ownBlock = some k→k < B') : Sub (nex B' [g] w) (nexK B g ob v w):=nex_part w hB (fun k hk=>by
  rcases List.mem_cons.1 hk with rfl | hk
  · exact Or.inl rfl
  rcases List.mem_cons.1 hk with rfl | hk
  · exact Or.inr ho
  · exact Or.inr (hv k (by simpa using hk)))
theorem nexK_fill {B g ob nb : Nat} {v : Value} {w u x : World} (hg : w.grownBy u none) (hnb : w.heap.size≤nb) (hg2 : u.grownBy x (some g)) (a : World→World) (ha : x.grownBy (a x) (some nb)) : Sub (nexK B g ob v w) (nexK B g ob v (a x)):=by
  refine ((nex_new (Y:=nb :: g :: ob :: v.ownBlock.toList) hg (fun k e=>by cases e) (fun k hk=>?_)).trans (nex_grown hg2 (fun k e=>by cases e; exact Or.inl (by simp)))).trans ((nex_grown ha (fun k e=>by cases e; exact Or.inl (by simp))).trans (nex_up _ (Nat.le_refl _) (fun k hk=>Or.inl (List.mem_cons_of_mem _ hk))))
  rcases List.mem_cons.1 hk with rfl | hk
  · exact Or.inr (Or.inl hnb)
  · exact Or.inl hk
theorem grown5 (w : World) (q : Nat) (a b c d e : Value) : w.grownBy (((((w.setCell ⟨q,0,none⟩ a).setCell ⟨q,1,none⟩ b).setCell ⟨q,2,none⟩ c).setCell ⟨q,3,none⟩ d).setCell ⟨q,4,none⟩ e) (some q) :=
  g_call (g_call (g_call (g_call (grown_setCell w q 0 a) (grown_setCell _ q 1 b)) (grown_setCell _ q 2 c)) (grown_setCell _ q 3 d)) (grown_setCell _ q 4 e)
section
variable {M : Mem} {T : List Tok} {tb to' tc : Nat}
set_option maxRecDepth 100000 in
set_option maxHeartbeats 16000000 in
theorem chain_and (hK : TokM M T tb to' tc) (g o f K : Nat) (hKb : K≤4000000000) (op : Int) (word : ByteArray) (part : List Tok→R PE) (hsh : Shr part) (hkid : Kid part)
    (hpart : ∀ (w : World) (s : PS),Sub M (but g w)→PrP T tb to' tc g w o s→lenP s≤f→Calls Tryz.prog 110 #[.pointer (some ⟨g,0,none⟩)] w (Rd g (fun w s=>PrP T tb to' tc g w o s) w (ExIs w.heap.size g K) (runS s part)))
    (w : World) (s : PS) (hM : Sub M (but g w)) (h : PrP T tb to' tc g w o s) (hl : lenP s≤f) :
    Calls Tryz.prog 109 #[.pointer (some ⟨g,0,none⟩),.int .i64 op,.string word,.func (.func 110) #[.pointer (some ⟨g,0,none⟩)] #[]] w (Rd g (fun w s=>PrP T tb to' tc g w o s) w (ExIs w.heap.size g (60003 + K)) (runS s (chainF part op word.data.toList f))):=by
  have hgl:=h.lt
  have hlen : lenP s≤30001:=by rw [← h.left]; unfold leftW; have:=hK.few; split <;> omega
  have hne : Hid (∀ ts,s = .ok ts→ts ≠ []):=Lib.hid fun ts e=>by subst e; exact h.ne
  have hz:=Lib.hid (Own.new w #[.int .i64 0,.string ⟨#[]⟩,.string ⟨#[]⟩,.slice none 0 0,.slice none 0 0] 31)
  have h0:=Lib.hid (h.alloc (.cells #[.int .i64 0,.string ⟨#[]⟩,.string ⟨#[]⟩,.slice none 0 0,.slice none 0 0] 31))
  have hg0:=Lib.hid (World.grownBy_alloc w (.cells #[.int .i64 0,.string ⟨#[]⟩,.string ⟨#[]⟩,.slice none 0 0,.slice none 0 0] 31) (some g))
  have hMw:=Lib.hid hM
  have hpart':=Lib.hid hpart
  clear h hM hpart
  go_enter Tryz.func109,Tryz.ntmps109
  go_wp2_with fail
  generalize w.alloc (.cells #[.int .i64 0,.string ⟨#[]⟩,.string ⟨#[]⟩,.slice none 0 0,.slice none 0 0] 31) = w0 at hz h0 hg0 ⊢
  obtain ⟨gz,hgz⟩ : ∃ z : Nat,Hid (z = w.heap.size):=⟨_,Lib.hid rfl⟩
  rw [← hgz.out] at hz ⊢
  have hwz : w.heap.size≤gz:=Nat.le_of_eq hgz.out.symm
  have hzB : gz < w0.heap.size:=hz.out.lt
  obtain ⟨B,hB⟩ : ∃ z : Nat,Hid (z = w0.heap.size):=⟨_,Lib.hid rfl⟩
  refine (hpart'.out _ s (sub_but_grown hMw.out hg0.out) h0.out hl).mono ?_
  rintro e w1 hr
  obtain ⟨x,o1,kd,nm,va,vn,vc,ka,kn,kc,rfl,hX,hxk,hxb⟩:=hr.ex
  have hg1':=g_call hg0.out hr.1
  have hP1':=hr.2.1
  have hz1':=hz.out.kept hr.1 (by simp; omega)
  have hsz1 : w0.heap.size≤w1.heap.size:=hr.1.size
  have hr1:=Lib.hid (show runS s (chainF part op word.data.toList f) = runS (aft (runS s part)) (fun r=>if isN word.data.toList r then loopF part op word.data.toList f [] x r else .ok (x,r)) from
    run_step (f:=part) (K:=fun x r=>if isN word.data.toList r then loopF part op word.data.toList f [] x r else .ok (x,r)) (s:=s) x (fun b q h=>by rw [hxb b q h]))
  have hx1:=Lib.hid (show ∀ ts,aft (runS s part) = .ok ts→(flatE op x).length + ts.length≤30001∧ts.length≤f from fun ts hts=>by
    cases s with
    | error e=>cases hts
    | ok us =>
      have hts' : aft (part us) = .ok ts:=hts
      cases hp : part us with
      | error e=>rw [hp] at hts'; cases hts'
      | ok v =>
        rw [hp] at hts'
        injection hts' with hts'
        have e1 : x = v.1:=hxb v.1 v.2 (by rw [runS_ok,hp])
        have h1:=hsh _ _ _ (show part us = .ok (v.1,v.2) from hp)
        have h2:=flat_len (op:=op) (hkid _ _ _ (show part us = .ok (v.1,v.2) from hp)) h1
        have h3 : us.length≤30001:=hlen
        have h4 : us.length≤f:=hl
        rw [← hts',e1]
        omega)
  have hsok : Hid (aft (runS s part) = aft (runS s part)):=Lib.hid rfl
  have hg1:=Lib.hid (g_call hg1' (World.grownBy_alloc w1 (.cells #[.int .i64 o1,.string kd,.string nm,.slice va vn vc,.slice ka kn kc] 31) (some g)))
  have hP1:=Lib.hid (hP1'.alloc (.cells #[.int .i64 o1,.string kd,.string nm,.slice va vn vc,.slice ka kn kc] 31))
  have hz1:=Lib.hid (hz1'.alloc (.cells #[.int .i64 o1,.string kd,.string nm,.slice va vn vc,.slice ka kn kc] 31))
  have hf1:=Lib.hid (Own.new w1 #[.int .i64 o1,.string kd,.string nm,.slice va vn vc,.slice ka kn kc] 31)
  have hX1:=Lib.hid (hX.mono (nex_grown (World.grownBy_alloc w1 (.cells #[.int .i64 o1,.string kd,.string nm,.slice va vn vc,.slice ka kn kc] 31) none) (fun k e=>by cases e)))
  have hzl1 : gz < w1.heap.size:=by omega
  rw [← hB.out] at hX1 hsz1
  have hBz : gz < B:=by have:=hB.out; omega
  clear hr hX hxb hg1' hP1' hz1' hg0 hz h0 hzB hsok
  generalize aft (runS s part) = s1 at hr1 hx1 hP1
  go_upto_region 2 with fail
  generalize w1.alloc (.cells #[.int .i64 o1,.string kd,.string nm,.slice va vn vc,.slice ka kn kc] 31) = w2 at hg1 hP1 hz1 hf1 hX1 ⊢
  obtain ⟨gf,hgf⟩ : ∃ z : Nat,Hid (z = w1.heap.size):=⟨_,Lib.hid rfl⟩
  rw [← hgf.out] at hf1 hzl1 hsz1 ⊢
  go_wp2_with fail
  refine (is_any hK g o _ s1 (sub_but_grown hMw.out hg1.out) hP1.out word).mono ?_
  rintro e w3 ⟨rfl,hb⟩
  have hg3:=Lib.hid (g_below hg1.out hb)
  have hP3:=Lib.hid (hP1.out.below hb)
  have hz3:=Lib.hid (hz1.out.below hb hz1.out.lt)
  have hf3:=Lib.hid (hf1.out.below hb hf1.out.lt)
  have hX3:=Lib.hid (hX1.out.mono (nex_grown (grown_of_below hb none) (fun k e=>by cases e)))
  have hfl3 : gf < w3.heap.size:=hf3.out.lt
  clear hb hg1 hP1 hz1 hf1 hX1
  obtain ⟨y0,y1,y2,y3,y4,-⟩:=own5z hf3.out
  cases hx : isP word.data.toList s1 with
  | false =>
    obtain ⟨z0,z1,z2,z3,z4,f0,f1,f2,f3,f4⟩:=own5z hz3.out
    have hzl':=hz3.out.lt
    have hRB:=RdB.mk' (B:=gz) (St:=fun w s=>PrP T tb to' tc g w o s) (s:=s1) hg3.out hP3.out hgl hwz
    have hF:=Lib.hid (hRB.set5 (q:=gz) (Nat.le_refl _) (.int .i64 o1) (.string kd) (.string nm) (.slice va vn vc) (.slice ka kn kc))
    have hXF:=Lib.hid (hX3.out.mono ((nex_set5 (q:=gz) hBz (.int .i64 o1) (.string kd) (.string nm) (.slice va vn vc) (.slice ka kn kc)).trans (nex_up _ (show w.heap.size≤B by omega) (fun k hk=>Or.inl hk))))
    have hq : Hid (runS s (chainF part op word.data.toList f) = runS s1 (fun r=>.ok (x,r))):=Lib.hid (by
      rw [hr1.out]
      cases s1 with
      | error e=>rfl
      | ok ts=>show (if isN word.data.toList ts then _ else _) = _; rw [show isN word.data.toList ts = false from hx]; rfl)
    clear hRB hr1 hx hx1
    go_wp2
    refine bodyPost_ret (v:=.agg #[.int .i64 o1,.string kd,.string nm,.slice va vn vc,.slice ka kn kc]) (by simp [results,Tryz.results109,go_sem, *]) rfl ?_
    rw [hq.out]
    refine Rd.fin hF.out.grown ?_ (fun c q hc=>?_) ⟨x,_,rfl,hXF.out,by omega⟩
    · cases s1 with
      | error e=>exact hF.out.st
      | ok ts=>exact hF.out.st
    · cases s1 with
      | error e=>cases hc
      | ok ts =>
        injection hc with hc
        injection hc with hc1 hc2
        rw [← hc1]
        exact ⟨_,rfl,hXF.out,by omega⟩
  | true =>
    cases s1 with
    | error e=>cases hx
    | ok ts1 =>
      have hq : Hid (runS s (chainF part op word.data.toList f) = runS (.ok ts1) (loopF part op word.data.toList f [] x)):=Lib.hid (by
        rw [hr1.out]
        exact if_pos hx)
      obtain ⟨r0,hr0⟩ : ∃ r,Hid (r = runS s (chainF part op word.data.toList f)):=⟨_,Lib.hid rfl⟩
      have hq2:=Lib.hid (hr0.out.trans hq.out)
      have hx2:=Lib.hid (hx1.out ts1 rfl)
      clear hr1 hx1 hq hx
      have hzl3:=hz3.out.lt
      have hal : w3.grownBy ((w3.alloc (.cells #[.int .i64 op,.string ⟨#[]⟩,.string ⟨#[]⟩,.slice none 0 0,.slice none 0 0] 31)).alloc (.cells #[.int .i64 o1,.string kd,.string nm,.slice va vn vc,.slice ka kn kc] 31)) none:=g_call (World.grownBy_alloc w3 _ none) (World.grownBy_alloc _ _ none)
      have hg4:=Lib.hid (g_call hg3.out (g_call (World.grownBy_alloc w3 (.cells #[.int .i64 op,.string ⟨#[]⟩,.string ⟨#[]⟩,.slice none 0 0,.slice none 0 0] 31) (some g)) (World.grownBy_alloc _ (.cells #[.int .i64 o1,.string kd,.string nm,.slice va vn vc,.slice ka kn kc] 31) (some g))))
      have hP4:=Lib.hid ((hP3.out.alloc (.cells #[.int .i64 op,.string ⟨#[]⟩,.string ⟨#[]⟩,.slice none 0 0,.slice none 0 0] 31)).alloc (.cells #[.int .i64 o1,.string kd,.string nm,.slice va vn vc,.slice ka kn kc] 31))
      have hz4:=Lib.hid ((hz3.out.alloc (.cells #[.int .i64 op,.string ⟨#[]⟩,.string ⟨#[]⟩,.slice none 0 0,.slice none 0 0] 31)).alloc (.cells #[.int .i64 o1,.string kd,.string nm,.slice va vn vc,.slice ka kn kc] 31))
      have ho4:=Lib.hid ((Own.new w3 #[.int .i64 op,.string ⟨#[]⟩,.string ⟨#[]⟩,.slice none 0 0,.slice none 0 0] 31).alloc (.cells #[.int .i64 o1,.string kd,.string nm,.slice va vn vc,.slice ka kn kc] 31))
      have hn4:=Lib.hid (show Own ((w3.alloc (.cells #[.int .i64 op,.string ⟨#[]⟩,.string ⟨#[]⟩,.slice none 0 0,.slice none 0 0] 31)).alloc (.cells #[.int .i64 o1,.string kd,.string nm,.slice va vn vc,.slice ka kn kc] 31)) (w3.heap.size + 1) #[.int .i64 o1,.string kd,.string nm,.slice va vn vc,.slice ka kn kc] 31 from Own.new' (by simp))
      have hX4 : Hid (ExAt (nexK B g w3.heap.size (.slice none 0 0) _) x [.int .i64 o1,.string kd,.string nm,.slice va vn vc,.slice ka kn kc]):=Lib.hid (hX3.out.mono (nex_new hal (fun k e=>by cases e) (fun k hk=>by
        simp [Value.ownBlock] at hk
        rcases hk with rfl | rfl
        · exact Or.inl (by simp)
        · exact Or.inr (Or.inl (Nat.le_refl _)))))
      clear hal hg3 hP3 hz3 hX3
      go_wp2_with fail
      generalize ((w3.alloc (.cells #[.int .i64 op,.string ⟨#[]⟩,.string ⟨#[]⟩,.slice none 0 0,.slice none 0 0] 31)).alloc (.cells #[.int .i64 o1,.string kd,.string nm,.slice va vn vc,.slice ka kn kc] 31)) = w4 at hg4 hP4 hz4 ho4 hn4 hX4 ⊢
      obtain ⟨ob,hob⟩ : ∃ z : Nat,Hid (z = w3.heap.size):=⟨_,Lib.hid rfl⟩
      rw [← hob.out] at ho4 hn4 hX4 hzl3 ⊢
      have hBo : B≤ob:=by have:=hob.out; omega
      have hKx : Hid (x.kids.length≤30001 + K):=Lib.hid (by omega)
      clear hxk hf3 y0 y1 y2 y3 y4
      go_loopw [11] (fun s11 wr=>∃ (nb : Nat) (s' : PS) (x : PE) (o1 : Int) (kd nm : ByteArray) (va : Option Addr) (vn vc : Nat) (ka : Option Addr) (kn kc : Nat) (acc : List PE) (rows : List (List Value)) (kva : Option Addr) (kvc f' : Nat),
        s11 = .pointer (some ⟨nb,0,none⟩)∧ob < nb∧Hid (∀ k,(Value.slice kva rows.length kvc).ownBlock = some k→k ≠ nb)∧Hid (Own wr nb #[.int .i64 o1,.string kd,.string nm,.slice va vn vc,.slice ka kn kc] 31)∧Hid (Own wr ob #[.int .i64 op,.string ⟨#[]⟩,.string ⟨#[]⟩,.slice none 0 0,.slice kva rows.length kvc] 31) ∧
        Hid (RO 31 5 (ob + 1) (.slice kva rows.length kvc) rows wr)∧Hid (KidsAt (nexK B g ob (.slice kva rows.length kvc) wr) acc rows)∧Hid (ExAt (nexK B g ob (.slice kva rows.length kvc) wr) x [.int .i64 o1,.string kd,.string nm,.slice va vn vc,.slice ka kn kc]) ∧
        Hid (w.grownBy wr (some g))∧Hid (PrP T tb to' tc g wr o s')∧Hid (Own wr gz #[.int .i64 0,.string ⟨#[]⟩,.string ⟨#[]⟩,.slice none 0 0,.slice none 0 0] 31)∧Hid (r0 = runS s' (loopF part op word.data.toList f' acc x))∧Hid (lenP s'≤f')∧Hid (lenP s'≤f)∧Hid (acc.length≤30001∧x.kids.length≤30001 + K∧∀ ts,s' = .ok ts→acc.length + (flatE op x).length + ts.length≤30001)) (fun _ wr=>leftW T.length g wr)
      case atStart=>exact ⟨ob + 1,.ok ts1,x,o1,kd,nm,va,vn,vc,ka,kn,kc,[],[],none,0,f,rfl,by omega,Lib.hid (fun k e=>by cases e),hn4,ho4,Lib.hid (ro_nil _ _ _ _),Lib.hid (KidsAt.nil _),hX4,hg4,hP4,hz4,hq2,Lib.hid hx2.out.2,Lib.hid hx2.out.2,Lib.hid ⟨by simp,hKx.out,fun ts e=>by injection e with e; rw [← e]; have:=hx2.out.1; simp; omega⟩⟩
      case round =>
        clear hn4 ho4 hX4 hg4 hP4 hz4 hq2 hx2 hKx
        obtain ⟨nb,s',x,o1,kd,nm,va,vn,vc,ka,kn,kc,acc,rows,kva,kvc,f',rfl,hon,hkn',hN,hO,hR,hA,hX,hg,hP,hz,hrr,hlf',hlf,hbd⟩:=hrel
        obtain ⟨n0,n1,n2,n3,n4,-⟩:=own5z hN.out
        obtain ⟨o0,o1',o2,o3,o4,-,-,-,-,of4⟩:=own5z hO.out
        have hol:=hO.out.lt
        have hnl:=hN.out.lt
        have hown:=hR.out.out.lt
        obtain ⟨hxop,RK,hRK,hKK⟩:=ex_kids hX.out
        have h5:=hA.out.five
        have hal : acc.length = rows.length:=hA.out.1.symm
        have hkn:=(rows_len hRK).1
        have hxl:=hKK.1
        have hb1:=hbd.out.1
        have hP0:=hP
        have hb2:=hbd.out.2.1
        cases ho : (o1 == op) with
        | true =>
          have hfl : flatE op x = x.kids:=by unfold flatE; rw [if_pos (by rw [hxop]; exact eq_of_beq ho)]
          have hA':=Lib.hid (show KidsAt (nexK B g ob (.slice kva rows.length kvc) wr) (acc ++ flatE op x) (rows ++ RK) by rw [hfl]; exact hA.out.append hKK)
          have hfb : Hid (acc.length + (flatE op x).length≤60003 + K):=Lib.hid (by rw [hfl]; omega)
          have hRK':=Lib.hid (hRK.mono (nex_in _ _ _))
          have h5k:=Lib.hid hKK.five
          have h1k:=Lib.hid hKK.flat1
          replace h5:=Lib.hid h5
          have hsum : rows.length + kn≤1099511627776:=by omega
          replace hown:=Lib.hid hown
          clear hRK hKK hxop hfl
          go_wp2_with (at_builtin; refine wpList_append_exp rfl _ _ rfl (ob + 1) kva rows.length kvc rows rfl hR.out h5.out rfl ka kn kc RK rfl hRK'.out h5k.out h1k.out hsum (by omega) ?_; intro va' vc' w5 hR5 hn5 hg5 hat5; replace hR5:=Lib.hid hR5; replace hg5:=Lib.hid hg5; replace hat5:=Lib.hid hat5; replace hn5:=Lib.hid hn5; have hO5:=Lib.hid (hO.out.kept hg5.out (fun e=>by have:=(hown.out ob e).1; omega)); have o45:=hO5.out.cell 4; have of45:=hO5.out.free 4; have ol5:=hO5.out.lt; simp only [List.getElem?_toArray,List.getElem?_cons_succ,List.getElem?_cons_zero] at o45)
          have hN5:=Lib.hid (hN.out.kept hg5.out (fun e=>hkn'.out nb e rfl))
          have hz5:=Lib.hid (hz.out.kept hg5.out (fun e=>by have:=(hown.out gz e).1; omega))
          have hg5':=Lib.hid (g_own hg.out hg5.out (fun i e=>by have:=(hown.out i e).1; omega))
          have hP5:=Lib.hid (hP.out.kept hg5.out (fun e=>by have:=(hown.out g e).1; omega))
          have hA5:=Lib.hid (hA'.out.mono (nexK_new hg5.out hat5.out))
          have hk5 : Hid (∀ k,(Value.slice va' (rows.length + kn) vc').ownBlock = some k→k ≠ nb):=Lib.hid (fun k hk=>by
            rcases hat5.out k hk with h | h
            · exact hkn'.out k h
            · omega)
          have h5n:=Lib.hid (show ∀ r∈rows ++ RK,r.length = 5 from fun r hr=>(List.mem_append.1 hr).elim (h5.out r) (h5k.out r))
          clear hA' hRK' h5k h1k hg5 hat5 hR hA hX hg hP hz hN hO o0 o1' o2 o3 o4 of4
          generalize hrw : rows ++ RK = rows' at hR5 hA5 hn5 h5n
          clear hrw
          rw [hn5.out] at hR5 hA5 hk5
          have hO6:=Lib.hid (show Own (w5.setCell ⟨ob,4,none⟩ (.slice va' (rows.length + kn) vc')) ob #[.int .i64 op,.string ⟨#[]⟩,.string ⟨#[]⟩,.slice none 0 0,.slice va' rows'.length vc'] 31 from by have:=hO5.out.set 4 (.slice va' (rows.length + kn) vc'); rw [hn5.out] at this ⊢; exact this)
          go_upto_region 10 with fail
          have hN6:=Lib.hid (hN5.out.setOther (p:=⟨ob,4,none⟩) (by simp; omega) (.slice va' (rows.length + kn) vc'))
          have hz6:=Lib.hid (hz5.out.setOther (p:=⟨ob,4,none⟩) (by simp; omega) (.slice va' (rows.length + kn) vc'))
          have hg6:=Lib.hid (g_setCell hg5'.out (p:=⟨ob,4,none⟩) (by simp; omega) (.slice va' (rows.length + kn) vc'))
          have hP6:=Lib.hid (hP5.out.set (q:=ob) (i:=4) (by omega) (.slice va' (rows.length + kn) vc'))
          have hR6:=Lib.hid (hR5.out.set (q:=ob) (i:=4) (by omega) (.slice va' (rows.length + kn) vc'))
          have hA6:=Lib.hid (hA5.out.mono (nexK_g (grown_setCell w5 ob 4 (.slice va' (rows.length + kn) vc')) (Or.inr (Or.inr rfl))))
          have hlw6:=Lib.hid (show leftW T.length g (w5.setCell ⟨ob,4,none⟩ (.slice va' (rows.length + kn) vc')) = leftW T.length g wr by rw [hP6.out.left,hP0.out.left])
          generalize w5.setCell ⟨ob,4,none⟩ (.slice va' (rows.length + kn) vc') = w6 at hO6 hN6 hz6 hg6 hP6 hR6 hA6 hlw6 ⊢
          clear hO5 hN5 hz5 hg5' hP5 hR5 hA5 o45 of45
          have hwz6 : w.heap.size≤w6.heap.size:=hg6.out.size
          go_wp2_with fail
          refine (accept_any hK g o _ s' (sub_but_grown hMw.out hg6.out) hP6.out word).mono ?_
          rintro e w7 ⟨rfl,hga,hPa⟩
          have hN7:=Lib.hid (hN6.out.kept hga (by simp; omega))
          have hO7:=Lib.hid (hO6.out.kept hga (by simp; omega))
          have hz7:=Lib.hid (hz6.out.kept hga (by simp; omega))
          have hg7:=Lib.hid (g_call hg6.out hga)
          have hR7:=Lib.hid (hR6.out.kept hga (fun y e=>by cases e; omega))
          have hA7:=Lib.hid (hA6.out.mono (nexK_g hga (Or.inr (Or.inl rfl))))
          clear hN6 hO6 hz6 hg6 hP6 hR6 hA6 hga
          obtain ⟨o0,o1',o2,o3,o4,-⟩:=own5z hO7.out
          have ol7:=hO7.out.lt
          cases hx : isP word.data.toList s' with
          | false =>
            have hP7 : PrP T tb to' tc g w7 o s':=by rw [← pastP_no hx]; exact hPa
            obtain ⟨z0,z1,z2,z3,z4,f0,f1,f2,f3,f4⟩:=own5z hz7.out
            have hzl':=hz7.out.lt
            have hRB:=RdB.mk' (B:=gz) (St:=fun w s=>PrP T tb to' tc g w o s) (s:=s') hg7.out hP7 hgl hwz
            have hF:=Lib.hid (hRB.set5 (q:=gz) (Nat.le_refl _) (.int .i64 op) (.string ⟨#[]⟩) (.string ⟨#[]⟩) (.slice none 0 0) (.slice va' rows'.length vc'))
            have hgob : g < ob + 1:=by omega
            have hrw':=hR7.out.new h5n.out hgob
            have hXF:=Lib.hid (ExAt.make (op:=op) (kd:=⟨#[]⟩) (nm:=⟨#[]⟩) (vals:=[]) (rows_nil _ _) (fun _ hv=>(List.not_mem_nil hv).elim) (hrw'.mono ((nex_set5 (q:=gz) (by omega) (.int .i64 op) (.string ⟨#[]⟩) (.string ⟨#[]⟩) (.slice none 0 0) (.slice va' rows'.length vc')).trans (nex_up _ (show w.heap.size≤ob + 1 by omega) (fun k hk=>Or.inl hk))))
              (hA7.out.mono ((nexK_out _).trans ((nex_set5 (q:=gz) hBz (.int .i64 op) (.string ⟨#[]⟩) (.string ⟨#[]⟩) (.slice none 0 0) (.slice va' rows'.length vc')).trans (nex_up _ (show w.heap.size≤B by omega) (fun k hk=>Or.inl hk))))))
            have hq : Hid (aft r0 = s'∧∀ c q,r0 = .ok (c,q)→c = .mk op [] [] [] (acc ++ flatE op x)):=Lib.hid (by
              rw [hrr.out]
              cases s' with
              | error e=>exact ⟨rfl,fun c q h=>by cases h⟩
              | ok ts =>
                obtain ⟨f2,rfl⟩ : ∃ f2,f' = f2 + 1:=⟨f' - 1,by
                  have h1 : ts.length≤f':=hlf'.out
                  have h2 : ts ≠ []:=hP7.ne
                  have h3 : ts.length ≠ 0:=fun e=>h2 (List.eq_nil_of_length_eq_zero e)
                  omega⟩
                have h4 : loopF part op word.data.toList (f2 + 1) acc x ts = .ok (.mk op [] [] [] (acc ++ flatE op x),ts):=by rw [loopF,if_neg (by rw [show isN word.data.toList ts = false from hx]; decide)]
                show aft (loopF part op word.data.toList (f2 + 1) acc x ts) = _∧_
                rw [runS_ok,h4]
                exact ⟨rfl,fun c q h=>by injection h with h; injection h with h1 h2; exact h1.symm⟩)
            clear hRB hrw' hPa hP7 hrr hx
            go_wp2
            refine bodyPost_ret (v:=.agg #[.int .i64 op,.string ⟨#[]⟩,.string ⟨#[]⟩,.slice none 0 0,.slice va' rows'.length vc']) (by simp [results,Tryz.results109,go_sem, *]) rfl ?_
            have hxb : (PE.mk op [] [] [] (acc ++ flatE op x)).kids.length≤60003 + K:=by show (acc ++ flatE op x).length≤_; rw [List.length_append]; exact hfb.out
            rw [← hr0.out]
            exact Rd.fin hF.out.grown (by rw [hq.out.1]; exact hF.out.st) (fun c q hc=>by rw [hq.out.2 c q hc]; exact ⟨_,rfl,hXF.out,hxb⟩) ⟨_,_,rfl,hXF.out,hxb⟩
          | true =>
            cases s' with
            | error e=>cases hx
            | ok ts =>
              have hP7 : PrP T tb to' tc g w7 o (.ok ts.tail):=by
                have e1 : pastP word.data.toList (.ok ts) = .ok ts.tail:=if_pos hx
                rw [← e1]
                exact hPa
              have hlt : ts.tail.length < ts.length:=by
                cases ts with
                | nil=>cases hx
                | cons t q=>simp
              have hst : ∃ f2,(r0 = bnd (part ts.tail) fun y r'=>loopF part op word.data.toList f2 (acc ++ flatE op x) y r')∧ts.tail.length≤f2:=by
                have h1 : ts.length≤f':=hlf'.out
                obtain ⟨f2,rfl⟩ : ∃ f2,f' = f2 + 1:=⟨f' - 1,by omega⟩
                refine ⟨f2,?_,by omega⟩
                rw [hrr.out,runS_ok,loopF,if_pos (show isN word.data.toList ts = true from hx)]
              have hlf3 : ts.tail.length≤f:=by have h1 : ts.length≤f:=hlf.out; omega
              have hbd3:=hbd.out.2.2 ts rfl
              have hlw7 : leftW T.length g wr = ts.length:=hP0.out.left
              obtain ⟨n0,n1,n2,n3,n4,-⟩:=own5z hN7.out
              have hP8:=hP7.alloc (.cells #[.int .i64 o1,.string kd,.string nm,.slice va vn vc,.slice ka kn kc] 31)
              have hg8:=Lib.hid (g_call hg7.out (World.grownBy_alloc w7 (.cells #[.int .i64 o1,.string kd,.string nm,.slice va vn vc,.slice ka kn kc] 31) (some g)))
              have hO8:=Lib.hid (hO7.out.alloc (.cells #[.int .i64 o1,.string kd,.string nm,.slice va vn vc,.slice ka kn kc] 31))
              have hz8:=Lib.hid (hz7.out.alloc (.cells #[.int .i64 o1,.string kd,.string nm,.slice va vn vc,.slice ka kn kc] 31))
              have hN8:=Lib.hid (Own.new w7 #[.int .i64 o1,.string kd,.string nm,.slice va vn vc,.slice ka kn kc] 31)
              have hal7:=Lib.hid (World.grownBy_alloc w7 (.cells #[.int .i64 o1,.string kd,.string nm,.slice va vn vc,.slice ka kn kc] 31) none)
              have hR8:=Lib.hid (hR7.out.kept (World.grownBy_alloc w7 (.cells #[.int .i64 o1,.string kd,.string nm,.slice va vn vc,.slice ka kn kc] 31) none) (fun k e=>by cases e))
              have hsz8 : (w7.alloc (.cells #[.int .i64 o1,.string kd,.string nm,.slice va vn vc,.slice ka kn kc] 31)).heap.size = w7.heap.size + 1:=by simp
              have hown7:=Lib.hid hR7.out.out.lt
              have hwz7 : w.heap.size≤w7.heap.size:=hg7.out.size
              replace hst:=Lib.hid hst
              replace hlt:=Lib.hid hlt
              replace hbd3:=Lib.hid hbd3
              replace hlw7:=Lib.hid hlw7
              clear hPa hP7 hx hrr hbd hlf hlf' hP0 hN7 hO7 hz7 hg7 hR7 o0 o1' o2 o3 o4
              go_upto_region 6 with fail
              generalize w7.alloc (.cells #[.int .i64 o1,.string kd,.string nm,.slice va vn vc,.slice ka kn kc] 31) = w8 at hP8 hg8 hO8 hz8 hN8 hal7 hR8 hsz8 ⊢
              obtain ⟨n2b,hn2⟩ : ∃ z : Nat,Hid (z = w7.heap.size):=⟨_,Lib.hid rfl⟩
              rw [← hn2.out] at hN8 hsz8 ⊢
              have hn2' : w7.heap.size≤n2b:=Nat.le_of_eq hn2.out.symm
              replace hsz8:=Lib.hid hsz8
              clear n0 n1 n2 n3 n4
              go_wp2_with fail
              refine (hpart'.out _ (.ok ts.tail) (sub_but_grown hMw.out hg8.out) hP8 hlf3).mono ?_
              rintro e w9 hr
              obtain ⟨x2,p1,kd2,nm2,wa,wn,wc,ja,jn,jc,rfl,hX2,hk2,hb2⟩:=hr.ex
              have hP9 : PrP T tb to' tc g w9 o (aft (part ts.tail)):=hr.2.1
              have hN9:=hN8.out.kept hr.1 (by simp; omega)
              have hO9:=hO8.out.kept hr.1 (by simp; omega)
              have hz9:=hz8.out.kept hr.1 (by simp; omega)
              have hg9:=g_call hg8.out hr.1
              have hR9:=hR8.out.kept hr.1 (fun y e=>by cases e; omega)
              obtain ⟨m0,m1,m2,m3,m4,mf0,mf1,mf2,mf3,mf4⟩:=own5z hN9
              have hnl9:=hN9.lt
              have hnb8 : n2b < w8.heap.size:=by have:=hsz8.out; omega
              have hown8 : ∀ k,(Value.slice va' rows'.length vc').ownBlock = some k→k ≠ n2b∧k < w8.heap.size:=fun k hk=>by
                have h1:=(hown7.out k hk).2
                have:=hsz8.out
                omega
              have hA10:=Lib.hid (hA7.out.mono (nexK_fill (nb:=n2b) hal7.out hn2' hr.1 (fun W=>((((W.setCell ⟨n2b,0,none⟩ (.int .i64 p1)).setCell ⟨n2b,1,none⟩ (.string kd2)).setCell ⟨n2b,2,none⟩ (.string nm2)).setCell ⟨n2b,3,none⟩ (.slice wa wn wc)).setCell ⟨n2b,4,none⟩ (.slice ja jn jc)) (grown5 w9 n2b _ _ _ _ _)))
              have hX10:=Lib.hid ((hX2.mono (nex_set5 (q:=n2b) hnb8 (.int .i64 p1) (.string kd2) (.string nm2) (.slice wa wn wc) (.slice ja jn jc))).mono (nexK_part (B:=B) (ob:=ob) (v:=.slice va' rows'.length vc') _ (by omega) (by omega) (fun k hk=>(hown8 k hk).2)))
              have hgr:=grown5 w9 n2b (.int .i64 p1) (.string kd2) (.string nm2) (.slice wa wn wc) (.slice ja jn jc)
              have hP10:=Lib.hid (hP9.kept hgr (by simp; omega))
              have hO10:=Lib.hid (hO9.kept hgr (by simp; omega))
              have hz10:=Lib.hid (hz9.kept hgr (by simp; omega))
              have hR10 : Hid (RO 31 5 (ob + 1) (.slice va' rows'.length vc') rows' _):=Lib.hid (World.ownsRow.kept hR9.out hgr (by
                cases hv : (Value.slice va' rows'.length vc').ownBlock with
                | none=>exact Or.inl rfl
                | some k=>exact Or.inr (fun e=>(hown8 k hv).1 (Option.some.inj e))))
              have hN10:=Lib.hid (show Own (((((w9.setCell ⟨n2b,0,none⟩ (.int .i64 p1)).setCell ⟨n2b,1,none⟩ (.string kd2)).setCell ⟨n2b,2,none⟩ (.string nm2)).setCell ⟨n2b,3,none⟩ (.slice wa wn wc)).setCell ⟨n2b,4,none⟩ (.slice ja jn jc)) n2b #[.int .i64 p1,.string kd2,.string nm2,.slice wa wn wc,.slice ja jn jc] 31 from ((((hN9.set 0 _).set 1 _).set 2 _).set 3 _).set 4 _)
              have hg10:=Lib.hid (g_setCell (g_setCell (g_setCell (g_setCell (g_setCell hg9 (p:=⟨n2b,0,none⟩) (by simp; omega) (.int .i64 p1)) (p:=⟨n2b,1,none⟩) (by simp; omega) (.string kd2)) (p:=⟨n2b,2,none⟩) (by simp; omega) (.string nm2)) (p:=⟨n2b,3,none⟩) (by simp; omega) (.slice wa wn wc)) (p:=⟨n2b,4,none⟩) (by simp; omega) (.slice ja jn jc))
              have hk10 : Hid (∀ k,(Value.slice va' rows'.length vc').ownBlock = some k→k ≠ n2b):=Lib.hid (fun k hk=>(hown8 k hk).1)
              have hrr2 : Hid (∃ f2,r0 = runS (aft (part ts.tail)) (loopF part op word.data.toList f2 (acc ++ flatE op x) x2)∧lenP (aft (part ts.tail))≤f2):=Lib.hid (by
                obtain ⟨f2,h1,h2⟩:=hst.out
                refine ⟨f2,?_,?_⟩
                · rw [h1]
                  cases hp : part ts.tail with
                  | error e=>rfl
                  | ok v =>
                    have : x2 = v.1:=hb2 v.1 v.2 (by rw [runS_ok,hp])
                    rw [this]
                    rfl
                · cases hp : part ts.tail with
                  | error e=>exact Nat.zero_le _
                  | ok v =>
                    have:=hsh _ _ _ (show part ts.tail = .ok (v.1,v.2) from hp)
                    show v.2.length≤f2
                    omega)
              have hln : Hid (lenP (aft (part ts.tail))≤f∧lenP (aft (part ts.tail)) < ts.length):=Lib.hid (by
                have h3:=hlt.out
                cases hp : part ts.tail with
                | error e=>exact ⟨Nat.zero_le _,by show 0 < _; omega⟩
                | ok v =>
                  have:=hsh _ _ _ (show part ts.tail = .ok (v.1,v.2) from hp)
                  show v.2.length≤f∧v.2.length < ts.length
                  omega)
              have hbd10 : Hid ((acc ++ flatE op x).length≤30001∧x2.kids.length≤30001 + K∧∀ us,aft (part ts.tail) = .ok us→(acc ++ flatE op x).length + (flatE op x2).length + us.length≤30001):=Lib.hid (by
                have h3:=hbd3.out
                have h4:=hlt.out
                rw [List.length_append]
                refine ⟨by omega,by omega,fun us hus=>?_⟩
                cases hp : part ts.tail with
                | error e=>rw [hp] at hus; cases hus
                | ok v =>
                  rw [hp] at hus
                  injection hus with hus
                  have e2 : x2 = v.1:=hb2 v.1 v.2 (by rw [runS_ok,hp])
                  have h5:=flat_len (op:=op) (hkid _ _ _ (show part ts.tail = .ok (v.1,v.2) from hp)) (hsh _ _ _ (show part ts.tail = .ok (v.1,v.2) from hp))
                  rw [e2,← hus]
                  omega)
              clear hr hX2 hb2 hP9 hN9 hO9 hz9 hg9 hR9 hgr hst hown8
              generalize aft (part ts.tail) = s9 at hP10 hrr2 hln hbd10
              obtain ⟨f2,hrr3,hlf2⟩:=hrr2.out
              replace hrr3:=Lib.hid hrr3
              replace hlf2:=Lib.hid hlf2
              go_wp2
              go_roundw
              case rel=>exact ⟨n2b,s9,x2,p1,kd2,nm2,wa,wn,wc,ja,jn,jc,_,rows',va',vc',f2,rfl,by omega,hk10,hN10,hO10,hR10,hA10,hX10,hg10,hP10,hz10,hrr3,hlf2,Lib.hid hln.out.1,hbd10⟩
              case measure=>rw [hP10.out.left,hlw7.out]; exact hln.out.2
        | false =>
          have hfl : flatE op x = [x]:=by unfold flatE; rw [if_neg (by rw [hxop]; intro e; rw [e] at ho; simp at ho)]
          have hal1:=World.grownBy_alloc wr (.cells #[.int .i64 o1,.string kd,.string nm,.slice va vn vc,.slice ka kn kc] 31) none
          have hA':=Lib.hid (show KidsAt (nexK B g ob (.slice kva rows.length kvc) (wr.alloc (.cells #[.int .i64 o1,.string kd,.string nm,.slice va vn vc,.slice ka kn kc] 31))) (acc ++ flatE op x) (rows ++ [[Value.int .i64 o1,.string kd,.string nm,.slice va vn vc,.slice ka kn kc]]) by rw [hfl]; exact (hA.out.append (KidsAt.one hX.out)).mono (nexK_g hal1 (Or.inl rfl)))
          have hfb : Hid (acc.length + (flatE op x).length≤60003 + K):=Lib.hid (by rw [hfl,List.length_singleton]; omega)
          have h1k:=Lib.hid (show ∀ u∈([[Value.int .i64 o1,.string kd,.string nm,.slice va vn vc,.slice ka kn kc]] : List (List Value)).flatten,u.oneCell' = true from fun u hu=>(KidsAt.one hX.out).flat1 u hu)
          have hrow:=Lib.hid (lit_rows (sz:=5) (w:=wr.alloc (.cells #[.int .i64 o1,.string kd,.string nm,.slice va vn vc,.slice ka kn kc] 31)) (g:=wr.heap.size) (cs:=[Value.int .i64 o1,.string kd,.string nm,.slice va vn vc,.slice ka kn kc]) (fun j=>by rw [(Own.new wr #[.int .i64 o1,.string kd,.string nm,.slice va vn vc,.slice ka kn kc] 31).cell j]; simp))
          have hR1:=Lib.hid (hR.out.kept hal1 (fun k e=>by cases e))
          have hO1:=Lib.hid (hO.out.alloc (.cells #[.int .i64 o1,.string kd,.string nm,.slice va vn vc,.slice ka kn kc] 31))
          have hN1:=Lib.hid (hN.out.alloc (.cells #[.int .i64 o1,.string kd,.string nm,.slice va vn vc,.slice ka kn kc] 31))
          have hz1:=Lib.hid (hz.out.alloc (.cells #[.int .i64 o1,.string kd,.string nm,.slice va vn vc,.slice ka kn kc] 31))
          have hg1:=Lib.hid (g_call hg.out (World.grownBy_alloc wr (.cells #[.int .i64 o1,.string kd,.string nm,.slice va vn vc,.slice ka kn kc] 31) (some g)))
          have hP1:=Lib.hid (hP.out.alloc (.cells #[.int .i64 o1,.string kd,.string nm,.slice va vn vc,.slice ka kn kc] 31))
          replace h5:=Lib.hid h5
          have hsum : rows.length + 1≤1099511627776:=by omega
          replace hown:=Lib.hid hown
          clear hRK hKK hxop hfl hal1
          go_wp2_with (at_builtin; refine wpList_append_exp rfl _ _ rfl (ob + 1) kva rows.length kvc rows rfl hR1.out h5.out rfl _ 1 1 [[Value.int .i64 o1,.string kd,.string nm,.slice va vn vc,.slice ka kn kc]] rfl hrow.out (by intro r hr; rw [List.mem_singleton.1 hr]; rfl) h1k.out hsum (by simp; omega) ?_; intro va' vc' w5 hR5 hn5 hg5 hat5; replace hR5:=Lib.hid hR5; replace hg5:=Lib.hid hg5; replace hat5:=Lib.hid hat5; replace hn5:=Lib.hid hn5; have hO5:=Lib.hid (hO1.out.kept hg5.out (fun e=>by have:=(hown.out ob e).1; omega)); have o45:=hO5.out.cell 4; have of45:=hO5.out.free 4; have ol5:=hO5.out.lt; simp only [List.getElem?_toArray,List.getElem?_cons_succ,List.getElem?_cons_zero] at o45)
          have hN5:=Lib.hid (hN1.out.kept hg5.out (fun e=>hkn'.out nb e rfl))
          have hz5:=Lib.hid (hz1.out.kept hg5.out (fun e=>by have:=(hown.out gz e).1; omega))
          have hg5':=Lib.hid (g_own hg1.out hg5.out (fun i e=>by have:=(hown.out i e).1; omega))
          have hP5:=Lib.hid (hP1.out.kept hg5.out (fun e=>by have:=(hown.out g e).1; omega))
          have hA5:=Lib.hid (hA'.out.mono (nexK_new hg5.out hat5.out))
          have hk5 : Hid (∀ k,(Value.slice va' (rows.length + 1) vc').ownBlock = some k→k ≠ nb):=Lib.hid (fun k hk=>by
            rcases hat5.out k hk with h | h
            · exact hkn'.out k h
            · simp at h; omega)
          have h5n:=Lib.hid (show ∀ r∈rows ++ [[Value.int .i64 o1,.string kd,.string nm,.slice va vn vc,.slice ka kn kc]],r.length = 5 from fun r hr=>(List.mem_append.1 hr).elim (h5.out r) (fun h=>by rw [List.mem_singleton.1 h]; rfl))
          clear hA' h1k hrow hg5 hat5 hR hA hX hg hP hz hN hO o0 o1' o2 o3 o4 of4 hR1 hO1 hN1 hz1 hg1 hP1
          generalize hrw : rows ++ [[Value.int .i64 o1,.string kd,.string nm,.slice va vn vc,.slice ka kn kc]] = rows' at hR5 hA5 hn5 h5n
          clear hrw
          rw [hn5.out] at hR5 hA5 hk5
          have hO6:=Lib.hid (show Own (w5.setCell ⟨ob,4,none⟩ (.slice va' (rows.length + 1) vc')) ob #[.int .i64 op,.string ⟨#[]⟩,.string ⟨#[]⟩,.slice none 0 0,.slice va' rows'.length vc'] 31 from by have:=hO5.out.set 4 (.slice va' (rows.length + 1) vc'); rw [hn5.out] at this ⊢; exact this)
          go_upto_region 10 with fail
          have hN6:=Lib.hid (hN5.out.setOther (p:=⟨ob,4,none⟩) (by simp; omega) (.slice va' (rows.length + 1) vc'))
          have hz6:=Lib.hid (hz5.out.setOther (p:=⟨ob,4,none⟩) (by simp; omega) (.slice va' (rows.length + 1) vc'))
          have hg6:=Lib.hid (g_setCell hg5'.out (p:=⟨ob,4,none⟩) (by simp; omega) (.slice va' (rows.length + 1) vc'))
          have hP6:=Lib.hid (hP5.out.set (q:=ob) (i:=4) (by omega) (.slice va' (rows.length + 1) vc'))
          have hR6:=Lib.hid (hR5.out.set (q:=ob) (i:=4) (by omega) (.slice va' (rows.length + 1) vc'))
          have hA6:=Lib.hid (hA5.out.mono (nexK_g (grown_setCell w5 ob 4 (.slice va' (rows.length + 1) vc')) (Or.inr (Or.inr rfl))))
          have hlw6:=Lib.hid (show leftW T.length g (w5.setCell ⟨ob,4,none⟩ (.slice va' (rows.length + 1) vc')) = leftW T.length g wr by rw [hP6.out.left,hP0.out.left])
          generalize w5.setCell ⟨ob,4,none⟩ (.slice va' (rows.length + 1) vc') = w6 at hO6 hN6 hz6 hg6 hP6 hR6 hA6 hlw6 ⊢
          clear hO5 hN5 hz5 hg5' hP5 hR5 hA5 o45 of45
          have hwz6 : w.heap.size≤w6.heap.size:=hg6.out.size
          go_wp2_with fail
          refine (accept_any hK g o _ s' (sub_but_grown hMw.out hg6.out) hP6.out word).mono ?_
          rintro e w7 ⟨rfl,hga,hPa⟩
          have hN7:=Lib.hid (hN6.out.kept hga (by simp; omega))
          have hO7:=Lib.hid (hO6.out.kept hga (by simp; omega))
          have hz7:=Lib.hid (hz6.out.kept hga (by simp; omega))
          have hg7:=Lib.hid (g_call hg6.out hga)
          have hR7:=Lib.hid (hR6.out.kept hga (fun y e=>by cases e; omega))
          have hA7:=Lib.hid (hA6.out.mono (nexK_g hga (Or.inr (Or.inl rfl))))
          clear hN6 hO6 hz6 hg6 hP6 hR6 hA6 hga
          obtain ⟨o0,o1',o2,o3,o4,-⟩:=own5z hO7.out
          have ol7:=hO7.out.lt
          cases hx : isP word.data.toList s' with
          | false =>
            have hP7 : PrP T tb to' tc g w7 o s':=by rw [← pastP_no hx]; exact hPa
            obtain ⟨z0,z1,z2,z3,z4,f0,f1,f2,f3,f4⟩:=own5z hz7.out
            have hzl':=hz7.out.lt
            have hRB:=RdB.mk' (B:=gz) (St:=fun w s=>PrP T tb to' tc g w o s) (s:=s') hg7.out hP7 hgl hwz
            have hF:=Lib.hid (hRB.set5 (q:=gz) (Nat.le_refl _) (.int .i64 op) (.string ⟨#[]⟩) (.string ⟨#[]⟩) (.slice none 0 0) (.slice va' rows'.length vc'))
            have hgob : g < ob + 1:=by omega
            have hrw':=hR7.out.new h5n.out hgob
            have hXF:=Lib.hid (ExAt.make (op:=op) (kd:=⟨#[]⟩) (nm:=⟨#[]⟩) (vals:=[]) (rows_nil _ _) (fun _ hv=>(List.not_mem_nil hv).elim) (hrw'.mono ((nex_set5 (q:=gz) (by omega) (.int .i64 op) (.string ⟨#[]⟩) (.string ⟨#[]⟩) (.slice none 0 0) (.slice va' rows'.length vc')).trans (nex_up _ (show w.heap.size≤ob + 1 by omega) (fun k hk=>Or.inl hk))))
              (hA7.out.mono ((nexK_out _).trans ((nex_set5 (q:=gz) hBz (.int .i64 op) (.string ⟨#[]⟩) (.string ⟨#[]⟩) (.slice none 0 0) (.slice va' rows'.length vc')).trans (nex_up _ (show w.heap.size≤B by omega) (fun k hk=>Or.inl hk))))))
            have hq : Hid (aft r0 = s'∧∀ c q,r0 = .ok (c,q)→c = .mk op [] [] [] (acc ++ flatE op x)):=Lib.hid (by
              rw [hrr.out]
              cases s' with
              | error e=>exact ⟨rfl,fun c q h=>by cases h⟩
              | ok ts =>
                obtain ⟨f2,rfl⟩ : ∃ f2,f' = f2 + 1:=⟨f' - 1,by
                  have h1 : ts.length≤f':=hlf'.out
                  have h2 : ts ≠ []:=hP7.ne
                  have h3 : ts.length ≠ 0:=fun e=>h2 (List.eq_nil_of_length_eq_zero e)
                  omega⟩
                have h4 : loopF part op word.data.toList (f2 + 1) acc x ts = .ok (.mk op [] [] [] (acc ++ flatE op x),ts):=by rw [loopF,if_neg (by rw [show isN word.data.toList ts = false from hx]; decide)]
                show aft (loopF part op word.data.toList (f2 + 1) acc x ts) = _∧_
                rw [runS_ok,h4]
                exact ⟨rfl,fun c q h=>by injection h with h; injection h with h1 h2; exact h1.symm⟩)
            clear hRB hrw' hPa hP7 hrr hx
            go_wp2
            refine bodyPost_ret (v:=.agg #[.int .i64 op,.string ⟨#[]⟩,.string ⟨#[]⟩,.slice none 0 0,.slice va' rows'.length vc']) (by simp [results,Tryz.results109,go_sem, *]) rfl ?_
            have hxb : (PE.mk op [] [] [] (acc ++ flatE op x)).kids.length≤60003 + K:=by show (acc ++ flatE op x).length≤_; rw [List.length_append]; exact hfb.out
            rw [← hr0.out]
            exact Rd.fin hF.out.grown (by rw [hq.out.1]; exact hF.out.st) (fun c q hc=>by rw [hq.out.2 c q hc]; exact ⟨_,rfl,hXF.out,hxb⟩) ⟨_,_,rfl,hXF.out,hxb⟩
          | true =>
            cases s' with
            | error e=>cases hx
            | ok ts =>
              have hP7 : PrP T tb to' tc g w7 o (.ok ts.tail):=by
                have e1 : pastP word.data.toList (.ok ts) = .ok ts.tail:=if_pos hx
                rw [← e1]
                exact hPa
              have hlt : ts.tail.length < ts.length:=by
                cases ts with
                | nil=>cases hx
                | cons t q=>simp
              have hst : ∃ f2,(r0 = bnd (part ts.tail) fun y r'=>loopF part op word.data.toList f2 (acc ++ flatE op x) y r')∧ts.tail.length≤f2:=by
                have h1 : ts.length≤f':=hlf'.out
                obtain ⟨f2,rfl⟩ : ∃ f2,f' = f2 + 1:=⟨f' - 1,by omega⟩
                refine ⟨f2,?_,by omega⟩
                rw [hrr.out,runS_ok,loopF,if_pos (show isN word.data.toList ts = true from hx)]
              have hlf3 : ts.tail.length≤f:=by have h1 : ts.length≤f:=hlf.out; omega
              have hbd3:=hbd.out.2.2 ts rfl
              have hlw7 : leftW T.length g wr = ts.length:=hP0.out.left
              obtain ⟨n0,n1,n2,n3,n4,-⟩:=own5z hN7.out
              have hP8:=hP7.alloc (.cells #[.int .i64 o1,.string kd,.string nm,.slice va vn vc,.slice ka kn kc] 31)
              have hg8:=Lib.hid (g_call hg7.out (World.grownBy_alloc w7 (.cells #[.int .i64 o1,.string kd,.string nm,.slice va vn vc,.slice ka kn kc] 31) (some g)))
              have hO8:=Lib.hid (hO7.out.alloc (.cells #[.int .i64 o1,.string kd,.string nm,.slice va vn vc,.slice ka kn kc] 31))
              have hz8:=Lib.hid (hz7.out.alloc (.cells #[.int .i64 o1,.string kd,.string nm,.slice va vn vc,.slice ka kn kc] 31))
              have hN8:=Lib.hid (Own.new w7 #[.int .i64 o1,.string kd,.string nm,.slice va vn vc,.slice ka kn kc] 31)
              have hal7:=Lib.hid (World.grownBy_alloc w7 (.cells #[.int .i64 o1,.string kd,.string nm,.slice va vn vc,.slice ka kn kc] 31) none)
              have hR8:=Lib.hid (hR7.out.kept (World.grownBy_alloc w7 (.cells #[.int .i64 o1,.string kd,.string nm,.slice va vn vc,.slice ka kn kc] 31) none) (fun k e=>by cases e))
              have hsz8 : (w7.alloc (.cells #[.int .i64 o1,.string kd,.string nm,.slice va vn vc,.slice ka kn kc] 31)).heap.size = w7.heap.size + 1:=by simp
              have hown7:=Lib.hid hR7.out.out.lt
              have hwz7 : w.heap.size≤w7.heap.size:=hg7.out.size
              replace hst:=Lib.hid hst
              replace hlt:=Lib.hid hlt
              replace hbd3:=Lib.hid hbd3
              replace hlw7:=Lib.hid hlw7
              clear hPa hP7 hx hrr hbd hlf hlf' hP0 hN7 hO7 hz7 hg7 hR7 o0 o1' o2 o3 o4
              go_upto_region 6 with fail
              generalize w7.alloc (.cells #[.int .i64 o1,.string kd,.string nm,.slice va vn vc,.slice ka kn kc] 31) = w8 at hP8 hg8 hO8 hz8 hN8 hal7 hR8 hsz8 ⊢
              obtain ⟨n2b,hn2⟩ : ∃ z : Nat,Hid (z = w7.heap.size):=⟨_,Lib.hid rfl⟩
              rw [← hn2.out] at hN8 hsz8 ⊢
              have hn2' : w7.heap.size≤n2b:=Nat.le_of_eq hn2.out.symm
              replace hsz8:=Lib.hid hsz8
              clear n0 n1 n2 n3 n4
              go_wp2_with fail
              refine (hpart'.out _ (.ok ts.tail) (sub_but_grown hMw.out hg8.out) hP8 hlf3).mono ?_
              rintro e w9 hr
              obtain ⟨x2,p1,kd2,nm2,wa,wn,wc,ja,jn,jc,rfl,hX2,hk2,hb2⟩:=hr.ex
              have hP9 : PrP T tb to' tc g w9 o (aft (part ts.tail)):=hr.2.1
              have hN9:=hN8.out.kept hr.1 (by simp; omega)
              have hO9:=hO8.out.kept hr.1 (by simp; omega)
              have hz9:=hz8.out.kept hr.1 (by simp; omega)
              have hg9:=g_call hg8.out hr.1
              have hR9:=hR8.out.kept hr.1 (fun y e=>by cases e; omega)
              obtain ⟨m0,m1,m2,m3,m4,mf0,mf1,mf2,mf3,mf4⟩:=own5z hN9
              have hnl9:=hN9.lt
              have hnb8 : n2b < w8.heap.size:=by have:=hsz8.out; omega
              have hown8 : ∀ k,(Value.slice va' rows'.length vc').ownBlock = some k→k ≠ n2b∧k < w8.heap.size:=fun k hk=>by
                have h1:=(hown7.out k hk).2
                have:=hsz8.out
                omega
              have hA10:=Lib.hid (hA7.out.mono (nexK_fill (nb:=n2b) hal7.out hn2' hr.1 (fun W=>((((W.setCell ⟨n2b,0,none⟩ (.int .i64 p1)).setCell ⟨n2b,1,none⟩ (.string kd2)).setCell ⟨n2b,2,none⟩ (.string nm2)).setCell ⟨n2b,3,none⟩ (.slice wa wn wc)).setCell ⟨n2b,4,none⟩ (.slice ja jn jc)) (grown5 w9 n2b _ _ _ _ _)))
              have hX10:=Lib.hid ((hX2.mono (nex_set5 (q:=n2b) hnb8 (.int .i64 p1) (.string kd2) (.string nm2) (.slice wa wn wc) (.slice ja jn jc))).mono (nexK_part (B:=B) (ob:=ob) (v:=.slice va' rows'.length vc') _ (by omega) (by omega) (fun k hk=>(hown8 k hk).2)))
              have hgr:=grown5 w9 n2b (.int .i64 p1) (.string kd2) (.string nm2) (.slice wa wn wc) (.slice ja jn jc)
              have hP10:=Lib.hid (hP9.kept hgr (by simp; omega))
              have hO10:=Lib.hid (hO9.kept hgr (by simp; omega))
              have hz10:=Lib.hid (hz9.kept hgr (by simp; omega))
              have hR10 : Hid (RO 31 5 (ob + 1) (.slice va' rows'.length vc') rows' _):=Lib.hid (World.ownsRow.kept hR9.out hgr (by
                cases hv : (Value.slice va' rows'.length vc').ownBlock with
                | none=>exact Or.inl rfl
                | some k=>exact Or.inr (fun e=>(hown8 k hv).1 (Option.some.inj e))))
              have hN10:=Lib.hid (show Own (((((w9.setCell ⟨n2b,0,none⟩ (.int .i64 p1)).setCell ⟨n2b,1,none⟩ (.string kd2)).setCell ⟨n2b,2,none⟩ (.string nm2)).setCell ⟨n2b,3,none⟩ (.slice wa wn wc)).setCell ⟨n2b,4,none⟩ (.slice ja jn jc)) n2b #[.int .i64 p1,.string kd2,.string nm2,.slice wa wn wc,.slice ja jn jc] 31 from ((((hN9.set 0 _).set 1 _).set 2 _).set 3 _).set 4 _)
              have hg10:=Lib.hid (g_setCell (g_setCell (g_setCell (g_setCell (g_setCell hg9 (p:=⟨n2b,0,none⟩) (by simp; omega) (.int .i64 p1)) (p:=⟨n2b,1,none⟩) (by simp; omega) (.string kd2)) (p:=⟨n2b,2,none⟩) (by simp; omega) (.string nm2)) (p:=⟨n2b,3,none⟩) (by simp; omega) (.slice wa wn wc)) (p:=⟨n2b,4,none⟩) (by simp; omega) (.slice ja jn jc))
              have hk10 : Hid (∀ k,(Value.slice va' rows'.length vc').ownBlock = some k→k ≠ n2b):=Lib.hid (fun k hk=>(hown8 k hk).1)
              have hrr2 : Hid (∃ f2,r0 = runS (aft (part ts.tail)) (loopF part op word.data.toList f2 (acc ++ flatE op x) x2)∧lenP (aft (part ts.tail))≤f2):=Lib.hid (by
                obtain ⟨f2,h1,h2⟩:=hst.out
                refine ⟨f2,?_,?_⟩
                · rw [h1]
                  cases hp : part ts.tail with
                  | error e=>rfl
                  | ok v =>
                    have : x2 = v.1:=hb2 v.1 v.2 (by rw [runS_ok,hp])
                    rw [this]
                    rfl
                · cases hp : part ts.tail with
                  | error e=>exact Nat.zero_le _
                  | ok v =>
                    have:=hsh _ _ _ (show part ts.tail = .ok (v.1,v.2) from hp)
                    show v.2.length≤f2
                    omega)
              have hln : Hid (lenP (aft (part ts.tail))≤f∧lenP (aft (part ts.tail)) < ts.length):=Lib.hid (by
                have h3:=hlt.out
                cases hp : part ts.tail with
                | error e=>exact ⟨Nat.zero_le _,by show 0 < _; omega⟩
                | ok v =>
                  have:=hsh _ _ _ (show part ts.tail = .ok (v.1,v.2) from hp)
                  show v.2.length≤f∧v.2.length < ts.length
                  omega)
              have hbd10 : Hid ((acc ++ flatE op x).length≤30001∧x2.kids.length≤30001 + K∧∀ us,aft (part ts.tail) = .ok us→(acc ++ flatE op x).length + (flatE op x2).length + us.length≤30001):=Lib.hid (by
                have h3:=hbd3.out
                have h4:=hlt.out
                rw [List.length_append]
                refine ⟨by omega,by omega,fun us hus=>?_⟩
                cases hp : part ts.tail with
                | error e=>rw [hp] at hus; cases hus
                | ok v =>
                  rw [hp] at hus
                  injection hus with hus
                  have e2 : x2 = v.1:=hb2 v.1 v.2 (by rw [runS_ok,hp])
                  have h5:=flat_len (op:=op) (hkid _ _ _ (show part ts.tail = .ok (v.1,v.2) from hp)) (hsh _ _ _ (show part ts.tail = .ok (v.1,v.2) from hp))
                  rw [e2,← hus]
                  omega)
              clear hr hX2 hb2 hP9 hN9 hO9 hz9 hg9 hR9 hgr hst hown8
              generalize aft (part ts.tail) = s9 at hP10 hrr2 hln hbd10
              obtain ⟨f2,hrr3,hlf2⟩:=hrr2.out
              replace hrr3:=Lib.hid hrr3
              replace hlf2:=Lib.hid hlf2
              go_wp2
              go_roundw
              case rel=>exact ⟨n2b,s9,x2,p1,kd2,nm2,wa,wn,wc,ja,jn,jc,_,rows',va',vc',f2,rfl,by omega,hk10,hN10,hO10,hR10,hA10,hX10,hg10,hP10,hz10,hrr3,hlf2,Lib.hid hln.out.1,hbd10⟩
              case measure=>rw [hP10.out.left,hlw7.out]; exact hln.out.2
end
section
variable {M : Mem} {T : List Tok} {tb to' tc : Nat}
set_option maxRecDepth 100000 in
set_option maxHeartbeats 16000000 in
theorem chain_not (hK : TokM M T tb to' tc) (g o f K : Nat) (hKb : K≤4000000000) (op : Int) (word : ByteArray) (part : List Tok→R PE) (hsh : Shr part) (hkid : Kid part)
    (hpart : ∀ (w : World) (s : PS),Sub M (but g w)→PrP T tb to' tc g w o s→lenP s≤f→Calls Tryz.prog 188 #[.pointer (some ⟨g,0,none⟩)] w (Rd g (fun w s=>PrP T tb to' tc g w o s) w (ExIs w.heap.size g K) (runS s part)))
    (w : World) (s : PS) (hM : Sub M (but g w)) (h : PrP T tb to' tc g w o s) (hl : lenP s≤f) :
    Calls Tryz.prog 109 #[.pointer (some ⟨g,0,none⟩),.int .i64 op,.string word,.func (.func 188) #[.pointer (some ⟨g,0,none⟩)] #[]] w (Rd g (fun w s=>PrP T tb to' tc g w o s) w (ExIs w.heap.size g (60003 + K)) (runS s (chainF part op word.data.toList f))):=by
  have hgl:=h.lt
  have hlen : lenP s≤30001:=by rw [← h.left]; unfold leftW; have:=hK.few; split <;> omega
  have hne : Hid (∀ ts,s = .ok ts→ts ≠ []):=Lib.hid fun ts e=>by subst e; exact h.ne
  have hz:=Lib.hid (Own.new w #[.int .i64 0,.string ⟨#[]⟩,.string ⟨#[]⟩,.slice none 0 0,.slice none 0 0] 31)
  have h0:=Lib.hid (h.alloc (.cells #[.int .i64 0,.string ⟨#[]⟩,.string ⟨#[]⟩,.slice none 0 0,.slice none 0 0] 31))
  have hg0:=Lib.hid (World.grownBy_alloc w (.cells #[.int .i64 0,.string ⟨#[]⟩,.string ⟨#[]⟩,.slice none 0 0,.slice none 0 0] 31) (some g))
  have hMw:=Lib.hid hM
  have hpart':=Lib.hid hpart
  clear h hM hpart
  go_enter Tryz.func109,Tryz.ntmps109
  go_wp2_with fail
  generalize w.alloc (.cells #[.int .i64 0,.string ⟨#[]⟩,.string ⟨#[]⟩,.slice none 0 0,.slice none 0 0] 31) = w0 at hz h0 hg0 ⊢
  obtain ⟨gz,hgz⟩ : ∃ z : Nat,Hid (z = w.heap.size):=⟨_,Lib.hid rfl⟩
  rw [← hgz.out] at hz ⊢
  have hwz : w.heap.size≤gz:=Nat.le_of_eq hgz.out.symm
  have hzB : gz < w0.heap.size:=hz.out.lt
  obtain ⟨B,hB⟩ : ∃ z : Nat,Hid (z = w0.heap.size):=⟨_,Lib.hid rfl⟩
  refine (hpart'.out _ s (sub_but_grown hMw.out hg0.out) h0.out hl).mono ?_
  rintro e w1 hr
  obtain ⟨x,o1,kd,nm,va,vn,vc,ka,kn,kc,rfl,hX,hxk,hxb⟩:=hr.ex
  have hg1':=g_call hg0.out hr.1
  have hP1':=hr.2.1
  have hz1':=hz.out.kept hr.1 (by simp; omega)
  have hsz1 : w0.heap.size≤w1.heap.size:=hr.1.size
  have hr1:=Lib.hid (show runS s (chainF part op word.data.toList f) = runS (aft (runS s part)) (fun r=>if isN word.data.toList r then loopF part op word.data.toList f [] x r else .ok (x,r)) from
    run_step (f:=part) (K:=fun x r=>if isN word.data.toList r then loopF part op word.data.toList f [] x r else .ok (x,r)) (s:=s) x (fun b q h=>by rw [hxb b q h]))
  have hx1:=Lib.hid (show ∀ ts,aft (runS s part) = .ok ts→(flatE op x).length + ts.length≤30001∧ts.length≤f from fun ts hts=>by
    cases s with
    | error e=>cases hts
    | ok us =>
      have hts' : aft (part us) = .ok ts:=hts
      cases hp : part us with
      | error e=>rw [hp] at hts'; cases hts'
      | ok v =>
        rw [hp] at hts'
        injection hts' with hts'
        have e1 : x = v.1:=hxb v.1 v.2 (by rw [runS_ok,hp])
        have h1:=hsh _ _ _ (show part us = .ok (v.1,v.2) from hp)
        have h2:=flat_len (op:=op) (hkid _ _ _ (show part us = .ok (v.1,v.2) from hp)) h1
        have h3 : us.length≤30001:=hlen
        have h4 : us.length≤f:=hl
        rw [← hts',e1]
        omega)
  have hsok : Hid (aft (runS s part) = aft (runS s part)):=Lib.hid rfl
  have hg1:=Lib.hid (g_call hg1' (World.grownBy_alloc w1 (.cells #[.int .i64 o1,.string kd,.string nm,.slice va vn vc,.slice ka kn kc] 31) (some g)))
  have hP1:=Lib.hid (hP1'.alloc (.cells #[.int .i64 o1,.string kd,.string nm,.slice va vn vc,.slice ka kn kc] 31))
  have hz1:=Lib.hid (hz1'.alloc (.cells #[.int .i64 o1,.string kd,.string nm,.slice va vn vc,.slice ka kn kc] 31))
  have hf1:=Lib.hid (Own.new w1 #[.int .i64 o1,.string kd,.string nm,.slice va vn vc,.slice ka kn kc] 31)
  have hX1:=Lib.hid (hX.mono (nex_grown (World.grownBy_alloc w1 (.cells #[.int .i64 o1,.string kd,.string nm,.slice va vn vc,.slice ka kn kc] 31) none) (fun k e=>by cases e)))
  have hzl1 : gz < w1.heap.size:=by omega
  rw [← hB.out] at hX1 hsz1
  have hBz : gz < B:=by have:=hB.out; omega
  clear hr hX hxb hg1' hP1' hz1' hg0 hz h0 hzB hsok
  generalize aft (runS s part) = s1 at hr1 hx1 hP1
  go_upto_region 2 with fail
  generalize w1.alloc (.cells #[.int .i64 o1,.string kd,.string nm,.slice va vn vc,.slice ka kn kc] 31) = w2 at hg1 hP1 hz1 hf1 hX1 ⊢
  obtain ⟨gf,hgf⟩ : ∃ z : Nat,Hid (z = w1.heap.size):=⟨_,Lib.hid rfl⟩
  rw [← hgf.out] at hf1 hzl1 hsz1 ⊢
  go_wp2_with fail
  refine (is_any hK g o _ s1 (sub_but_grown hMw.out hg1.out) hP1.out word).mono ?_
  rintro e w3 ⟨rfl,hb⟩
  have hg3:=Lib.hid (g_below hg1.out hb)
  have hP3:=Lib.hid (hP1.out.below hb)
  have hz3:=Lib.hid (hz1.out.below hb hz1.out.lt)
  have hf3:=Lib.hid (hf1.out.below hb hf1.out.lt)
  have hX3:=Lib.hid (hX1.out.mono (nex_grown (grown_of_below hb none) (fun k e=>by cases e)))
  have hfl3 : gf < w3.heap.size:=hf3.out.lt
  clear hb hg1 hP1 hz1 hf1 hX1
  obtain ⟨y0,y1,y2,y3,y4,-⟩:=own5z hf3.out
  cases hx : isP word.data.toList s1 with
  | false =>
    obtain ⟨z0,z1,z2,z3,z4,f0,f1,f2,f3,f4⟩:=own5z hz3.out
    have hzl':=hz3.out.lt
    have hRB:=RdB.mk' (B:=gz) (St:=fun w s=>PrP T tb to' tc g w o s) (s:=s1) hg3.out hP3.out hgl hwz
    have hF:=Lib.hid (hRB.set5 (q:=gz) (Nat.le_refl _) (.int .i64 o1) (.string kd) (.string nm) (.slice va vn vc) (.slice ka kn kc))
    have hXF:=Lib.hid (hX3.out.mono ((nex_set5 (q:=gz) hBz (.int .i64 o1) (.string kd) (.string nm) (.slice va vn vc) (.slice ka kn kc)).trans (nex_up _ (show w.heap.size≤B by omega) (fun k hk=>Or.inl hk))))
    have hq : Hid (runS s (chainF part op word.data.toList f) = runS s1 (fun r=>.ok (x,r))):=Lib.hid (by
      rw [hr1.out]
      cases s1 with
      | error e=>rfl
      | ok ts=>show (if isN word.data.toList ts then _ else _) = _; rw [show isN word.data.toList ts = false from hx]; rfl)
    clear hRB hr1 hx hx1
    go_wp2
    refine bodyPost_ret (v:=.agg #[.int .i64 o1,.string kd,.string nm,.slice va vn vc,.slice ka kn kc]) (by simp [results,Tryz.results109,go_sem, *]) rfl ?_
    rw [hq.out]
    refine Rd.fin hF.out.grown ?_ (fun c q hc=>?_) ⟨x,_,rfl,hXF.out,by omega⟩
    · cases s1 with
      | error e=>exact hF.out.st
      | ok ts=>exact hF.out.st
    · cases s1 with
      | error e=>cases hc
      | ok ts =>
        injection hc with hc
        injection hc with hc1 hc2
        rw [← hc1]
        exact ⟨_,rfl,hXF.out,by omega⟩
  | true =>
    cases s1 with
    | error e=>cases hx
    | ok ts1 =>
      have hq : Hid (runS s (chainF part op word.data.toList f) = runS (.ok ts1) (loopF part op word.data.toList f [] x)):=Lib.hid (by
        rw [hr1.out]
        exact if_pos hx)
      obtain ⟨r0,hr0⟩ : ∃ r,Hid (r = runS s (chainF part op word.data.toList f)):=⟨_,Lib.hid rfl⟩
      have hq2:=Lib.hid (hr0.out.trans hq.out)
      have hx2:=Lib.hid (hx1.out ts1 rfl)
      clear hr1 hx1 hq hx
      have hzl3:=hz3.out.lt
      have hal : w3.grownBy ((w3.alloc (.cells #[.int .i64 op,.string ⟨#[]⟩,.string ⟨#[]⟩,.slice none 0 0,.slice none 0 0] 31)).alloc (.cells #[.int .i64 o1,.string kd,.string nm,.slice va vn vc,.slice ka kn kc] 31)) none:=g_call (World.grownBy_alloc w3 _ none) (World.grownBy_alloc _ _ none)
      have hg4:=Lib.hid (g_call hg3.out (g_call (World.grownBy_alloc w3 (.cells #[.int .i64 op,.string ⟨#[]⟩,.string ⟨#[]⟩,.slice none 0 0,.slice none 0 0] 31) (some g)) (World.grownBy_alloc _ (.cells #[.int .i64 o1,.string kd,.string nm,.slice va vn vc,.slice ka kn kc] 31) (some g))))
      have hP4:=Lib.hid ((hP3.out.alloc (.cells #[.int .i64 op,.string ⟨#[]⟩,.string ⟨#[]⟩,.slice none 0 0,.slice none 0 0] 31)).alloc (.cells #[.int .i64 o1,.string kd,.string nm,.slice va vn vc,.slice ka kn kc] 31))
      have hz4:=Lib.hid ((hz3.out.alloc (.cells #[.int .i64 op,.string ⟨#[]⟩,.string ⟨#[]⟩,.slice none 0 0,.slice none 0 0] 31)).alloc (.cells #[.int .i64 o1,.string kd,.string nm,.slice va vn vc,.slice ka kn kc] 31))
      have ho4:=Lib.hid ((Own.new w3 #[.int .i64 op,.string ⟨#[]⟩,.string ⟨#[]⟩,.slice none 0 0,.slice none 0 0] 31).alloc (.cells #[.int .i64 o1,.string kd,.string nm,.slice va vn vc,.slice ka kn kc] 31))
      have hn4:=Lib.hid (show Own ((w3.alloc (.cells #[.int .i64 op,.string ⟨#[]⟩,.string ⟨#[]⟩,.slice none 0 0,.slice none 0 0] 31)).alloc (.cells #[.int .i64 o1,.string kd,.string nm,.slice va vn vc,.slice ka kn kc] 31)) (w3.heap.size + 1) #[.int .i64 o1,.string kd,.string nm,.slice va vn vc,.slice ka kn kc] 31 from Own.new' (by simp))
      have hX4 : Hid (ExAt (nexK B g w3.heap.size (.slice none 0 0) _) x [.int .i64 o1,.string kd,.string nm,.slice va vn vc,.slice ka kn kc]):=Lib.hid (hX3.out.mono (nex_new hal (fun k e=>by cases e) (fun k hk=>by
        simp [Value.ownBlock] at hk
        rcases hk with rfl | rfl
        · exact Or.inl (by simp)
        · exact Or.inr (Or.inl (Nat.le_refl _)))))
      clear hal hg3 hP3 hz3 hX3
      go_wp2_with fail
      generalize ((w3.alloc (.cells #[.int .i64 op,.string ⟨#[]⟩,.string ⟨#[]⟩,.slice none 0 0,.slice none 0 0] 31)).alloc (.cells #[.int .i64 o1,.string kd,.string nm,.slice va vn vc,.slice ka kn kc] 31)) = w4 at hg4 hP4 hz4 ho4 hn4 hX4 ⊢
      obtain ⟨ob,hob⟩ : ∃ z : Nat,Hid (z = w3.heap.size):=⟨_,Lib.hid rfl⟩
      rw [← hob.out] at ho4 hn4 hX4 hzl3 ⊢
      have hBo : B≤ob:=by have:=hob.out; omega
      have hKx : Hid (x.kids.length≤30001 + K):=Lib.hid (by omega)
      clear hxk hf3 y0 y1 y2 y3 y4
      go_loopw [11] (fun s11 wr=>∃ (nb : Nat) (s' : PS) (x : PE) (o1 : Int) (kd nm : ByteArray) (va : Option Addr) (vn vc : Nat) (ka : Option Addr) (kn kc : Nat) (acc : List PE) (rows : List (List Value)) (kva : Option Addr) (kvc f' : Nat),
        s11 = .pointer (some ⟨nb,0,none⟩)∧ob < nb∧Hid (∀ k,(Value.slice kva rows.length kvc).ownBlock = some k→k ≠ nb)∧Hid (Own wr nb #[.int .i64 o1,.string kd,.string nm,.slice va vn vc,.slice ka kn kc] 31)∧Hid (Own wr ob #[.int .i64 op,.string ⟨#[]⟩,.string ⟨#[]⟩,.slice none 0 0,.slice kva rows.length kvc] 31) ∧
        Hid (RO 31 5 (ob + 1) (.slice kva rows.length kvc) rows wr)∧Hid (KidsAt (nexK B g ob (.slice kva rows.length kvc) wr) acc rows)∧Hid (ExAt (nexK B g ob (.slice kva rows.length kvc) wr) x [.int .i64 o1,.string kd,.string nm,.slice va vn vc,.slice ka kn kc]) ∧
        Hid (w.grownBy wr (some g))∧Hid (PrP T tb to' tc g wr o s')∧Hid (Own wr gz #[.int .i64 0,.string ⟨#[]⟩,.string ⟨#[]⟩,.slice none 0 0,.slice none 0 0] 31)∧Hid (r0 = runS s' (loopF part op word.data.toList f' acc x))∧Hid (lenP s'≤f')∧Hid (lenP s'≤f)∧Hid (acc.length≤30001∧x.kids.length≤30001 + K∧∀ ts,s' = .ok ts→acc.length + (flatE op x).length + ts.length≤30001)) (fun _ wr=>leftW T.length g wr)
      case atStart=>exact ⟨ob + 1,.ok ts1,x,o1,kd,nm,va,vn,vc,ka,kn,kc,[],[],none,0,f,rfl,by omega,Lib.hid (fun k e=>by cases e),hn4,ho4,Lib.hid (ro_nil _ _ _ _),Lib.hid (KidsAt.nil _),hX4,hg4,hP4,hz4,hq2,Lib.hid hx2.out.2,Lib.hid hx2.out.2,Lib.hid ⟨by simp,hKx.out,fun ts e=>by injection e with e; rw [← e]; have:=hx2.out.1; simp; omega⟩⟩
      case round =>
        clear hn4 ho4 hX4 hg4 hP4 hz4 hq2 hx2 hKx
        obtain ⟨nb,s',x,o1,kd,nm,va,vn,vc,ka,kn,kc,acc,rows,kva,kvc,f',rfl,hon,hkn',hN,hO,hR,hA,hX,hg,hP,hz,hrr,hlf',hlf,hbd⟩:=hrel
        obtain ⟨n0,n1,n2,n3,n4,-⟩:=own5z hN.out
        obtain ⟨o0,o1',o2,o3,o4,-,-,-,-,of4⟩:=own5z hO.out
        have hol:=hO.out.lt
        have hnl:=hN.out.lt
        have hown:=hR.out.out.lt
        obtain ⟨hxop,RK,hRK,hKK⟩:=ex_kids hX.out
        have h5:=hA.out.five
        have hal : acc.length = rows.length:=hA.out.1.symm
        have hkn:=(rows_len hRK).1
        have hxl:=hKK.1
        have hb1:=hbd.out.1
        have hP0:=hP
        have hb2:=hbd.out.2.1
        cases ho : (o1 == op) with
        | true =>
          have hfl : flatE op x = x.kids:=by unfold flatE; rw [if_pos (by rw [hxop]; exact eq_of_beq ho)]
          have hA':=Lib.hid (show KidsAt (nexK B g ob (.slice kva rows.length kvc) wr) (acc ++ flatE op x) (rows ++ RK) by rw [hfl]; exact hA.out.append hKK)
          have hfb : Hid (acc.length + (flatE op x).length≤60003 + K):=Lib.hid (by rw [hfl]; omega)
          have hRK':=Lib.hid (hRK.mono (nex_in _ _ _))
          have h5k:=Lib.hid hKK.five
          have h1k:=Lib.hid hKK.flat1
          replace h5:=Lib.hid h5
          have hsum : rows.length + kn≤1099511627776:=by omega
          replace hown:=Lib.hid hown
          clear hRK hKK hxop hfl
          go_wp2_with (at_builtin; refine wpList_append_exp rfl _ _ rfl (ob + 1) kva rows.length kvc rows rfl hR.out h5.out rfl ka kn kc RK rfl hRK'.out h5k.out h1k.out hsum (by omega) ?_; intro va' vc' w5 hR5 hn5 hg5 hat5; replace hR5:=Lib.hid hR5; replace hg5:=Lib.hid hg5; replace hat5:=Lib.hid hat5; replace hn5:=Lib.hid hn5; have hO5:=Lib.hid (hO.out.kept hg5.out (fun e=>by have:=(hown.out ob e).1; omega)); have o45:=hO5.out.cell 4; have of45:=hO5.out.free 4; have ol5:=hO5.out.lt; simp only [List.getElem?_toArray,List.getElem?_cons_succ,List.getElem?_cons_zero] at o45)
          have hN5:=Lib.hid (hN.out.kept hg5.out (fun e=>hkn'.out nb e rfl))
          have hz5:=Lib.hid (hz.out.kept hg5.out (fun e=>by have:=(hown.out gz e).1; omega))
          have hg5':=Lib.hid (g_own hg.out hg5.out (fun i e=>by have:=(hown.out i e).1; omega))
          have hP5:=Lib.hid (hP.out.kept hg5.out (fun e=>by have:=(hown.out g e).1; omega))
          have hA5:=Lib.hid (hA'.out.mono (nexK_new hg5.out hat5.out))
          have hk5 : Hid (∀ k,(Value.slice va' (rows.length + kn) vc').ownBlock = some k→k ≠ nb):=Lib.hid (fun k hk=>by
            rcases hat5.out k hk with h | h
            · exact hkn'.out k h
            · omega)
          have h5n:=Lib.hid (show ∀ r∈rows ++ RK,r.length = 5 from fun r hr=>(List.mem_append.1 hr).elim (h5.out r) (h5k.out r))
          clear hA' hRK' h5k h1k hg5 hat5 hR hA hX hg hP hz hN hO o0 o1' o2 o3 o4 of4
          generalize hrw : rows ++ RK = rows' at hR5 hA5 hn5 h5n
          clear hrw
          rw [hn5.out] at hR5 hA5 hk5
          have hO6:=Lib.hid (show Own (w5.setCell ⟨ob,4,none⟩ (.slice va' (rows.length + kn) vc')) ob #[.int .i64 op,.string ⟨#[]⟩,.string ⟨#[]⟩,.slice none 0 0,.slice va' rows'.length vc'] 31 from by have:=hO5.out.set 4 (.slice va' (rows.length + kn) vc'); rw [hn5.out] at this ⊢; exact this)
          go_upto_region 10 with fail
          have hN6:=Lib.hid (hN5.out.setOther (p:=⟨ob,4,none⟩) (by simp; omega) (.slice va' (rows.length + kn) vc'))
          have hz6:=Lib.hid (hz5.out.setOther (p:=⟨ob,4,none⟩) (by simp; omega) (.slice va' (rows.length + kn) vc'))
          have hg6:=Lib.hid (g_setCell hg5'.out (p:=⟨ob,4,none⟩) (by simp; omega) (.slice va' (rows.length + kn) vc'))
          have hP6:=Lib.hid (hP5.out.set (q:=ob) (i:=4) (by omega) (.slice va' (rows.length + kn) vc'))
          have hR6:=Lib.hid (hR5.out.set (q:=ob) (i:=4) (by omega) (.slice va' (rows.length + kn) vc'))
          have hA6:=Lib.hid (hA5.out.mono (nexK_g (grown_setCell w5 ob 4 (.slice va' (rows.length + kn) vc')) (Or.inr (Or.inr rfl))))
          have hlw6:=Lib.hid (show leftW T.length g (w5.setCell ⟨ob,4,none⟩ (.slice va' (rows.length + kn) vc')) = leftW T.length g wr by rw [hP6.out.left,hP0.out.left])
          generalize w5.setCell ⟨ob,4,none⟩ (.slice va' (rows.length + kn) vc') = w6 at hO6 hN6 hz6 hg6 hP6 hR6 hA6 hlw6 ⊢
          clear hO5 hN5 hz5 hg5' hP5 hR5 hA5 o45 of45
          have hwz6 : w.heap.size≤w6.heap.size:=hg6.out.size
          go_wp2_with fail
          refine (accept_any hK g o _ s' (sub_but_grown hMw.out hg6.out) hP6.out word).mono ?_
          rintro e w7 ⟨rfl,hga,hPa⟩
          have hN7:=Lib.hid (hN6.out.kept hga (by simp; omega))
          have hO7:=Lib.hid (hO6.out.kept hga (by simp; omega))
          have hz7:=Lib.hid (hz6.out.kept hga (by simp; omega))
          have hg7:=Lib.hid (g_call hg6.out hga)
          have hR7:=Lib.hid (hR6.out.kept hga (fun y e=>by cases e; omega))
          have hA7:=Lib.hid (hA6.out.mono (nexK_g hga (Or.inr (Or.inl rfl))))
          clear hN6 hO6 hz6 hg6 hP6 hR6 hA6 hga
          obtain ⟨o0,o1',o2,o3,o4,-⟩:=own5z hO7.out
          have ol7:=hO7.out.lt
          cases hx : isP word.data.toList s' with
          | false =>
            have hP7 : PrP T tb to' tc g w7 o s':=by rw [← pastP_no hx]; exact hPa
            obtain ⟨z0,z1,z2,z3,z4,f0,f1,f2,f3,f4⟩:=own5z hz7.out
            have hzl':=hz7.out.lt
            have hRB:=RdB.mk' (B:=gz) (St:=fun w s=>PrP T tb to' tc g w o s) (s:=s') hg7.out hP7 hgl hwz
            have hF:=Lib.hid (hRB.set5 (q:=gz) (Nat.le_refl _) (.int .i64 op) (.string ⟨#[]⟩) (.string ⟨#[]⟩) (.slice none 0 0) (.slice va' rows'.length vc'))
            have hgob : g < ob + 1:=by omega
            have hrw':=hR7.out.new h5n.out hgob
            have hXF:=Lib.hid (ExAt.make (op:=op) (kd:=⟨#[]⟩) (nm:=⟨#[]⟩) (vals:=[]) (rows_nil _ _) (fun _ hv=>(List.not_mem_nil hv).elim) (hrw'.mono ((nex_set5 (q:=gz) (by omega) (.int .i64 op) (.string ⟨#[]⟩) (.string ⟨#[]⟩) (.slice none 0 0) (.slice va' rows'.length vc')).trans (nex_up _ (show w.heap.size≤ob + 1 by omega) (fun k hk=>Or.inl hk))))
              (hA7.out.mono ((nexK_out _).trans ((nex_set5 (q:=gz) hBz (.int .i64 op) (.string ⟨#[]⟩) (.string ⟨#[]⟩) (.slice none 0 0) (.slice va' rows'.length vc')).trans (nex_up _ (show w.heap.size≤B by omega) (fun k hk=>Or.inl hk))))))
            have hq : Hid (aft r0 = s'∧∀ c q,r0 = .ok (c,q)→c = .mk op [] [] [] (acc ++ flatE op x)):=Lib.hid (by
              rw [hrr.out]
              cases s' with
              | error e=>exact ⟨rfl,fun c q h=>by cases h⟩
              | ok ts =>
                obtain ⟨f2,rfl⟩ : ∃ f2,f' = f2 + 1:=⟨f' - 1,by
                  have h1 : ts.length≤f':=hlf'.out
                  have h2 : ts ≠ []:=hP7.ne
                  have h3 : ts.length ≠ 0:=fun e=>h2 (List.eq_nil_of_length_eq_zero e)
                  omega⟩
                have h4 : loopF part op word.data.toList (f2 + 1) acc x ts = .ok (.mk op [] [] [] (acc ++ flatE op x),ts):=by rw [loopF,if_neg (by rw [show isN word.data.toList ts = false from hx]; decide)]
                show aft (loopF part op word.data.toList (f2 + 1) acc x ts) = _∧_
                rw [runS_ok,h4]
                exact ⟨rfl,fun c q h=>by injection h with h; injection h with h1 h2; exact h1.symm⟩)
            clear hRB hrw' hPa hP7 hrr hx
            go_wp2
            refine bodyPost_ret (v:=.agg #[.int .i64 op,.string ⟨#[]⟩,.string ⟨#[]⟩,.slice none 0 0,.slice va' rows'.length vc']) (by simp [results,Tryz.results109,go_sem, *]) rfl ?_
            have hxb : (PE.mk op [] [] [] (acc ++ flatE op x)).kids.length≤60003 + K:=by show (acc ++ flatE op x).length≤_; rw [List.length_append]; exact hfb.out
            rw [← hr0.out]
            exact Rd.fin hF.out.grown (by rw [hq.out.1]; exact hF.out.st) (fun c q hc=>by rw [hq.out.2 c q hc]; exact ⟨_,rfl,hXF.out,hxb⟩) ⟨_,_,rfl,hXF.out,hxb⟩
          | true =>
            cases s' with
            | error e=>cases hx
            | ok ts =>
              have hP7 : PrP T tb to' tc g w7 o (.ok ts.tail):=by
                have e1 : pastP word.data.toList (.ok ts) = .ok ts.tail:=if_pos hx
                rw [← e1]
                exact hPa
              have hlt : ts.tail.length < ts.length:=by
                cases ts with
                | nil=>cases hx
                | cons t q=>simp
              have hst : ∃ f2,(r0 = bnd (part ts.tail) fun y r'=>loopF part op word.data.toList f2 (acc ++ flatE op x) y r')∧ts.tail.length≤f2:=by
                have h1 : ts.length≤f':=hlf'.out
                obtain ⟨f2,rfl⟩ : ∃ f2,f' = f2 + 1:=⟨f' - 1,by omega⟩
                refine ⟨f2,?_,by omega⟩
                rw [hrr.out,runS_ok,loopF,if_pos (show isN word.data.toList ts = true from hx)]
              have hlf3 : ts.tail.length≤f:=by have h1 : ts.length≤f:=hlf.out; omega
              have hbd3:=hbd.out.2.2 ts rfl
              have hlw7 : leftW T.length g wr = ts.length:=hP0.out.left
              obtain ⟨n0,n1,n2,n3,n4,-⟩:=own5z hN7.out
              have hP8:=hP7.alloc (.cells #[.int .i64 o1,.string kd,.string nm,.slice va vn vc,.slice ka kn kc] 31)
              have hg8:=Lib.hid (g_call hg7.out (World.grownBy_alloc w7 (.cells #[.int .i64 o1,.string kd,.string nm,.slice va vn vc,.slice ka kn kc] 31) (some g)))
              have hO8:=Lib.hid (hO7.out.alloc (.cells #[.int .i64 o1,.string kd,.string nm,.slice va vn vc,.slice ka kn kc] 31))
              have hz8:=Lib.hid (hz7.out.alloc (.cells #[.int .i64 o1,.string kd,.string nm,.slice va vn vc,.slice ka kn kc] 31))
              have hN8:=Lib.hid (Own.new w7 #[.int .i64 o1,.string kd,.string nm,.slice va vn vc,.slice ka kn kc] 31)
              have hal7:=Lib.hid (World.grownBy_alloc w7 (.cells #[.int .i64 o1,.string kd,.string nm,.slice va vn vc,.slice ka kn kc] 31) none)
              have hR8:=Lib.hid (hR7.out.kept (World.grownBy_alloc w7 (.cells #[.int .i64 o1,.string kd,.string nm,.slice va vn vc,.slice ka kn kc] 31) none) (fun k e=>by cases e))
              have hsz8 : (w7.alloc (.cells #[.int .i64 o1,.string kd,.string nm,.slice va vn vc,.slice ka kn kc] 31)).heap.size = w7.heap.size + 1:=by simp
              have hown7:=Lib.hid hR7.out.out.lt
              have hwz7 : w.heap.size≤w7.heap.size:=hg7.out.size
              replace hst:=Lib.hid hst
              replace hlt:=Lib.hid hlt
              replace hbd3:=Lib.hid hbd3
              replace hlw7:=Lib.hid hlw7
              clear hPa hP7 hx hrr hbd hlf hlf' hP0 hN7 hO7 hz7 hg7 hR7 o0 o1' o2 o3 o4
              go_upto_region 6 with fail
              generalize w7.alloc (.cells #[.int .i64 o1,.string kd,.string nm,.slice va vn vc,.slice ka kn kc] 31) = w8 at hP8 hg8 hO8 hz8 hN8 hal7 hR8 hsz8 ⊢
              obtain ⟨n2b,hn2⟩ : ∃ z : Nat,Hid (z = w7.heap.size):=⟨_,Lib.hid rfl⟩
              rw [← hn2.out] at hN8 hsz8 ⊢
              have hn2' : w7.heap.size≤n2b:=Nat.le_of_eq hn2.out.symm
              replace hsz8:=Lib.hid hsz8
              clear n0 n1 n2 n3 n4
              go_wp2_with fail
              refine (hpart'.out _ (.ok ts.tail) (sub_but_grown hMw.out hg8.out) hP8 hlf3).mono ?_
              rintro e w9 hr
              obtain ⟨x2,p1,kd2,nm2,wa,wn,wc,ja,jn,jc,rfl,hX2,hk2,hb2⟩:=hr.ex
              have hP9 : PrP T tb to' tc g w9 o (aft (part ts.tail)):=hr.2.1
              have hN9:=hN8.out.kept hr.1 (by simp; omega)
              have hO9:=hO8.out.kept hr.1 (by simp; omega)
              have hz9:=hz8.out.kept hr.1 (by simp; omega)
              have hg9:=g_call hg8.out hr.1
              have hR9:=hR8.out.kept hr.1 (fun y e=>by cases e; omega)
              obtain ⟨m0,m1,m2,m3,m4,mf0,mf1,mf2,mf3,mf4⟩:=own5z hN9
              have hnl9:=hN9.lt
              have hnb8 : n2b < w8.heap.size:=by have:=hsz8.out; omega
              have hown8 : ∀ k,(Value.slice va' rows'.length vc').ownBlock = some k→k ≠ n2b∧k < w8.heap.size:=fun k hk=>by
                have h1:=(hown7.out k hk).2
                have:=hsz8.out
                omega
              have hA10:=Lib.hid (hA7.out.mono (nexK_fill (nb:=n2b) hal7.out hn2' hr.1 (fun W=>((((W.setCell ⟨n2b,0,none⟩ (.int .i64 p1)).setCell ⟨n2b,1,none⟩ (.string kd2)).setCell ⟨n2b,2,none⟩ (.string nm2)).setCell ⟨n2b,3,none⟩ (.slice wa wn wc)).setCell ⟨n2b,4,none⟩ (.slice ja jn jc)) (grown5 w9 n2b _ _ _ _ _)))
              have hX10:=Lib.hid ((hX2.mono (nex_set5 (q:=n2b) hnb8 (.int .i64 p1) (.string kd2) (.string nm2) (.slice wa wn wc) (.slice ja jn jc))).mono (nexK_part (B:=B) (ob:=ob) (v:=.slice va' rows'.length vc') _ (by omega) (by omega) (fun k hk=>(hown8 k hk).2)))
              have hgr:=grown5 w9 n2b (.int .i64 p1) (.string kd2) (.string nm2) (.slice wa wn wc) (.slice ja jn jc)
              have hP10:=Lib.hid (hP9.kept hgr (by simp; omega))
              have hO10:=Lib.hid (hO9.kept hgr (by simp; omega))
              have hz10:=Lib.hid (hz9.kept hgr (by simp; omega))
              have hR10 : Hid (RO 31 5 (ob + 1) (.slice va' rows'.length vc') rows' _):=Lib.hid (World.ownsRow.kept hR9.out hgr (by
                cases hv : (Value.slice va' rows'.length vc').ownBlock with
                | none=>exact Or.inl rfl
                | some k=>exact Or.inr (fun e=>(hown8 k hv).1 (Option.some.inj e))))
              have hN10:=Lib.hid (show Own (((((w9.setCell ⟨n2b,0,none⟩ (.int .i64 p1)).setCell ⟨n2b,1,none⟩ (.string kd2)).setCell ⟨n2b,2,none⟩ (.string nm2)).setCell ⟨n2b,3,none⟩ (.slice wa wn wc)).setCell ⟨n2b,4,none⟩ (.slice ja jn jc)) n2b #[.int .i64 p1,.string kd2,.string nm2,.slice wa wn wc,.slice ja jn jc] 31 from ((((hN9.set 0 _).set 1 _).set 2 _).set 3 _).set 4 _)
              have hg10:=Lib.hid (g_setCell (g_setCell (g_setCell (g_setCell (g_setCell hg9 (p:=⟨n2b,0,none⟩) (by simp; omega) (.int .i64 p1)) (p:=⟨n2b,1,none⟩) (by simp; omega) (.string kd2)) (p:=⟨n2b,2,none⟩) (by simp; omega) (.string nm2)) (p:=⟨n2b,3,none⟩) (by simp; omega) (.slice wa wn wc)) (p:=⟨n2b,4,none⟩) (by simp; omega) (.slice ja jn jc))
              have hk10 : Hid (∀ k,(Value.slice va' rows'.length vc').ownBlock = some k→k ≠ n2b):=Lib.hid (fun k hk=>(hown8 k hk).1)
              have hrr2 : Hid (∃ f2,r0 = runS (aft (part ts.tail)) (loopF part op word.data.toList f2 (acc ++ flatE op x) x2)∧lenP (aft (part ts.tail))≤f2):=Lib.hid (by
                obtain ⟨f2,h1,h2⟩:=hst.out
                refine ⟨f2,?_,?_⟩
                · rw [h1]
                  cases hp : part ts.tail with
                  | error e=>rfl
                  | ok v =>
                    have : x2 = v.1:=hb2 v.1 v.2 (by rw [runS_ok,hp])
                    rw [this]
                    rfl
                · cases hp : part ts.tail with
                  | error e=>exact Nat.zero_le _
                  | ok v =>
                    have:=hsh _ _ _ (show part ts.tail = .ok (v.1,v.2) from hp)
                    show v.2.length≤f2
                    omega)
              have hln : Hid (lenP (aft (part ts.tail))≤f∧lenP (aft (part ts.tail)) < ts.length):=Lib.hid (by
                have h3:=hlt.out
                cases hp : part ts.tail with
                | error e=>exact ⟨Nat.zero_le _,by show 0 < _; omega⟩
                | ok v =>
                  have:=hsh _ _ _ (show part ts.tail = .ok (v.1,v.2) from hp)
                  show v.2.length≤f∧v.2.length < ts.length
                  omega)
              have hbd10 : Hid ((acc ++ flatE op x).length≤30001∧x2.kids.length≤30001 + K∧∀ us,aft (part ts.tail) = .ok us→(acc ++ flatE op x).length + (flatE op x2).length + us.length≤30001):=Lib.hid (by
                have h3:=hbd3.out
                have h4:=hlt.out
                rw [List.length_append]
                refine ⟨by omega,by omega,fun us hus=>?_⟩
                cases hp : part ts.tail with
                | error e=>rw [hp] at hus; cases hus
                | ok v =>
                  rw [hp] at hus
                  injection hus with hus
                  have e2 : x2 = v.1:=hb2 v.1 v.2 (by rw [runS_ok,hp])
                  have h5:=flat_len (op:=op) (hkid _ _ _ (show part ts.tail = .ok (v.1,v.2) from hp)) (hsh _ _ _ (show part ts.tail = .ok (v.1,v.2) from hp))
                  rw [e2,← hus]
                  omega)
              clear hr hX2 hb2 hP9 hN9 hO9 hz9 hg9 hR9 hgr hst hown8
              generalize aft (part ts.tail) = s9 at hP10 hrr2 hln hbd10
              obtain ⟨f2,hrr3,hlf2⟩:=hrr2.out
              replace hrr3:=Lib.hid hrr3
              replace hlf2:=Lib.hid hlf2
              go_wp2
              go_roundw
              case rel=>exact ⟨n2b,s9,x2,p1,kd2,nm2,wa,wn,wc,ja,jn,jc,_,rows',va',vc',f2,rfl,by omega,hk10,hN10,hO10,hR10,hA10,hX10,hg10,hP10,hz10,hrr3,hlf2,Lib.hid hln.out.1,hbd10⟩
              case measure=>rw [hP10.out.left,hlw7.out]; exact hln.out.2
        | false =>
          have hfl : flatE op x = [x]:=by unfold flatE; rw [if_neg (by rw [hxop]; intro e; rw [e] at ho; simp at ho)]
          have hal1:=World.grownBy_alloc wr (.cells #[.int .i64 o1,.string kd,.string nm,.slice va vn vc,.slice ka kn kc] 31) none
          have hA':=Lib.hid (show KidsAt (nexK B g ob (.slice kva rows.length kvc) (wr.alloc (.cells #[.int .i64 o1,.string kd,.string nm,.slice va vn vc,.slice ka kn kc] 31))) (acc ++ flatE op x) (rows ++ [[Value.int .i64 o1,.string kd,.string nm,.slice va vn vc,.slice ka kn kc]]) by rw [hfl]; exact (hA.out.append (KidsAt.one hX.out)).mono (nexK_g hal1 (Or.inl rfl)))
          have hfb : Hid (acc.length + (flatE op x).length≤60003 + K):=Lib.hid (by rw [hfl,List.length_singleton]; omega)
          have h1k:=Lib.hid (show ∀ u∈([[Value.int .i64 o1,.string kd,.string nm,.slice va vn vc,.slice ka kn kc]] : List (List Value)).flatten,u.oneCell' = true from fun u hu=>(KidsAt.one hX.out).flat1 u hu)
          have hrow:=Lib.hid (lit_rows (sz:=5) (w:=wr.alloc (.cells #[.int .i64 o1,.string kd,.string nm,.slice va vn vc,.slice ka kn kc] 31)) (g:=wr.heap.size) (cs:=[Value.int .i64 o1,.string kd,.string nm,.slice va vn vc,.slice ka kn kc]) (fun j=>by rw [(Own.new wr #[.int .i64 o1,.string kd,.string nm,.slice va vn vc,.slice ka kn kc] 31).cell j]; simp))
          have hR1:=Lib.hid (hR.out.kept hal1 (fun k e=>by cases e))
          have hO1:=Lib.hid (hO.out.alloc (.cells #[.int .i64 o1,.string kd,.string nm,.slice va vn vc,.slice ka kn kc] 31))
          have hN1:=Lib.hid (hN.out.alloc (.cells #[.int .i64 o1,.string kd,.string nm,.slice va vn vc,.slice ka kn kc] 31))
          have hz1:=Lib.hid (hz.out.alloc (.cells #[.int .i64 o1,.string kd,.string nm,.slice va vn vc,.slice ka kn kc] 31))
          have hg1:=Lib.hid (g_call hg.out (World.grownBy_alloc wr (.cells #[.int .i64 o1,.string kd,.string nm,.slice va vn vc,.slice ka kn kc] 31) (some g)))
          have hP1:=Lib.hid (hP.out.alloc (.cells #[.int .i64 o1,.string kd,.string nm,.slice va vn vc,.slice ka kn kc] 31))
          replace h5:=Lib.hid h5
          have hsum : rows.length + 1≤1099511627776:=by omega
          replace hown:=Lib.hid hown
          clear hRK hKK hxop hfl hal1
          go_wp2_with (at_builtin; refine wpList_append_exp rfl _ _ rfl (ob + 1) kva rows.length kvc rows rfl hR1.out h5.out rfl _ 1 1 [[Value.int .i64 o1,.string kd,.string nm,.slice va vn vc,.slice ka kn kc]] rfl hrow.out (by intro r hr; rw [List.mem_singleton.1 hr]; rfl) h1k.out hsum (by simp; omega) ?_; intro va' vc' w5 hR5 hn5 hg5 hat5; replace hR5:=Lib.hid hR5; replace hg5:=Lib.hid hg5; replace hat5:=Lib.hid hat5; replace hn5:=Lib.hid hn5; have hO5:=Lib.hid (hO1.out.kept hg5.out (fun e=>by have:=(hown.out ob e).1; omega)); have o45:=hO5.out.cell 4; have of45:=hO5.out.free 4; have ol5:=hO5.out.lt; simp only [List.getElem?_toArray,List.getElem?_cons_succ,List.getElem?_cons_zero] at o45)
          have hN5:=Lib.hid (hN1.out.kept hg5.out (fun e=>hkn'.out nb e rfl))
          have hz5:=Lib.hid (hz1.out.kept hg5.out (fun e=>by have:=(hown.out gz e).1; omega))
          have hg5':=Lib.hid (g_own hg1.out hg5.out (fun i e=>by have:=(hown.out i e).1; omega))
          have hP5:=Lib.hid (hP1.out.kept hg5.out (fun e=>by have:=(hown.out g e).1; omega))
          have hA5:=Lib.hid (hA'.out.mono (nexK_new hg5.out hat5.out))
          have hk5 : Hid (∀ k,(Value.slice va' (rows.length + 1) vc').ownBlock = some k→k ≠ nb):=Lib.hid (fun k hk=>by
            rcases hat5.out k hk with h | h
            · exact hkn'.out k h
            · simp at h; omega)
          have h5n:=Lib.hid (show ∀ r∈rows ++ [[Value.int .i64 o1,.string kd,.string nm,.slice va vn vc,.slice ka kn kc]],r.length = 5 from fun r hr=>(List.mem_append.1 hr).elim (h5.out r) (fun h=>by rw [List.mem_singleton.1 h]; rfl))
          clear hA' h1k hrow hg5 hat5 hR hA hX hg hP hz hN hO o0 o1' o2 o3 o4 of4 hR1 hO1 hN1 hz1 hg1 hP1
          generalize hrw : rows ++ [[Value.int .i64 o1,.string kd,.string nm,.slice va vn vc,.slice ka kn kc]] = rows' at hR5 hA5 hn5 h5n
          clear hrw
          rw [hn5.out] at hR5 hA5 hk5
          have hO6:=Lib.hid (show Own (w5.setCell ⟨ob,4,none⟩ (.slice va' (rows.length + 1) vc')) ob #[.int .i64 op,.string ⟨#[]⟩,.string ⟨#[]⟩,.slice none 0 0,.slice va' rows'.length vc'] 31 from by have:=hO5.out.set 4 (.slice va' (rows.length + 1) vc'); rw [hn5.out] at this ⊢; exact this)
          go_upto_region 10 with fail
          have hN6:=Lib.hid (hN5.out.setOther (p:=⟨ob,4,none⟩) (by simp; omega) (.slice va' (rows.length + 1) vc'))
          have hz6:=Lib.hid (hz5.out.setOther (p:=⟨ob,4,none⟩) (by simp; omega) (.slice va' (rows.length + 1) vc'))
          have hg6:=Lib.hid (g_setCell hg5'.out (p:=⟨ob,4,none⟩) (by simp; omega) (.slice va' (rows.length + 1) vc'))
          have hP6:=Lib.hid (hP5.out.set (q:=ob) (i:=4) (by omega) (.slice va' (rows.length + 1) vc'))
          have hR6:=Lib.hid (hR5.out.set (q:=ob) (i:=4) (by omega) (.slice va' (rows.length + 1) vc'))
          have hA6:=Lib.hid (hA5.out.mono (nexK_g (grown_setCell w5 ob 4 (.slice va' (rows.length + 1) vc')) (Or.inr (Or.inr rfl))))
          have hlw6:=Lib.hid (show leftW T.length g (w5.setCell ⟨ob,4,none⟩ (.slice va' (rows.length + 1) vc')) = leftW T.length g wr by rw [hP6.out.left,hP0.out.left])
          generalize w5.setCell ⟨ob,4,none⟩ (.slice va' (rows.length + 1) vc') = w6 at hO6 hN6 hz6 hg6 hP6 hR6 hA6 hlw6 ⊢
          clear hO5 hN5 hz5 hg5' hP5 hR5 hA5 o45 of45
          have hwz6 : w.heap.size≤w6.heap.size:=hg6.out.size
          go_wp2_with fail
          refine (accept_any hK g o _ s' (sub_but_grown hMw.out hg6.out) hP6.out word).mono ?_
          rintro e w7 ⟨rfl,hga,hPa⟩
          have hN7:=Lib.hid (hN6.out.kept hga (by simp; omega))
          have hO7:=Lib.hid (hO6.out.kept hga (by simp; omega))
          have hz7:=Lib.hid (hz6.out.kept hga (by simp; omega))
          have hg7:=Lib.hid (g_call hg6.out hga)
          have hR7:=Lib.hid (hR6.out.kept hga (fun y e=>by cases e; omega))
          have hA7:=Lib.hid (hA6.out.mono (nexK_g hga (Or.inr (Or.inl rfl))))
          clear hN6 hO6 hz6 hg6 hP6 hR6 hA6 hga
          obtain ⟨o0,o1',o2,o3,o4,-⟩:=own5z hO7.out
          have ol7:=hO7.out.lt
          cases hx : isP word.data.toList s' with
          | false =>
            have hP7 : PrP T tb to' tc g w7 o s':=by rw [← pastP_no hx]; exact hPa
            obtain ⟨z0,z1,z2,z3,z4,f0,f1,f2,f3,f4⟩:=own5z hz7.out
            have hzl':=hz7.out.lt
            have hRB:=RdB.mk' (B:=gz) (St:=fun w s=>PrP T tb to' tc g w o s) (s:=s') hg7.out hP7 hgl hwz
            have hF:=Lib.hid (hRB.set5 (q:=gz) (Nat.le_refl _) (.int .i64 op) (.string ⟨#[]⟩) (.string ⟨#[]⟩) (.slice none 0 0) (.slice va' rows'.length vc'))
            have hgob : g < ob + 1:=by omega
            have hrw':=hR7.out.new h5n.out hgob
            have hXF:=Lib.hid (ExAt.make (op:=op) (kd:=⟨#[]⟩) (nm:=⟨#[]⟩) (vals:=[]) (rows_nil _ _) (fun _ hv=>(List.not_mem_nil hv).elim) (hrw'.mono ((nex_set5 (q:=gz) (by omega) (.int .i64 op) (.string ⟨#[]⟩) (.string ⟨#[]⟩) (.slice none 0 0) (.slice va' rows'.length vc')).trans (nex_up _ (show w.heap.size≤ob + 1 by omega) (fun k hk=>Or.inl hk))))
              (hA7.out.mono ((nexK_out _).trans ((nex_set5 (q:=gz) hBz (.int .i64 op) (.string ⟨#[]⟩) (.string ⟨#[]⟩) (.slice none 0 0) (.slice va' rows'.length vc')).trans (nex_up _ (show w.heap.size≤B by omega) (fun k hk=>Or.inl hk))))))
            have hq : Hid (aft r0 = s'∧∀ c q,r0 = .ok (c,q)→c = .mk op [] [] [] (acc ++ flatE op x)):=Lib.hid (by
              rw [hrr.out]
              cases s' with
              | error e=>exact ⟨rfl,fun c q h=>by cases h⟩
              | ok ts =>
                obtain ⟨f2,rfl⟩ : ∃ f2,f' = f2 + 1:=⟨f' - 1,by
                  have h1 : ts.length≤f':=hlf'.out
                  have h2 : ts ≠ []:=hP7.ne
                  have h3 : ts.length ≠ 0:=fun e=>h2 (List.eq_nil_of_length_eq_zero e)
                  omega⟩
                have h4 : loopF part op word.data.toList (f2 + 1) acc x ts = .ok (.mk op [] [] [] (acc ++ flatE op x),ts):=by rw [loopF,if_neg (by rw [show isN word.data.toList ts = false from hx]; decide)]
                show aft (loopF part op word.data.toList (f2 + 1) acc x ts) = _∧_
                rw [runS_ok,h4]
                exact ⟨rfl,fun c q h=>by injection h with h; injection h with h1 h2; exact h1.symm⟩)
            clear hRB hrw' hPa hP7 hrr hx
            go_wp2
            refine bodyPost_ret (v:=.agg #[.int .i64 op,.string ⟨#[]⟩,.string ⟨#[]⟩,.slice none 0 0,.slice va' rows'.length vc']) (by simp [results,Tryz.results109,go_sem, *]) rfl ?_
            have hxb : (PE.mk op [] [] [] (acc ++ flatE op x)).kids.length≤60003 + K:=by show (acc ++ flatE op x).length≤_; rw [List.length_append]; exact hfb.out
            rw [← hr0.out]
            exact Rd.fin hF.out.grown (by rw [hq.out.1]; exact hF.out.st) (fun c q hc=>by rw [hq.out.2 c q hc]; exact ⟨_,rfl,hXF.out,hxb⟩) ⟨_,_,rfl,hXF.out,hxb⟩
          | true =>
            cases s' with
            | error e=>cases hx
            | ok ts =>
              have hP7 : PrP T tb to' tc g w7 o (.ok ts.tail):=by
                have e1 : pastP word.data.toList (.ok ts) = .ok ts.tail:=if_pos hx
                rw [← e1]
                exact hPa
              have hlt : ts.tail.length < ts.length:=by
                cases ts with
                | nil=>cases hx
                | cons t q=>simp
              have hst : ∃ f2,(r0 = bnd (part ts.tail) fun y r'=>loopF part op word.data.toList f2 (acc ++ flatE op x) y r')∧ts.tail.length≤f2:=by
                have h1 : ts.length≤f':=hlf'.out
                obtain ⟨f2,rfl⟩ : ∃ f2,f' = f2 + 1:=⟨f' - 1,by omega⟩
                refine ⟨f2,?_,by omega⟩
                rw [hrr.out,runS_ok,loopF,if_pos (show isN word.data.toList ts = true from hx)]
              have hlf3 : ts.tail.length≤f:=by have h1 : ts.length≤f:=hlf.out; omega
              have hbd3:=hbd.out.2.2 ts rfl
              have hlw7 : leftW T.length g wr = ts.length:=hP0.out.left
              obtain ⟨n0,n1,n2,n3,n4,-⟩:=own5z hN7.out
              have hP8:=hP7.alloc (.cells #[.int .i64 o1,.string kd,.string nm,.slice va vn vc,.slice ka kn kc] 31)
              have hg8:=Lib.hid (g_call hg7.out (World.grownBy_alloc w7 (.cells #[.int .i64 o1,.string kd,.string nm,.slice va vn vc,.slice ka kn kc] 31) (some g)))
              have hO8:=Lib.hid (hO7.out.alloc (.cells #[.int .i64 o1,.string kd,.string nm,.slice va vn vc,.slice ka kn kc] 31))
              have hz8:=Lib.hid (hz7.out.alloc (.cells #[.int .i64 o1,.string kd,.string nm,.slice va vn vc,.slice ka kn kc] 31))
              have hN8:=Lib.hid (Own.new w7 #[.int .i64 o1,.string kd,.string nm,.slice va vn vc,.slice ka kn kc] 31)
              have hal7:=Lib.hid (World.grownBy_alloc w7 (.cells #[.int .i64 o1,.string kd,.string nm,.slice va vn vc,.slice ka kn kc] 31) none)
              have hR8:=Lib.hid (hR7.out.kept (World.grownBy_alloc w7 (.cells #[.int .i64 o1,.string kd,.string nm,.slice va vn vc,.slice ka kn kc] 31) none) (fun k e=>by cases e))
              have hsz8 : (w7.alloc (.cells #[.int .i64 o1,.string kd,.string nm,.slice va vn vc,.slice ka kn kc] 31)).heap.size = w7.heap.size + 1:=by simp
              have hown7:=Lib.hid hR7.out.out.lt
              have hwz7 : w.heap.size≤w7.heap.size:=hg7.out.size
              replace hst:=Lib.hid hst
              replace hlt:=Lib.hid hlt
              replace hbd3:=Lib.hid hbd3
              replace hlw7:=Lib.hid hlw7
              clear hPa hP7 hx hrr hbd hlf hlf' hP0 hN7 hO7 hz7 hg7 hR7 o0 o1' o2 o3 o4
              go_upto_region 6 with fail
              generalize w7.alloc (.cells #[.int .i64 o1,.string kd,.string nm,.slice va vn vc,.slice ka kn kc] 31) = w8 at hP8 hg8 hO8 hz8 hN8 hal7 hR8 hsz8 ⊢
              obtain ⟨n2b,hn2⟩ : ∃ z : Nat,Hid (z = w7.heap.size):=⟨_,Lib.hid rfl⟩
              rw [← hn2.out] at hN8 hsz8 ⊢
              have hn2' : w7.heap.size≤n2b:=Nat.le_of_eq hn2.out.symm
              replace hsz8:=Lib.hid hsz8
              clear n0 n1 n2 n3 n4
              go_wp2_with fail
              refine (hpart'.out _ (.ok ts.tail) (sub_but_grown hMw.out hg8.out) hP8 hlf3).mono ?_
              rintro e w9 hr
              obtain ⟨x2,p1,kd2,nm2,wa,wn,wc,ja,jn,jc,rfl,hX2,hk2,hb2⟩:=hr.ex
              have hP9 : PrP T tb to' tc g w9 o (aft (part ts.tail)):=hr.2.1
              have hN9:=hN8.out.kept hr.1 (by simp; omega)
              have hO9:=hO8.out.kept hr.1 (by simp; omega)
              have hz9:=hz8.out.kept hr.1 (by simp; omega)
              have hg9:=g_call hg8.out hr.1
              have hR9:=hR8.out.kept hr.1 (fun y e=>by cases e; omega)
              obtain ⟨m0,m1,m2,m3,m4,mf0,mf1,mf2,mf3,mf4⟩:=own5z hN9
              have hnl9:=hN9.lt
              have hnb8 : n2b < w8.heap.size:=by have:=hsz8.out; omega
              have hown8 : ∀ k,(Value.slice va' rows'.length vc').ownBlock = some k→k ≠ n2b∧k < w8.heap.size:=fun k hk=>by
                have h1:=(hown7.out k hk).2
                have:=hsz8.out
                omega
              have hA10:=Lib.hid (hA7.out.mono (nexK_fill (nb:=n2b) hal7.out hn2' hr.1 (fun W=>((((W.setCell ⟨n2b,0,none⟩ (.int .i64 p1)).setCell ⟨n2b,1,none⟩ (.string kd2)).setCell ⟨n2b,2,none⟩ (.string nm2)).setCell ⟨n2b,3,none⟩ (.slice wa wn wc)).setCell ⟨n2b,4,none⟩ (.slice ja jn jc)) (grown5 w9 n2b _ _ _ _ _)))
              have hX10:=Lib.hid ((hX2.mono (nex_set5 (q:=n2b) hnb8 (.int .i64 p1) (.string kd2) (.string nm2) (.slice wa wn wc) (.slice ja jn jc))).mono (nexK_part (B:=B) (ob:=ob) (v:=.slice va' rows'.length vc') _ (by omega) (by omega) (fun k hk=>(hown8 k hk).2)))
              have hgr:=grown5 w9 n2b (.int .i64 p1) (.string kd2) (.string nm2) (.slice wa wn wc) (.slice ja jn jc)
              have hP10:=Lib.hid (hP9.kept hgr (by simp; omega))
              have hO10:=Lib.hid (hO9.kept hgr (by simp; omega))
              have hz10:=Lib.hid (hz9.kept hgr (by simp; omega))
              have hR10 : Hid (RO 31 5 (ob + 1) (.slice va' rows'.length vc') rows' _):=Lib.hid (World.ownsRow.kept hR9.out hgr (by
                cases hv : (Value.slice va' rows'.length vc').ownBlock with
                | none=>exact Or.inl rfl
                | some k=>exact Or.inr (fun e=>(hown8 k hv).1 (Option.some.inj e))))
              have hN10:=Lib.hid (show Own (((((w9.setCell ⟨n2b,0,none⟩ (.int .i64 p1)).setCell ⟨n2b,1,none⟩ (.string kd2)).setCell ⟨n2b,2,none⟩ (.string nm2)).setCell ⟨n2b,3,none⟩ (.slice wa wn wc)).setCell ⟨n2b,4,none⟩ (.slice ja jn jc)) n2b #[.int .i64 p1,.string kd2,.string nm2,.slice wa wn wc,.slice ja jn jc] 31 from ((((hN9.set 0 _).set 1 _).set 2 _).set 3 _).set 4 _)
              have hg10:=Lib.hid (g_setCell (g_setCell (g_setCell (g_setCell (g_setCell hg9 (p:=⟨n2b,0,none⟩) (by simp; omega) (.int .i64 p1)) (p:=⟨n2b,1,none⟩) (by simp; omega) (.string kd2)) (p:=⟨n2b,2,none⟩) (by simp; omega) (.string nm2)) (p:=⟨n2b,3,none⟩) (by simp; omega) (.slice wa wn wc)) (p:=⟨n2b,4,none⟩) (by simp; omega) (.slice ja jn jc))
              have hk10 : Hid (∀ k,(Value.slice va' rows'.length vc').ownBlock = some k→k ≠ n2b):=Lib.hid (fun k hk=>(hown8 k hk).1)
              have hrr2 : Hid (∃ f2,r0 = runS (aft (part ts.tail)) (loopF part op word.data.toList f2 (acc ++ flatE op x) x2)∧lenP (aft (part ts.tail))≤f2):=Lib.hid (by
                obtain ⟨f2,h1,h2⟩:=hst.out
                refine ⟨f2,?_,?_⟩
                · rw [h1]
                  cases hp : part ts.tail with
                  | error e=>rfl
                  | ok v =>
                    have : x2 = v.1:=hb2 v.1 v.2 (by rw [runS_ok,hp])
                    rw [this]
                    rfl
                · cases hp : part ts.tail with
                  | error e=>exact Nat.zero_le _
                  | ok v =>
                    have:=hsh _ _ _ (show part ts.tail = .ok (v.1,v.2) from hp)
                    show v.2.length≤f2
                    omega)
              have hln : Hid (lenP (aft (part ts.tail))≤f∧lenP (aft (part ts.tail)) < ts.length):=Lib.hid (by
                have h3:=hlt.out
                cases hp : part ts.tail with
                | error e=>exact ⟨Nat.zero_le _,by show 0 < _; omega⟩
                | ok v =>
                  have:=hsh _ _ _ (show part ts.tail = .ok (v.1,v.2) from hp)
                  show v.2.length≤f∧v.2.length < ts.length
                  omega)
              have hbd10 : Hid ((acc ++ flatE op x).length≤30001∧x2.kids.length≤30001 + K∧∀ us,aft (part ts.tail) = .ok us→(acc ++ flatE op x).length + (flatE op x2).length + us.length≤30001):=Lib.hid (by
                have h3:=hbd3.out
                have h4:=hlt.out
                rw [List.length_append]
                refine ⟨by omega,by omega,fun us hus=>?_⟩
                cases hp : part ts.tail with
                | error e=>rw [hp] at hus; cases hus
                | ok v =>
                  rw [hp] at hus
                  injection hus with hus
                  have e2 : x2 = v.1:=hb2 v.1 v.2 (by rw [runS_ok,hp])
                  have h5:=flat_len (op:=op) (hkid _ _ _ (show part ts.tail = .ok (v.1,v.2) from hp)) (hsh _ _ _ (show part ts.tail = .ok (v.1,v.2) from hp))
                  rw [e2,← hus]
                  omega)
              clear hr hX2 hb2 hP9 hN9 hO9 hz9 hg9 hR9 hgr hst hown8
              generalize aft (part ts.tail) = s9 at hP10 hrr2 hln hbd10
              obtain ⟨f2,hrr3,hlf2⟩:=hrr2.out
              replace hrr3:=Lib.hid hrr3
              replace hlf2:=Lib.hid hlf2
              go_wp2
              go_roundw
              case rel=>exact ⟨n2b,s9,x2,p1,kd2,nm2,wa,wn,wc,ja,jn,jc,_,rows',va',vc',f2,rfl,by omega,hk10,hN10,hO10,hR10,hA10,hX10,hg10,hP10,hz10,hrr3,hlf2,Lib.hid hln.out.1,hbd10⟩
              case measure=>rw [hP10.out.left,hlw7.out]; exact hln.out.2
end
end Go.Proofs.YtfffpflflggonaaGreatDoor.src
