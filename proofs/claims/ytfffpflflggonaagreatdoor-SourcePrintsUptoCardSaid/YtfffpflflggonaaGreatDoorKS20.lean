/- The program's parser: conjunctions, disjunctions, negations, conditions. The program's parser: a negation, a condition in parentheses or a test. -/
import Derived.Test.YtfffpflflggonaaGreatDoorKSrH
import Derived.Defers
namespace Go.Proofs.YtfffpflflggonaaGreatDoor.src
open Go.RowKit lex value text schema draw clause
theorem make_func (fn : Fn) (first cap : Array Value) (w : World) : (Instr.makeFunc fn first cap).run Tryz.prog w = .ok (.func fn first cap) w:=rfl
section
variable {M : Mem} {T : List Tok} {tb to' tc : Nat}
set_option maxRecDepth 100000 in
set_option maxHeartbeats 4000000 in
theorem and_any (hK : TokM M T tb to' tc) (g o f K : Nat) (hKb : K≤4000000000) (part : List Tok→R PE) (hsh : Shr part) (hkid : Kid part)
    (hpart : ∀ (w : World) (s : PS),Sub M (but g w)→PrP T tb to' tc g w o s→lenP s≤f→Calls Tryz.prog 188 #[.pointer (some ⟨g,0,none⟩)] w (Rd g (fun w s=>PrP T tb to' tc g w o s) w (ExIs w.heap.size g K) (runS s part)))
    (w : World) (s : PS) (hM : Sub M (but g w)) (h : PrP T tb to' tc g w o s) (hl : lenP s≤f) :
    Calls Tryz.prog 110 #[.pointer (some ⟨g,0,none⟩)] w (Rd g (fun w s=>PrP T tb to' tc g w o s) w (ExIs w.heap.size g (60003 + K)) (runS s (chainF part 2 sAnd f))):=by
  have hgl:=h.lt
  have hz:=Lib.hid (Own.new w #[.int .i64 0,.string ⟨#[]⟩,.string ⟨#[]⟩,.slice none 0 0,.slice none 0 0] 31)
  have h0:=Lib.hid (h.alloc (.cells #[.int .i64 0,.string ⟨#[]⟩,.string ⟨#[]⟩,.slice none 0 0,.slice none 0 0] 31))
  have hg0:=Lib.hid (World.grownBy_alloc w (.cells #[.int .i64 0,.string ⟨#[]⟩,.string ⟨#[]⟩,.slice none 0 0,.slice none 0 0] 31) (some g))
  have hM0:=Lib.hid (sub_but_grown hM hg0.out)
  have hpart':=Lib.hid hpart
  clear h hM hpart
  have hmf:=make_func
  go_enter Tryz.func110,Tryz.ntmps110
  go_wp2_with fail
  generalize w.alloc (.cells #[.int .i64 0,.string ⟨#[]⟩,.string ⟨#[]⟩,.slice none 0 0,.slice none 0 0] 31) = w0 at hz h0 hg0 hM0 ⊢
  obtain ⟨gz,hgz⟩ : ∃ z : Nat,Hid (z = w.heap.size):=⟨_,Lib.hid rfl⟩
  rw [← hgz.out] at hz ⊢
  have hwz : w.heap.size≤gz:=Nat.le_of_eq hgz.out.symm
  have hzB : gz < w0.heap.size:=hz.out.lt
  refine (chain_not hK g o f K hKb 2 ⟨#[97,110,100]⟩ part hsh hkid hpart'.out w0 s hM0.out h0.out hl).mono ?_
  rintro e w1 hr
  obtain ⟨x,o1,kd,nm,va,vn,vc,ka,kn,kc,rfl,hX,hxk,hxb⟩:=hr.ex
  have hz1:=hz.out.kept hr.1 (by simp; omega)
  have hRB:=RdB.mk' (B:=gz) (St:=fun w s=>PrP T tb to' tc g w o s) (g_call hg0.out hr.1) hr.2.1 hgl hwz
  obtain ⟨z0,z1,z2,z3,z4,f0,f1,f2,f3,f4⟩:=own5z hz1
  have hzl':=hz1.lt
  have hF:=Lib.hid (hRB.set5 (q:=gz) (Nat.le_refl _) (.int .i64 o1) (.string kd) (.string nm) (.slice va vn vc) (.slice ka kn kc))
  have hXF:=Lib.hid (hX.mono ((nex_set5 (q:=gz) hzB (.int .i64 o1) (.string kd) (.string nm) (.slice va vn vc) (.slice ka kn kc)).trans (nex_up _ (show w.heap.size≤w0.heap.size by omega) (fun k hk=>Or.inl hk))))
  replace hxb:=Lib.hid hxb
  clear hr hRB hX hz1
  go_wp2
  refine bodyPost_ret (v:=.agg #[.int .i64 o1,.string kd,.string nm,.slice va vn vc,.slice ka kn kc]) (by simp [results,Tryz.results110,go_sem, *]) rfl ?_
  exact Rd.fin hF.out.grown hF.out.st (fun c q hc=>by rw [← hxb.out c q hc]; exact ⟨_,rfl,hXF.out,hxk⟩) ⟨x,_,rfl,hXF.out,hxk⟩
end
section
variable {M : Mem} {T : List Tok} {tb to' tc : Nat}
set_option maxRecDepth 100000 in
set_option maxHeartbeats 4000000 in
theorem or_any (hK : TokM M T tb to' tc) (g o f K : Nat) (hKb : K≤4000000000) (part : List Tok→R PE) (hsh : Shr part) (hkid : Kid part)
    (hpart : ∀ (w : World) (s : PS),Sub M (but g w)→PrP T tb to' tc g w o s→lenP s≤f→Calls Tryz.prog 110 #[.pointer (some ⟨g,0,none⟩)] w (Rd g (fun w s=>PrP T tb to' tc g w o s) w (ExIs w.heap.size g K) (runS s part)))
    (w : World) (s : PS) (hM : Sub M (but g w)) (h : PrP T tb to' tc g w o s) (hl : lenP s≤f) :
    Calls Tryz.prog 43 #[.pointer (some ⟨g,0,none⟩)] w (Rd g (fun w s=>PrP T tb to' tc g w o s) w (ExIs w.heap.size g (60003 + K)) (runS s (chainF part 3 sOr f))):=by
  have hgl:=h.lt
  have hz:=Lib.hid (Own.new w #[.int .i64 0,.string ⟨#[]⟩,.string ⟨#[]⟩,.slice none 0 0,.slice none 0 0] 31)
  have h0:=Lib.hid (h.alloc (.cells #[.int .i64 0,.string ⟨#[]⟩,.string ⟨#[]⟩,.slice none 0 0,.slice none 0 0] 31))
  have hg0:=Lib.hid (World.grownBy_alloc w (.cells #[.int .i64 0,.string ⟨#[]⟩,.string ⟨#[]⟩,.slice none 0 0,.slice none 0 0] 31) (some g))
  have hM0:=Lib.hid (sub_but_grown hM hg0.out)
  have hpart':=Lib.hid hpart
  clear h hM hpart
  have hmf:=make_func
  go_enter Tryz.func43,Tryz.ntmps43
  go_wp2_with fail
  generalize w.alloc (.cells #[.int .i64 0,.string ⟨#[]⟩,.string ⟨#[]⟩,.slice none 0 0,.slice none 0 0] 31) = w0 at hz h0 hg0 hM0 ⊢
  obtain ⟨gz,hgz⟩ : ∃ z : Nat,Hid (z = w.heap.size):=⟨_,Lib.hid rfl⟩
  rw [← hgz.out] at hz ⊢
  have hwz : w.heap.size≤gz:=Nat.le_of_eq hgz.out.symm
  have hzB : gz < w0.heap.size:=hz.out.lt
  refine (chain_and hK g o f K hKb 3 ⟨#[111,114]⟩ part hsh hkid hpart'.out w0 s hM0.out h0.out hl).mono ?_
  rintro e w1 hr
  obtain ⟨x,o1,kd,nm,va,vn,vc,ka,kn,kc,rfl,hX,hxk,hxb⟩:=hr.ex
  have hz1:=hz.out.kept hr.1 (by simp; omega)
  have hRB:=RdB.mk' (B:=gz) (St:=fun w s=>PrP T tb to' tc g w o s) (g_call hg0.out hr.1) hr.2.1 hgl hwz
  obtain ⟨z0,z1,z2,z3,z4,f0,f1,f2,f3,f4⟩:=own5z hz1
  have hzl':=hz1.lt
  have hF:=Lib.hid (hRB.set5 (q:=gz) (Nat.le_refl _) (.int .i64 o1) (.string kd) (.string nm) (.slice va vn vc) (.slice ka kn kc))
  have hXF:=Lib.hid (hX.mono ((nex_set5 (q:=gz) hzB (.int .i64 o1) (.string kd) (.string nm) (.slice va vn vc) (.slice ka kn kc)).trans (nex_up _ (show w.heap.size≤w0.heap.size by omega) (fun k hk=>Or.inl hk))))
  replace hxb:=Lib.hid hxb
  clear hr hRB hX hz1
  go_wp2
  refine bodyPost_ret (v:=.agg #[.int .i64 o1,.string kd,.string nm,.slice va vn vc,.slice ka kn kc]) (by simp [results,Tryz.results43,go_sem, *]) rfl ?_
  exact Rd.fin hF.out.grown hF.out.st (fun c q hc=>by rw [← hxb.out c q hc]; exact ⟨_,rfl,hXF.out,hxk⟩) ⟨x,_,rfl,hXF.out,hxk⟩
end
end Go.Proofs.YtfffpflflggonaaGreatDoor.src
namespace Go.Proofs.YtfffpflflggonaaGreatDoor.src
open Go.RowKit lex value text schema draw clause
section
variable {M : Mem} {T : List Tok} {tb to' tc : Nat}
theorem not_back (g o pb : Nat) (s : PS) (u : FrameMode) (w : World) (hp : w.cell? ⟨pb,0,none⟩ = some (.pointer (some ⟨g,0,none⟩))) (h : PrP T tb to' tc g w (o + 1) s) (ho : o≤101) :
    CallsD Tryz.prog 265 #[.pointer (some ⟨pb,0,none⟩)] u w fun e u' w'=>u' = u∧(e = .returned (.tuple #[])∧w' = w.setCell ⟨g,2,none⟩ (.int .i64 o)):=by
  obtain ⟨tv,p,L,q,hO,hs⟩:=h.own
  have c2:=hO.cell 2
  have f2:=hO.free 2
  have hl:=hO.lt
  simp only [List.getElem?_toArray,List.getElem?_cons_succ,List.getElem?_cons_zero] at c2
  have hw : IntKind.i64.wrap (((o + 1 : Nat) : Int) - 1) = (o : Int):=by rw [IntKind.wrap_i64]; omega
  go_enter_d Tryz.func265,Tryz.ntmps265
  go_wp2
  go_end0
  exact ⟨rfl,rfl⟩
def NotOk (M : Mem) (T : List Tok) (tb to' tc g f : Nat) : Prop:=∀ (o : Nat) (_hf : f≤30001) (_ho : o≤101) (w : World) (s : PS) (_hM : Sub M (but g w)) (_h : PrP T tb to' tc g w o s) (_hl : lenP s≤f),
    Calls Tryz.prog 188 #[.pointer (some ⟨g,0,none⟩)] w (Rd g (fun w s=>PrP T tb to' tc g w o s) w (ExIs w.heap.size g (120006 * f)) (runS s (notF f o)))
theorem notF_test {f o : Nat} {s : PS} (hne : ∀ ts,s = .ok ts→ts ≠ []) (hl : lenP s≤f) (h1 : isP sNot s = false) (h2 : isP sLp s = false) : runS s (notF f o) = runS s testS:=by
  cases s with
  | error e=>rfl
  | ok ts =>
    cases ts with
    | nil=>exact absurd rfl (hne _ rfl)
    | cons t q =>
      obtain ⟨f',rfl⟩ : ∃ f',f = f' + 1:=⟨f - 1,by have : (t :: q).length≤f:=hl; simp at this; omega⟩
      show notF (f' + 1) o (t :: q) = testS (t :: q)
      rw [notF,if_neg (by rw [show isT sNot t = false from h1]; decide),if_neg (by rw [show isT sLp t = false from h2]; decide)]
set_option maxRecDepth 100000 in
set_option maxHeartbeats 16000000 in
theorem not_step (hK : TokM M T tb to' tc) (g f : Nat) (ih : ∀ f',f = f' + 1→NotOk M T tb to' tc g f') : NotOk M T tb to' tc g f:=by
  intro o hf ho w s hM h hl
  have hgl:=h.lt
  have hne : Hid (∀ ts,s = .ok ts→ts ≠ []):=Lib.hid fun ts e=>by subst e; exact h.ne
  have hp:=Lib.hid ((Own.new w #[.pointer (some ⟨g,0,none⟩)] 57).alloc (.cells #[.int .i64 0,.string ⟨#[]⟩,.string ⟨#[]⟩,.slice none 0 0,.slice none 0 0] 31))
  have hz:=Lib.hid (show Own ((w.alloc (.cells #[.pointer (some ⟨g,0,none⟩)] 57)).alloc (.cells #[.int .i64 0,.string ⟨#[]⟩,.string ⟨#[]⟩,.slice none 0 0,.slice none 0 0] 31)) (w.heap.size + 1) #[.int .i64 0,.string ⟨#[]⟩,.string ⟨#[]⟩,.slice none 0 0,.slice none 0 0] 31 from Own.new' (by simp))
  have h0:=Lib.hid ((h.alloc (.cells #[.pointer (some ⟨g,0,none⟩)] 57)).alloc (.cells #[.int .i64 0,.string ⟨#[]⟩,.string ⟨#[]⟩,.slice none 0 0,.slice none 0 0] 31))
  have hg0:=Lib.hid (g_call (World.grownBy_alloc w (.cells #[.pointer (some ⟨g,0,none⟩)] 57) (some g)) (World.grownBy_alloc _ (.cells #[.int .i64 0,.string ⟨#[]⟩,.string ⟨#[]⟩,.slice none 0 0,.slice none 0 0] 31) (some g)))
  have hMw:=Lib.hid hM
  have ihh:=Lib.hid ih
  replace hl:=Lib.hid hl
  clear h hM ih
  have hmf:=make_func
  go_enter_defers Tryz.func188,Tryz.ntmps188
  go_wp2_with fail
  generalize (w.alloc (.cells #[.pointer (some ⟨g,0,none⟩)] 57)).alloc (.cells #[.int .i64 0,.string ⟨#[]⟩,.string ⟨#[]⟩,.slice none 0 0,.slice none 0 0] 31) = w0 at hp hz h0 hg0 ⊢
  obtain ⟨pb,hpb⟩ : ∃ z : Nat,Hid (z = w.heap.size):=⟨_,Lib.hid rfl⟩
  rw [← hpb.out] at hp hz ⊢
  have hwp : w.heap.size≤pb:=Nat.le_of_eq hpb.out.symm
  have hgp : g < pb:=by omega
  refine (peek_any hK g o _ s (sub_but_grown hMw.out hg0.out) h0.out).mono ?_
  rintro e w1 ⟨rfl,hb⟩
  rw [row_arr]
  obtain ⟨t,ht⟩ : ∃ t,Hid (t = headS s):=⟨_,Lib.hid rfl⟩
  rw [← ht.out]
  have hba : Below w0.heap.size w0 (w1.alloc (.cells #[.int .i64 t.k,.string ⟨t.t.toArray⟩,.int .i64 t.n,.int .i64 t.line] 61)):=hb.alloc hb.size _
  have h2:=Lib.hid (h0.out.below hba)
  have hz2:=Lib.hid (hz.out.below hba hz.out.lt)
  have hp2:=Lib.hid (hp.out.below hba hp.out.lt)
  have ht2:=Lib.hid (Own.new w1 #[.int .i64 t.k,.string ⟨t.t.toArray⟩,.int .i64 t.n,.int .i64 t.line] 61)
  have hg2:=Lib.hid (g_below hg0.out hba)
  have hzl : pb + 1 < w1.heap.size:=Nat.lt_of_lt_of_le hz.out.lt hb.size
  clear hba hb h0 hz hp hg0
  go_upto_region 2 with fail
  generalize w1.alloc (.cells #[.int .i64 t.k,.string ⟨t.t.toArray⟩,.int .i64 t.n,.int .i64 t.line] 61) = w2 at h2 hz2 hp2 ht2 hg2 ⊢
  obtain ⟨gt,hgt⟩ : ∃ z : Nat,Hid (z = w1.heap.size):=⟨_,Lib.hid rfl⟩
  rw [← hgt.out] at ht2 hzl ⊢
  have q0:=hp2.out.cell 0
  simp only [List.getElem?_toArray,List.getElem?_cons_zero] at q0
  go_wp2_with fail
  refine (is_any hK g o _ s (sub_but_grown hMw.out hg2.out) h2.out ⟨#[110,111,116]⟩).mono ?_
  rintro e w3 ⟨rfl,hb⟩
  have h3:=Lib.hid (h2.out.below hb)
  have hz3:=Lib.hid (hz2.out.below hb hz2.out.lt)
  have hp3:=Lib.hid (hp2.out.below hb hp2.out.lt)
  have ht3:=Lib.hid (ht2.out.below hb ht2.out.lt)
  have hg3:=Lib.hid (g_below hg2.out hb)
  clear hb h2 hz2 hp2 ht2 hg2 q0
  have q0:=hp3.out.cell 0
  simp only [List.getElem?_toArray,List.getElem?_cons_zero] at q0
  cases hx : isP sNot s with
  | true =>
    rw [show isP (⟨#[110,111,116]⟩ : ByteArray).data.toList s = true from hx]
    obtain ⟨q,rfl⟩ : ∃ q,s = .ok (t :: q):=by
      cases s with
      | error e=>cases hx
      | ok ts =>
        cases ts with
        | nil=>cases hx
        | cons u q=>exact ⟨q,by rw [show t = u from ht.out]⟩
    obtain ⟨f',rfl⟩ : ∃ f',f = f' + 1:=⟨f - 1,by have : (t :: q).length≤f:=hl.out; simp at this; omega⟩
    obtain ⟨p,hp1,hdr,hO⟩:=h3.out
    have hpt : T[p] = t:=by have h1:=hdr; rw [drop_at hp1] at h1; injection h1 with h1 h2; exact h1.symm
    have hp2 : p + 1 < T.length:=past_lt hK hp1 (x:=sNot) (by rw [hpt]; exact hx)
    have hlq : q.length≤f':=by have : (t :: q).length≤f' + 1:=hl.out; simp at this; exact this
    have hxt:=Lib.hid (show isT sNot t = true from hx)
    have c1:=hO.cell 1
    have c2:=hO.cell 2
    have d1:=hO.free 1
    have d2:=hO.free 2
    have hgL:=hO.lt
    simp only [List.getElem?_toArray,List.getElem?_cons_succ,List.getElem?_cons_zero] at c1 c2
    have hw1 : IntKind.i64.wrap ((p : Int) + 1) = (p : Int) + 1:=by have:=hK.few; rw [IntKind.wrap_i64]; omega
    have hw2 : IntKind.i64.wrap ((o : Int) + 1) = ((o + 1 : Nat) : Int):=by rw [IntKind.wrap_i64]; omega
    by_cases hov : 100 < o
    case pos =>
      have hov1 : (100 : Int) < (o : Int):=by omega
      have hv:=Lib.hid (show notF (f' + 1) o (t :: q) = .error (18,t.line) from by rw [notF]; rw [if_pos hxt.out,if_pos hov])
      obtain ⟨t0,t1,t2,t3,-⟩:=own4z ht3.out
      clear hx c1 d1 d2
      go_wp2_with fail
      rw [← row_arr]
      refine (fail_any g o _ (.ok (t :: q)) h3.out t 18 (by decide)).mono ?_
      rintro e w5 ⟨rfl,hga,hP5⟩
      have hz5:=hz3.out.kept hga (by simp; omega)
      have hRB:=RdB.mk' (B:=pb + 1) (St:=fun w s=>PrP T tb to' tc g w o s) (g_call hg3.out hga) hP5 hgl (by omega)
      obtain ⟨z0,z1,z2,z3,z4,f0,f1,f2,f3,f4⟩:=own5z hz5
      have hzl':=hz5.lt
      have hF:=Lib.hid (hRB.set5 (q:=pb + 1) (Nat.le_refl _) (.int .i64 0) (.string ⟨#[]⟩) (.string ⟨#[]⟩) (.slice none 0 0) (.slice none 0 0))
      clear hga hP5 hRB hz5
      go_wp2
      refine ⟨.agg #[.int .i64 0,.string ⟨#[]⟩,.string ⟨#[]⟩,.slice none 0 0,.slice none 0 0],(by simp [results,Tryz.results188,go_sem, *]),?_⟩
      rw [runS_ok,hv.out]
      exact Rd.err hF.out.grown hF.out.st _ ⟨_,rfl,ex_flat _ 0 ⟨#[]⟩ ⟨#[]⟩,Nat.zero_le _⟩
    have hov1 : ¬ (100 : Int) < (o : Int):=by omega
    have hP5 : Hid (PrP T tb to' tc g ((w3.setCell ⟨g,1,none⟩ (.int .i64 ((p : Int) + 1))).setCell ⟨g,2,none⟩ (.int .i64 ((o : Int) + 1))) (o + 1) (.ok q)):=Lib.hid (PrP.past (o2:=o + 1) hp2 hdr.symm hO)
    have hg5:=Lib.hid (g_call hg3.out (g_call (grown_setCell w3 g 1 (.int .i64 ((p : Int) + 1))) (grown_setCell _ g 2 (.int .i64 ((o : Int) + 1)))))
    have hz5:=Lib.hid ((hz3.out.setOther (p:=⟨g,1,none⟩) (by simp; omega) (.int .i64 ((p : Int) + 1))).setOther (p:=⟨g,2,none⟩) (by simp; omega) (.int .i64 ((o : Int) + 1)))
    have hp5:=Lib.hid ((hp3.out.setOther (p:=⟨g,1,none⟩) (by simp; omega) (.int .i64 ((p : Int) + 1))).setOther (p:=⟨g,2,none⟩) (by simp; omega) (.int .i64 ((o : Int) + 1)))
    go_upto_region 12 with fail
    generalize (w3.setCell ⟨g,1,none⟩ (.int .i64 ((p : Int) + 1))).setCell ⟨g,2,none⟩ (.int .i64 ((o : Int) + 1)) = w5 at hP5 hg5 hz5 hp5 ⊢
    clear c1 c2 d1 d2 hO h3 hg3 hz3 hp3 ht3 q0
    have q0:=hp5.out.cell 0
    simp only [List.getElem?_toArray,List.getElem?_cons_zero] at q0
    have hzB : pb + 1 < w5.heap.size:=hz5.out.lt
    have hwz5 : w.heap.size≤w5.heap.size:=hg5.out.size
    have hv:=Lib.hid (show notF (f' + 1) o (t :: q) = bnd (notF f' (o + 1) q) fun x r'=>.ok (.mk 4 [] [] [] [x],r') from by rw [notF,if_pos hxt.out,if_neg hov])
    go_wp2_with fail
    refine (ihh.out f' rfl (o + 1) (by omega) (by omega) w5 (.ok q) (sub_but_grown hMw.out hg5.out) hP5.out hlq).mono ?_
    rintro e w6 hr
    obtain ⟨x,o1,kd,nm,va,vn,vc,ka,kn,kc,rfl,hX,hxk,hxb⟩:=hr.ex
    have hz6:=hz5.out.kept hr.1 (by simp; omega)
    have hp6:=hp5.out.kept hr.1 (by simp; omega)
    have hzl':=hz6.lt
    have hsz6 : w5.heap.size≤w6.heap.size:=hr.1.size
    obtain ⟨z0,z1,z2,z3,z4,f0,f1,f2,f3,f4⟩:=own5z hz6
    have hRB:=RdB.mk' (B:=pb) (St:=fun w s=>PrP T tb to' tc g w (o + 1) s) (g_call hg5.out hr.1) hr.2.1 hgl hwp
    have hRB7:=hRB.set5 (q:=pb + 1) (by omega) (.int .i64 4) (.string ⟨#[]⟩) (.string ⟨#[]⟩) (.slice none 0 0) (.slice (some ⟨w6.heap.size,0,none⟩) 1 1)
    have hs7 : (((((w6.setCell ⟨pb + 1,0,none⟩ (.int .i64 4)).setCell ⟨pb + 1,1,none⟩ (.string ⟨#[]⟩)).setCell ⟨pb + 1,2,none⟩ (.string ⟨#[]⟩)).setCell ⟨pb + 1,3,none⟩ (.slice none 0 0)).setCell ⟨pb + 1,4,none⟩ (.slice (some ⟨w6.heap.size,0,none⟩) 1 1)).heap.size = w6.heap.size:=by simp
    have hX7:=hX.mono (nex_set5 (q:=pb + 1) hzB (.int .i64 4) (.string ⟨#[]⟩) (.string ⟨#[]⟩) (.slice none 0 0) (.slice (some ⟨w6.heap.size,0,none⟩) 1 1))
    have hp7:=(((((hp6.setOther (p:=⟨pb + 1,0,none⟩) (by simp) (.int .i64 4)).setOther (p:=⟨pb + 1,1,none⟩) (by simp) (.string ⟨#[]⟩)).setOther (p:=⟨pb + 1,2,none⟩) (by simp) (.string ⟨#[]⟩)).setOther (p:=⟨pb + 1,3,none⟩) (by simp) (.slice none 0 0)).setOther (p:=⟨pb + 1,4,none⟩) (by simp) (.slice (some ⟨w6.heap.size,0,none⟩) 1 1))
    have hz7 : Own (((((w6.setCell ⟨pb + 1,0,none⟩ (.int .i64 4)).setCell ⟨pb + 1,1,none⟩ (.string ⟨#[]⟩)).setCell ⟨pb + 1,2,none⟩ (.string ⟨#[]⟩)).setCell ⟨pb + 1,3,none⟩ (.slice none 0 0)).setCell ⟨pb + 1,4,none⟩ (.slice (some ⟨w6.heap.size,0,none⟩) 1 1)) (pb + 1) #[.int .i64 4,.string ⟨#[]⟩,.string ⟨#[]⟩,.slice none 0 0,.slice (some ⟨w6.heap.size,0,none⟩) 1 1] 31:=((((hz6.set 0 _).set 1 _).set 2 _).set 3 _).set 4 _
    have hhr:=Lib.hid hr
    replace hxb:=Lib.hid hxb
    replace hRB7:=Lib.hid hRB7
    replace hX7:=Lib.hid hX7
    replace hp7:=Lib.hid hp7
    replace hz7:=Lib.hid hz7
    replace hs7:=Lib.hid hs7
    clear hr hRB hX hz6 hp6 hhr
    go_wp2
    generalize (((((w6.setCell ⟨pb + 1,0,none⟩ (.int .i64 4)).setCell ⟨pb + 1,1,none⟩ (.string ⟨#[]⟩)).setCell ⟨pb + 1,2,none⟩ (.string ⟨#[]⟩)).setCell ⟨pb + 1,3,none⟩ (.slice none 0 0)).setCell ⟨pb + 1,4,none⟩ (.slice (some ⟨w6.heap.size,0,none⟩) 1 1)) = w7 at hRB7 hX7 hp7 hz7 hs7 ⊢
    have hRB8:=hRB7.out.alloc (.cells #[.int .i64 o1,.string kd,.string nm,.slice va vn vc,.slice ka kn kc] 31)
    have hp8:=hp7.out.alloc (.cells #[.int .i64 o1,.string kd,.string nm,.slice va vn vc,.slice ka kn kc] 31)
    have hz8:=hz7.out.alloc (.cells #[.int .i64 o1,.string kd,.string nm,.slice va vn vc,.slice ka kn kc] 31)
    have hX8:=hX7.out.mono (nex_grown (World.grownBy_alloc w7 (.cells #[.int .i64 o1,.string kd,.string nm,.slice va vn vc,.slice ka kn kc] 31) none) (fun k e=>by cases e))
    have hlw : w5.heap.size≤w7.heap.size:=by rw [hs7.out]; omega
    have hro:=ro_one (e:=31) (sz:=5) (B:=pb + 2) w7 #[.int .i64 o1,.string kd,.string nm,.slice va vn vc,.slice ka kn kc] (by omega) rfl
    rw [hs7.out] at hro
    have hrow:=hro.new (g:=g) (by intro r hr; rw [List.mem_singleton.1 hr]; rfl) (by omega)
    generalize w7.alloc (.cells #[.int .i64 o1,.string kd,.string nm,.slice va vn vc,.slice ka kn kc] 31) = w8 at hRB8 hp8 hz8 hX8 hrow ⊢
    refine leaves_cons (f:=265) (args:=#[.pointer (some ⟨pb,0,none⟩)]) (by simp) (by simp [go_sem]) ?_
    refine (not_back g o pb _ .returning w8 (by have:=hp8.cell 0; simpa using this) hRB8.st ho).mono ?_
    rintro e u' w'' ⟨rfl,rfl,rfl⟩
    have hz9:=hz8.setOther (p:=⟨g,2,none⟩) (by simp; omega) (.int .i64 (o : Int))
    obtain ⟨z0,z1,z2,z3,z4,-⟩:=own5z hz9
    have hF:=hRB8.back (o2:=o)
    have hgB : g∈[g]:=by simp
    have hXF : ExAt (nex w.heap.size [g] (w8.setCell ⟨g,2,none⟩ (.int .i64 (o : Int)))) (.mk 4 [] [] [] [x]) [.int .i64 4,.string ⟨#[]⟩,.string ⟨#[]⟩,.slice none 0 0,.slice (some ⟨w6.heap.size,0,none⟩) 1 1] :=
      ExAt.make (op:=4) (kd:=⟨#[]⟩) (nm:=⟨#[]⟩) (vals:=[]) (rows_nil _ _) (fun _ hv=>(List.not_mem_nil hv).elim) (hrow.mono ((nex_set (Or.inl hgB) _).trans (nex_up _ (show w.heap.size≤pb + 2 by omega) (fun k hk=>Or.inl hk))))
        ((KidsAt.one hX8).mono ((nex_set (Or.inl hgB) _).trans (nex_up _ hwz5 (fun k hk=>Or.inl hk))))
    refine ⟨.agg #[.int .i64 4,.string ⟨#[]⟩,.string ⟨#[]⟩,.slice none 0 0,.slice (some ⟨w6.heap.size,0,none⟩) 1 1],(by simp [results,Tryz.results188,go_sem,z0,z1,z2,z3,z4]),?_⟩
    rw [runS_ok,hv.out]
    have h1k : (PE.mk 4 [] [] [] [x]).kids.length≤120006 * (f' + 1):=by show 1≤_; omega
    exact Rd.fin hF.grown (by rw [show aft (bnd (notF f' (o + 1) q) fun x r'=>.ok ((.mk 4 [] [] [] [x] : PE),r')) = aft (notF f' (o + 1) q) from aft_map _ (fun x=>(.mk 4 [] [] [] [x] : PE))]; exact hF.st) (fun c q' hc=>by
      obtain ⟨y,r1,h1,h2⟩:=bnd_inv hc
      injection h2 with h2
      injection h2 with h2 h3
      rw [← h2,← hxb.out y r1 h1]
      exact ⟨_,rfl,hXF,h1k⟩) ⟨_,_,rfl,hXF,h1k⟩
  | false =>
    rw [show isP (⟨#[110,111,116]⟩ : ByteArray).data.toList s = false from hx]
    replace hx:=Lib.hid hx
    go_wp2_with fail
    refine (is_any hK g o _ s (sub_but_grown hMw.out hg3.out) h3.out ⟨#[40]⟩).mono ?_
    rintro e w4 ⟨rfl,hb⟩
    have h4:=Lib.hid (h3.out.below hb)
    have hz4:=Lib.hid (hz3.out.below hb hz3.out.lt)
    have hp4:=Lib.hid (hp3.out.below hb hp3.out.lt)
    have ht4:=Lib.hid (ht3.out.below hb ht3.out.lt)
    have hg4:=Lib.hid (g_below hg3.out hb)
    clear hb h3 hz3 hp3 ht3 hg3 q0
    have q0:=hp4.out.cell 0
    simp only [List.getElem?_toArray,List.getElem?_cons_zero] at q0
    cases hx2 : isP sLp s with
    | true =>
      rw [show isP (⟨#[40]⟩ : ByteArray).data.toList s = true from hx2]
      obtain ⟨q,rfl⟩ : ∃ q,s = .ok (t :: q):=by
        cases s with
        | error e=>cases hx2
        | ok ts =>
          cases ts with
          | nil=>cases hx2
          | cons u q=>exact ⟨q,by rw [show t = u from ht.out]⟩
      obtain ⟨f',rfl⟩ : ∃ f',f = f' + 1:=⟨f - 1,by have : (t :: q).length≤f:=hl.out; simp at this; omega⟩
      obtain ⟨p,hp1,hdr,hO⟩:=h4.out
      have hpt : T[p] = t:=by have h1:=hdr; rw [drop_at hp1] at h1; injection h1 with h1 h2; exact h1.symm
      have hp2 : p + 1 < T.length:=past_lt hK hp1 (x:=sLp) (by rw [hpt]; exact hx2)
      have hlq : q.length≤f':=by have : (t :: q).length≤f' + 1:=hl.out; simp at this; exact this
      have hxt:=Lib.hid (show isT sLp t = true from hx2)
      have c1:=hO.cell 1
      have c2:=hO.cell 2
      have d1:=hO.free 1
      have d2:=hO.free 2
      have hgL:=hO.lt
      simp only [List.getElem?_toArray,List.getElem?_cons_succ,List.getElem?_cons_zero] at c1 c2
      have hw1 : IntKind.i64.wrap ((p : Int) + 1) = (p : Int) + 1:=by have:=hK.few; rw [IntKind.wrap_i64]; omega
      have hw2 : IntKind.i64.wrap ((o : Int) + 1) = ((o + 1 : Nat) : Int):=by rw [IntKind.wrap_i64]; omega
      by_cases hov : 100 < o
      case pos =>
        have hov1 : (100 : Int) < (o : Int):=by omega
        have hv:=Lib.hid (show notF (f' + 1) o (t :: q) = .error (18,t.line) from by rw [notF]; rw [if_neg (by rw [show isT sNot t = false from hx.out]; decide),if_pos hxt.out,if_pos hov])
        obtain ⟨t0,t1,t2,t3,-⟩:=own4z ht4.out
        clear hx2 c1 d1 d2
        go_wp2_with fail
        rw [← row_arr]
        refine (fail_any g o _ (.ok (t :: q)) h4.out t 18 (by decide)).mono ?_
        rintro e w5 ⟨rfl,hga,hP5⟩
        have hz5:=hz4.out.kept hga (by simp; omega)
        have hRB:=RdB.mk' (B:=pb + 1) (St:=fun w s=>PrP T tb to' tc g w o s) (g_call hg4.out hga) hP5 hgl (by omega)
        obtain ⟨z0,z1,z2,z3,z4,f0,f1,f2,f3,f4⟩:=own5z hz5
        have hzl':=hz5.lt
        have hF:=Lib.hid (hRB.set5 (q:=pb + 1) (Nat.le_refl _) (.int .i64 0) (.string ⟨#[]⟩) (.string ⟨#[]⟩) (.slice none 0 0) (.slice none 0 0))
        clear hga hP5 hRB hz5
        go_wp2
        refine ⟨.agg #[.int .i64 0,.string ⟨#[]⟩,.string ⟨#[]⟩,.slice none 0 0,.slice none 0 0],(by simp [results,Tryz.results188,go_sem, *]),?_⟩
        rw [runS_ok,hv.out]
        exact Rd.err hF.out.grown hF.out.st _ ⟨_,rfl,ex_flat _ 0 ⟨#[]⟩ ⟨#[]⟩,Nat.zero_le _⟩
      have hov1 : ¬ (100 : Int) < (o : Int):=by omega
      have hP5 : Hid (PrP T tb to' tc g ((w4.setCell ⟨g,1,none⟩ (.int .i64 ((p : Int) + 1))).setCell ⟨g,2,none⟩ (.int .i64 ((o : Int) + 1))) (o + 1) (.ok q)):=Lib.hid (PrP.past (o2:=o + 1) hp2 hdr.symm hO)
      have hg5:=Lib.hid (g_call hg4.out (g_call (grown_setCell w4 g 1 (.int .i64 ((p : Int) + 1))) (grown_setCell _ g 2 (.int .i64 ((o : Int) + 1)))))
      have hz5:=Lib.hid ((hz4.out.setOther (p:=⟨g,1,none⟩) (by simp; omega) (.int .i64 ((p : Int) + 1))).setOther (p:=⟨g,2,none⟩) (by simp; omega) (.int .i64 ((o : Int) + 1)))
      have hp5:=Lib.hid ((hp4.out.setOther (p:=⟨g,1,none⟩) (by simp; omega) (.int .i64 ((p : Int) + 1))).setOther (p:=⟨g,2,none⟩) (by simp; omega) (.int .i64 ((o : Int) + 1)))
      go_upto_region 13 with fail
      generalize (w4.setCell ⟨g,1,none⟩ (.int .i64 ((p : Int) + 1))).setCell ⟨g,2,none⟩ (.int .i64 ((o : Int) + 1)) = w5 at hP5 hg5 hz5 hp5 ⊢
      clear c1 c2 d1 d2 hO h4 hg4 hz4 hp4 ht4 q0
      have q0:=hp5.out.cell 0
      simp only [List.getElem?_toArray,List.getElem?_cons_zero] at q0
      have hzB : pb + 1 < w5.heap.size:=hz5.out.lt
      have hwz5 : w.heap.size≤w5.heap.size:=hg5.out.size
      have hv:=Lib.hid (show notF (f' + 1) o (t :: q) = bnd (chainF (chainF (notF f' (o + 1)) 2 sAnd f') 3 sOr f' q) fun x r'=>bnd (needS sRp r') fun _ r''=>.ok (x,r'') from by rw [notF,if_neg (by rw [show isT sNot t = false from hx.out]; decide),if_pos hxt.out,if_neg hov])
      have hsn:=shr_not f' (o + 1)
      have hkn:=kid_not f' (o + 1)
      go_wp2_with fail
      refine (or_any hK g (o + 1) f' (60003 + 120006 * f') (by omega) (chainF (notF f' (o + 1)) 2 sAnd f') (shr_chain hsn 2 sAnd f') (kid_chain hsn hkn 2 sAnd f')
        (fun w s a b c=>and_any hK g (o + 1) f' (120006 * f') (by omega) (notF f' (o + 1)) hsn hkn (fun w s a b c=>ihh.out f' rfl (o + 1) (by omega) (by omega) w s a b c) w s a b c) w5 (.ok q) (sub_but_grown hMw.out hg5.out) hP5.out hlq).mono ?_
      rintro e w6 hr
      obtain ⟨x,o1,kd,nm,va,vn,vc,ka,kn,kc,rfl,hX,hxk,hxb⟩:=hr.ex
      have hz6':=hz5.out.kept hr.1 (by simp; omega)
      have hp6':=hp5.out.kept hr.1 (by simp; omega)
      have hg6':=g_call hg5.out hr.1
      have hP6' : PrP T tb to' tc g w6 (o + 1) (aft (chainF (chainF (notF f' (o + 1)) 2 sAnd f') 3 sOr f' q)):=hr.2.1
      have hsz6 : w5.heap.size≤w6.heap.size:=hr.1.size
      have hx6:=Lib.hid (Own.new w6 #[.int .i64 o1,.string kd,.string nm,.slice va vn vc,.slice ka kn kc] 31)
      have hz6:=Lib.hid (hz6'.alloc (.cells #[.int .i64 o1,.string kd,.string nm,.slice va vn vc,.slice ka kn kc] 31))
      have hp6:=Lib.hid (hp6'.alloc (.cells #[.int .i64 o1,.string kd,.string nm,.slice va vn vc,.slice ka kn kc] 31))
      have hg6:=Lib.hid (g_call hg6' (World.grownBy_alloc w6 (.cells #[.int .i64 o1,.string kd,.string nm,.slice va vn vc,.slice ka kn kc] 31) (some g)))
      have hP6:=Lib.hid (hP6'.alloc (.cells #[.int .i64 o1,.string kd,.string nm,.slice va vn vc,.slice ka kn kc] 31))
      have hX6:=Lib.hid (hX.mono (nex_grown (World.grownBy_alloc w6 (.cells #[.int .i64 o1,.string kd,.string nm,.slice va vn vc,.slice ka kn kc] 31) none) (fun k e=>by cases e)))
      have hxb':=Lib.hid (show ∀ c q',notF (f' + 1) o (t :: q) = .ok (c,q')→x = c from fun c q' hc=>by
        rw [hv.out] at hc
        obtain ⟨y,r1,h1,h2⟩:=bnd_inv hc
        obtain ⟨u,r2,h3,h4⟩:=bnd_inv h2
        injection h4 with h4
        injection h4 with h4 h5
        rw [← h4]
        exact hxb y r1 h1)
      have haf:=Lib.hid (show aft (notF (f' + 1) o (t :: q)) = aft (runS (aft (chainF (chainF (notF f' (o + 1)) 2 sAnd f') 3 sOr f' q)) (needS sRp)) from by
        rw [hv.out]
        exact aft_bnd (chainF (chainF (notF f' (o + 1)) 2 sAnd f') 3 sOr f' q) (needS sRp) (fun x r'=>bnd (needS sRp r') fun _ r''=>.ok (x,r'')) fun a q'=>aft_map (needS sRp q') (fun _=>a))
      clear hr hX hxb hz6' hp6' hg6' hP6' hv
      generalize aft (chainF (chainF (notF f' (o + 1)) 2 sAnd f') 3 sOr f' q) = s6 at hP6 haf
      go_upto_region 14 with fail
      generalize w6.alloc (.cells #[.int .i64 o1,.string kd,.string nm,.slice va vn vc,.slice ka kn kc] 31) = w7 at hx6 hz6 hp6 hg6 hP6 hX6 ⊢
      obtain ⟨gx,hgx⟩ : ∃ z : Nat,Hid (z = w6.heap.size):=⟨_,Lib.hid rfl⟩
      rw [← hgx.out] at hx6 ⊢
      have hgx' : pb + 1 < gx:=by have:=hgx.out; omega
      have q6:=hp6.out.cell 0
      simp only [List.getElem?_toArray,List.getElem?_cons_zero] at q6
      clear q0
      go_wp2_with fail
      refine (expect_any hK g (o + 1) w7 s6 (sub_but_grown hMw.out hg6.out) hP6.out ⟨#[41]⟩).mono ?_
      rintro e w8 hr
      obtain rfl:=hr.none
      have hz8:=hz6.out.kept hr.1 (by simp; omega)
      have hp8:=hp6.out.kept hr.1 (by simp; omega)
      have hx8:=hx6.out.kept hr.1 (by simp; omega)
      have hX8:=hX6.out.mono (nex_grown hr.1 (fun k e=>by cases e; exact Or.inl (by simp)))
      have hRB:=RdB.mk' (B:=pb) (St:=fun w s=>PrP T tb to' tc g w (o + 1) s) (s:=aft (notF (f' + 1) o (t :: q))) (g_call hg6.out hr.1) (by rw [haf.out]; exact hr.2.1) hgl hwp
      have hzl':=hz8.lt
      have hxl8:=hx8.lt
      obtain ⟨z0,z1,z2,z3,z4,f0,f1,f2,f3,f4⟩:=own5z hz8
      obtain ⟨y0,y1,y2,y3,y4,-⟩:=own5z hx8
      have hRB9:=Lib.hid (hRB.set5 (q:=pb + 1) (by omega) (.int .i64 o1) (.string kd) (.string nm) (.slice va vn vc) (.slice ka kn kc))
      have hX9:=Lib.hid (hX8.mono (nex_set5 (q:=pb + 1) hzB (.int .i64 o1) (.string kd) (.string nm) (.slice va vn vc) (.slice ka kn kc)))
      have hp9:=Lib.hid (((((hp8.setOther (p:=⟨pb + 1,0,none⟩) (by simp) (.int .i64 o1)).setOther (p:=⟨pb + 1,1,none⟩) (by simp) (.string kd)).setOther (p:=⟨pb + 1,2,none⟩) (by simp) (.string nm)).setOther (p:=⟨pb + 1,3,none⟩) (by simp) (.slice va vn vc)).setOther (p:=⟨pb + 1,4,none⟩) (by simp) (.slice ka kn kc))
      have hz9 : Hid (Own (((((w8.setCell ⟨pb + 1,0,none⟩ (.int .i64 o1)).setCell ⟨pb + 1,1,none⟩ (.string kd)).setCell ⟨pb + 1,2,none⟩ (.string nm)).setCell ⟨pb + 1,3,none⟩ (.slice va vn vc)).setCell ⟨pb + 1,4,none⟩ (.slice ka kn kc)) (pb + 1) #[.int .i64 o1,.string kd,.string nm,.slice va vn vc,.slice ka kn kc] 31):=Lib.hid (((((hz8.set 0 _).set 1 _).set 2 _).set 3 _).set 4 _)
      clear hr hRB hX8 hz8 hp8 hx8
      go_wp2
      generalize (((((w8.setCell ⟨pb + 1,0,none⟩ (.int .i64 o1)).setCell ⟨pb + 1,1,none⟩ (.string kd)).setCell ⟨pb + 1,2,none⟩ (.string nm)).setCell ⟨pb + 1,3,none⟩ (.slice va vn vc)).setCell ⟨pb + 1,4,none⟩ (.slice ka kn kc)) = w9 at hRB9 hX9 hp9 hz9 ⊢
      refine leaves_cons (f:=265) (args:=#[.pointer (some ⟨pb,0,none⟩)]) (by simp) (by simp [go_sem]) ?_
      refine (not_back g o pb _ .returning w9 (by have:=hp9.out.cell 0; simpa using this) hRB9.out.st ho).mono ?_
      rintro e u' w'' ⟨rfl,rfl,rfl⟩
      have hz10:=hz9.out.setOther (p:=⟨g,2,none⟩) (by simp; omega) (.int .i64 (o : Int))
      obtain ⟨z0,z1,z2,z3,z4,-⟩:=own5z hz10
      have hF:=hRB9.out.back (o2:=o)
      have hgB : g∈[g]:=by simp
      have hXF:=hX9.out.mono ((nex_set (o:=2) (Or.inl hgB) (.int .i64 (o : Int))).trans (nex_up _ hwz5 (fun k hk=>Or.inl hk)))
      refine ⟨.agg #[.int .i64 o1,.string kd,.string nm,.slice va vn vc,.slice ka kn kc],(by simp [results,Tryz.results188,go_sem,z0,z1,z2,z3,z4]),?_⟩
      rw [runS_ok]
      exact Rd.fin hF.grown hF.st (fun c q' hc=>by rw [← hxb'.out c q' hc]; exact ⟨_,rfl,hXF,by omega⟩) ⟨_,_,rfl,hXF,by omega⟩
    | false =>
      rw [show isP (⟨#[40]⟩ : ByteArray).data.toList s = false from hx2]
      have hv:=Lib.hid (notF_test (f:=f) (o:=o) hne.out hl.out hx.out hx2)
      go_wp2_with fail
      refine (test_any hK g o _ s (sub_but_grown hMw.out hg4.out) h4.out).mono ?_
      rintro e w5 hr
      obtain ⟨x,o1,kd,nm,va,vn,vc,ka,kn,kc,rfl,hX,hxk,hxb⟩:=hr.ex
      have hz5:=hz4.out.kept hr.1 (by simp; omega)
      have hzB : pb + 1 < w4.heap.size:=hz4.out.lt
      have hwz4 : w.heap.size≤w4.heap.size:=hg4.out.size
      have hRB:=RdB.mk' (B:=pb + 1) (St:=fun w s=>PrP T tb to' tc g w o s) (g_call hg4.out hr.1) hr.2.1 hgl (by omega)
      obtain ⟨z0,z1,z2,z3,z4,f0,f1,f2,f3,f4⟩:=own5z hz5
      have hzl':=hz5.lt
      have hF:=Lib.hid (hRB.set5 (q:=pb + 1) (Nat.le_refl _) (.int .i64 o1) (.string kd) (.string nm) (.slice va vn vc) (.slice ka kn kc))
      have hXF:=Lib.hid (hX.mono ((nex_set5 (q:=pb + 1) hzB (.int .i64 o1) (.string kd) (.string nm) (.slice va vn vc) (.slice ka kn kc)).trans (nex_up _ hwz4 (fun k hk=>Or.inl hk))))
      replace hxb:=Lib.hid hxb
      clear hr hRB hX hz5
      go_wp2
      refine ⟨.agg #[.int .i64 o1,.string kd,.string nm,.slice va vn vc,.slice ka kn kc],(by simp [results,Tryz.results188,go_sem, *]),?_⟩
      rw [hv.out]
      exact Rd.fin hF.out.grown hF.out.st (fun c q hc=>by rw [← hxb.out c q hc]; exact ⟨_,rfl,hXF.out,by omega⟩) ⟨x,_,rfl,hXF.out,by omega⟩
end
end Go.Proofs.YtfffpflflggonaaGreatDoor.src
