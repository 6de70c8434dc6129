/- The program's parser: a condition from its beginning, the start, the end of the text. The program's parser begins. -/
import Derived.Test.YtfffpflflggonaaGreatDoorKS20
namespace Go.Proofs.YtfffpflflggonaaGreatDoor.src
open Go.RowKit lex value text schema draw clause
section
variable {M : Mem} {T : List Tok} {tb to' tc : Nat}
theorem not_any (hK : TokM M T tb to' tc) (g : Nat) : ∀ f,NotOk M T tb to' tc g f
  | 0=>not_step hK g 0 (fun f' h=>by omega)
  | f + 1=>not_step hK g (f + 1) (fun f' h=>by
    have e : f = f':=by omega
    rw [← e]
    exact not_any hK g f)
def KO (f : Nat) : Nat:=60003 + (60003 + 120006 * f)
theorem or_all (hK : TokM M T tb to' tc) (g o f : Nat) (hf : f≤30001) (ho : o≤101) (w : World) (s : PS) (hM : Sub M (but g w)) (h : PrP T tb to' tc g w o s) (hl : lenP s≤f) :
    Calls Tryz.prog 43 #[.pointer (some ⟨g,0,none⟩)] w (Rd g (fun w s=>PrP T tb to' tc g w o s) w (ExIs w.heap.size g (KO f)) (runS s (orF f o))) :=
  or_any hK g o f (60003 + 120006 * f) (by omega) (chainF (notF f o) 2 sAnd f) (shr_chain (shr_not f o) 2 sAnd f) (kid_chain (shr_not f o) (kid_not f o) 2 sAnd f)
    (fun w s a b c=>and_any hK g o f (120006 * f) (by omega) (notF f o) (shr_not f o) (kid_not f o) (fun w s a b c=>not_any hK g f o hf ho w s a b c) w s a b c) w s hM h hl
set_option maxRecDepth 100000 in
set_option maxHeartbeats 4000000 in
theorem condition_any (hK : TokM M T tb to' tc) (g o f : Nat) (hf : f≤30001) (w : World) (s : PS) (hM : Sub M (but g w)) (h : PrP T tb to' tc g w o s) (hl : lenP s≤f) :
    Calls Tryz.prog 20 #[.pointer (some ⟨g,0,none⟩)] w (Rd g (fun w s=>PrP T tb to' tc g w 0 s) w (ExIs w.heap.size g (KO f)) (runS s (orF f 0))):=by
  have hgl:=h.lt
  obtain ⟨tv,p,L,q,hO,-⟩:=h.own
  have c2:=hO.cell 2
  have f2:=hO.free 2
  simp only [List.getElem?_toArray,List.getElem?_cons_succ,List.getElem?_cons_zero] at c2
  have hz:=Lib.hid (Own.new (w.setCell ⟨g,2,none⟩ (.int .i64 ((0 : Nat) : Int))) #[.int .i64 0,.string ⟨#[]⟩,.string ⟨#[]⟩,.slice none 0 0,.slice none 0 0] 31)
  have h0:=Lib.hid (h.back (o2:=0) |>.alloc (.cells #[.int .i64 0,.string ⟨#[]⟩,.string ⟨#[]⟩,.slice none 0 0,.slice none 0 0] 31))
  have hg0:=Lib.hid (g_call (grown_setCell w g 2 (.int .i64 ((0 : Nat) : Int))) (World.grownBy_alloc _ (.cells #[.int .i64 0,.string ⟨#[]⟩,.string ⟨#[]⟩,.slice none 0 0,.slice none 0 0] 31) (some g)))
  have hs0 : (w.setCell ⟨g,2,none⟩ (.int .i64 ((0 : Nat) : Int))).heap.size = w.heap.size:=by simp
  rw [hs0] at hz
  have hM0:=Lib.hid (sub_but_grown hM hg0.out)
  clear h hM hO hs0
  go_enter Tryz.func20,Tryz.ntmps20
  go_wp2_with fail
  generalize (w.setCell ⟨g,2,none⟩ (.int .i64 0)).alloc (.cells #[.int .i64 0,.string ⟨#[]⟩,.string ⟨#[]⟩,.slice none 0 0,.slice none 0 0] 31) = w0 at hz h0 hg0 hM0 ⊢
  obtain ⟨gz,hgz⟩ : ∃ z : Nat,Hid (z = w.heap.size):=⟨_,Lib.hid rfl⟩
  rw [← hgz.out] at hz ⊢
  have hwz : w.heap.size≤gz:=Nat.le_of_eq hgz.out.symm
  have hzB : gz < w0.heap.size:=hz.out.lt
  refine (or_all hK g 0 f hf (by omega) w0 s hM0.out h0.out hl).mono ?_
  rintro e w1 hr
  obtain ⟨x,o1,kd,nm,va,vn,vc,ka,kn,kc,rfl,hX,hxk,hxb⟩:=hr.ex
  have hz1:=hz.out.kept hr.1 (by simp; omega)
  have hRB:=RdB.mk' (B:=gz) (St:=fun w s=>PrP T tb to' tc g w 0 s) (g_call hg0.out hr.1) hr.2.1 hgl hwz
  obtain ⟨z0,z1,z2,z3,z4,f0,f1,f2,f3,f4⟩:=own5z hz1
  have hzl':=hz1.lt
  have hF:=Lib.hid (hRB.set5 (q:=gz) (Nat.le_refl _) (.int .i64 o1) (.string kd) (.string nm) (.slice va vn vc) (.slice ka kn kc))
  have hXF:=Lib.hid (hX.mono ((nex_set5 (q:=gz) hzB (.int .i64 o1) (.string kd) (.string nm) (.slice va vn vc) (.slice ka kn kc)).trans (nex_up _ (show w.heap.size≤w0.heap.size by omega) (fun k hk=>Or.inl hk))))
  replace hxb:=Lib.hid hxb
  clear hr hRB hX hz1
  go_wp2
  refine bodyPost_ret (v:=.agg #[.int .i64 o1,.string kd,.string nm,.slice va vn vc,.slice ka kn kc]) (by simp [results,Tryz.results20,go_sem, *]) rfl ?_
  exact Rd.fin hF.out.grown hF.out.st (fun c q hc=>by rw [← hxb.out c q hc]; exact ⟨_,rfl,hXF.out,hxk⟩) ⟨x,_,rfl,hXF.out,hxk⟩
def EndIs (g : Nat) (r : R Tok) (w : World) : Prop:=∃ (tv : Value) (p o L q : Int),Own w g #[tv,.int .i64 p,.int .i64 o,.int .i64 L,.int .i64 q] 65∧match r with
  | .ok _=>L = 0∧q = 0
  | .error e=>e = (q,L)∧q ≠ 0
set_option maxRecDepth 100000 in
set_option maxHeartbeats 4000000 in
theorem take_end (hK : TokM M T tb to' tc) (g o : Nat) (w : World) (s : PS) (hM : Sub M (but g w)) (h : PrP T tb to' tc g w o s) :
    Calls Tryz.prog 21 #[.pointer (some ⟨g,0,none⟩),.int .i64 6] w fun e w'=>(∃ v,e = .returned v)∧w.grownBy w' (some g)∧EndIs g (runS s (takeS 6)) w':=by
  have hz:=Lib.hid (Own.new w #[.int .i64 0,.string ⟨#[]⟩,.int .i64 0,.int .i64 0] 61)
  have h0:=Lib.hid (h.alloc (.cells #[.int .i64 0,.string ⟨#[]⟩,.int .i64 0,.int .i64 0] 61))
  have hg0:=Lib.hid (World.grownBy_alloc w (.cells #[.int .i64 0,.string ⟨#[]⟩,.int .i64 0,.int .i64 0] 61) (some g))
  have hM0:=Lib.hid (sub_but_grown hM hg0.out)
  have hgl:=h.lt
  have hne : ∀ ts,s = .ok ts→ts ≠ []:=fun ts e=>by subst e; exact h.ne
  replace hne:=Lib.hid hne
  clear h hM
  go_enter Tryz.func21,Tryz.ntmps21
  go_wp2_with fail
  generalize w.alloc (.cells #[.int .i64 0,.string ⟨#[]⟩,.int .i64 0,.int .i64 0] 61) = w0 at hz h0 hg0 hM0 ⊢
  obtain ⟨gz,hgz⟩ : ∃ z : Nat,Hid (z = w.heap.size):=⟨_,Lib.hid rfl⟩
  rw [← hgz.out] at hz ⊢
  have hwz : w.heap.size≤gz:=Nat.le_of_eq hgz.out.symm
  refine (peek_any hK g o _ s hM0.out h0.out).mono ?_
  rintro e w1 ⟨rfl,hb⟩
  rw [row_arr]
  obtain ⟨t,ht⟩ : ∃ t,Hid (t = headS s):=⟨_,Lib.hid rfl⟩
  rw [← ht.out]
  have hba : Below w0.heap.size w0 (w1.alloc (.cells #[.int .i64 t.k,.string ⟨t.t.toArray⟩,.int .i64 t.n,.int .i64 t.line] 61)):=hb.alloc hb.size _
  have h2:=Lib.hid (h0.out.below hba)
  have hz2:=Lib.hid (hz.out.below hba hz.out.lt)
  have ht2:=Lib.hid (Own.new w1 #[.int .i64 t.k,.string ⟨t.t.toArray⟩,.int .i64 t.n,.int .i64 t.line] 61)
  have hg2:=Lib.hid (g_below hg0.out hba)
  have hzl : gz < w1.heap.size:=Nat.lt_of_lt_of_le hz.out.lt hb.size
  clear hba hb h0 hz hM0 hg0
  by_cases hk : t.k = 6
  case neg =>
    have hkf : (t.k == 6) = false:=by simpa using hk
    have hE:=Lib.hid (show ∀ (u : World),w.grownBy u (some g)→PrP T tb to' tc g u o (failP s t 1)→EndIs g (runS s (takeS 6)) u from fun u h1 h2=>by
      have hr : runS s (takeS 6) = .error (match s with | .error e=>e | .ok _=>(1,t.line)):=by
        cases s with
        | error e=>rfl
        | ok ts =>
          cases ts with
          | nil=>exact absurd rfl (hne.out _ rfl)
          | cons u' r =>
            have e : t = u':=ht.out
            subst e
            rw [runS_ok,takeS,if_neg hk]
      rw [hr]
      obtain ⟨tv,p,L,q,h3,h4⟩:=h2.own
      refine ⟨tv,p,o,L,q,h3,?_⟩
      cases s with
      | error e=>exact h4
      | ok ts=>exact h4)
    have hkn : (t.k != 6) = true:=by simpa using hk
    clear hk
    have q0:=ht2.out.cell 0
    simp only [List.getElem?_toArray,List.getElem?_cons_zero] at q0
    go_upto_region 3 with fail
    obtain ⟨t0,t1,t2,t3,-⟩:=own4z ht2.out
    clear q0
    go_wp2_with fail
    generalize w1.alloc (.cells #[.int .i64 t.k,.string ⟨t.t.toArray⟩,.int .i64 t.n,.int .i64 t.line] 61) = w2 at h2 hz2 ht2 hg2 ⊢
    rw [← row_arr]
    refine (fail_any g o _ s h2.out t 1 (by decide)).mono ?_
    rintro e w3 ⟨rfl,hg,hP⟩
    have hz3:=hz2.out.kept hg (by simp; omega)
    obtain ⟨z0,z1,z2,z3,f0,f1,f2,f3⟩:=own4z hz3
    have hgz3:=hz3.lt
    have hRB:=Lib.hid (((((RdB.mk' (B:=gz) (St:=fun w s=>PrP T tb to' tc g w o s) (g_call hg2.out hg) hP hgl hwz).set (q:=gz) (i:=0) (Nat.le_refl _) (.int .i64 0)).set (q:=gz) (i:=1) (Nat.le_refl _) (.string ⟨#[]⟩)).set (q:=gz) (i:=2) (Nat.le_refl _) (.int .i64 0)).set (q:=gz) (i:=3) (Nat.le_refl _) (.int .i64 0))
    clear hg hP hz3
    go_wp2
    refine bodyPost_ret (v:=.agg #[.int .i64 0,.string ⟨#[]⟩,.int .i64 0,.int .i64 0]) (by simp [results,Tryz.results21,go_sem, *]) rfl ?_
    exact ⟨⟨_,rfl⟩,hRB.out.grown,hE.out _ hRB.out.grown hRB.out.st⟩
  case pos =>
    cases s with
    | error e =>
      exfalso
      have e1 : t = zeroT:=ht.out
      rw [e1] at hk
      have : zeroT.k = 0:=rfl
      omega
    | ok ts =>
      obtain ⟨p,hp,rfl,hO⟩:=h2.out
      have e1 : t = T[p]:=by have:=ht.out; rw [drop_at hp] at this; exact this
      have hkf : (t.k != 6) = false:=by simpa using hk
      have hr:=Lib.hid (show runS (.ok (T.drop p)) (takeS 6) = .ok (t,T.drop (p + 1)) by rw [runS_ok,drop_at hp,takeS,if_pos (by rw [← e1]; exact hk),← e1])
      replace hk:=Lib.hid hk
      replace e1:=Lib.hid e1
      have q0:=ht2.out.cell 0
      simp only [List.getElem?_toArray,List.getElem?_cons_zero] at q0
      go_upto_region 5 with fail
      clear q0
      have hw : IntKind.i64.wrap ((p : Int) + 1) = (p : Int) + 1:=by have:=hK.few; rw [IntKind.wrap_i64]; omega
      generalize w1.alloc (.cells #[.int .i64 t.k,.string ⟨t.t.toArray⟩,.int .i64 t.n,.int .i64 t.line] 61) = w2 at hO h2 hz2 ht2 hg2 ⊢
      have c1:=hO.cell 1
      have f1:=hO.free 1
      have hl:=hO.lt
      simp only [List.getElem?_toArray,List.getElem?_cons_succ,List.getElem?_cons_zero] at c1
      have hgz' : g ≠ gz:=by omega
      have hgt' : g ≠ w1.heap.size:=by omega
      have hO3:=Lib.hid (show Own (w2.setCell ⟨g,1,none⟩ (.int .i64 ((p : Int) + 1))) g #[.slice (some ⟨tb,to',none⟩) T.length tc,.int .i64 ((p : Int) + 1),.int .i64 o,.int .i64 0,.int .i64 0] 65 from hO.set 1 _)
      have hz3:=Lib.hid (hz2.out.setOther (p:=⟨g,1,none⟩) (by simpa using hgz'.symm) (.int .i64 ((p : Int) + 1)))
      have ht3:=Lib.hid (ht2.out.setOther (p:=⟨g,1,none⟩) (by simpa using hgt'.symm) (.int .i64 ((p : Int) + 1)))
      have hg3:=Lib.hid (g_call hg2.out (grown_setCell w2 g 1 (.int .i64 ((p : Int) + 1))))
      clear hO h2
      go_upto_region 6 with fail
      generalize w2.setCell ⟨g,1,none⟩ (.int .i64 ((p : Int) + 1)) = w3 at hz3 ht3 hO3 hg3 ⊢
      obtain ⟨z0,z1,z2,z3,f0,f1,f2,f3⟩:=own4z hz3.out
      obtain ⟨t0,t1,t2,t3,-⟩:=own4z ht3.out
      have hgz3:=hz3.out.lt
      have hO4:=Lib.hid ((((hO3.out.setOther (p:=⟨gz,0,none⟩) (by simpa using hgz') (.int .i64 t.k)).setOther (p:=⟨gz,1,none⟩) (by simpa using hgz') (.string ⟨t.t.toArray⟩)).setOther (p:=⟨gz,2,none⟩) (by simpa using hgz') (.int .i64 t.n)).setOther (p:=⟨gz,3,none⟩) (by simpa using hgz') (.int .i64 t.line))
      have hg4:=Lib.hid (g_setCell (g_setCell (g_setCell (g_setCell hg3.out (p:=⟨gz,0,none⟩) (by simp; omega) (.int .i64 t.k)) (p:=⟨gz,1,none⟩) (by simp; omega) (.string ⟨t.t.toArray⟩)) (p:=⟨gz,2,none⟩) (by simp; omega) (.int .i64 t.n)) (p:=⟨gz,3,none⟩) (by simp; omega) (.int .i64 t.line))
      go_wp2
      refine bodyPost_ret (v:=.agg #[.int .i64 t.k,.string ⟨t.t.toArray⟩,.int .i64 t.n,.int .i64 t.line]) (by simp [results,Tryz.results21,go_sem, *]) rfl ?_
      refine ⟨⟨_,rfl⟩,hg4.out,?_⟩
      rw [hr.out]
      exact ⟨_,(p : Int) + 1,(o : Int),0,0,hO4.out,rfl,rfl⟩
end
end Go.Proofs.YtfffpflflggonaaGreatDoor.src
namespace Go.Proofs.YtfffpflflggonaaGreatDoor.src
open Go.RowKit lex value text schema draw clause
theorem next_err {l : List UInt8} {q : Int} (h : nextS l = .error q) : q ≠ 0:=by
  cases l with
  | nil=>injection h with h; rw [← h]; decide
  | cons c r =>
    cases hl : letB c with
    | true=>rw [nx_word hl] at h; cases h
    | false =>
      cases hn : numStart c r with
      | true =>
        rcases num_ways hl hn rfl with ⟨_,hx⟩ | ⟨_,_,hx⟩ | ⟨_,h2,hx⟩
        · rw [hx] at h; cases h
        · rw [hx] at h; cases h
        · rw [hx] at h; injection h with h; rw [← h]; exact h2
      | false =>
        by_cases h34 : c.toNat = 34
        · rcases text_ways (r:=r) h34 with ⟨_,hx⟩ | ⟨k,hk,⟨_,hx⟩ | ⟨_,hx⟩ | ⟨b,_,hx⟩⟩
          · rw [hx] at h; injection h with h; rw [← h]; decide
          · rw [hx] at h; injection h with h; rw [← h]; decide
          · rw [hx] at h; injection h with h; rw [← h]; decide
          · rw [hx] at h; cases h
        · cases hs : signB c with
          | true =>
            rw [nx_sign hs] at h
            split at h <;> cases h
          | false=>rw [nx_none hl hn h34 hs] at h; injection h with h; rw [← h]; decide
theorem tokF_err : ∀ (f : Nat) (l : List UInt8) (L : Int) (e : Int × Int),tokF f l L = .error e→e.1 ≠ 0
  | 0,l,L,e,h=>by rw [tokF] at h; cases h
  | f + 1,[],L,e,h=>by rw [tokF] at h; cases h
  | f + 1,c :: r,L,e,h=>by
    rw [tokF_cons] at h
    split at h
    · exact tokF_err f _ _ _ h
    · split at h
      · exact tokF_err f _ _ _ h
      · split at h
        · exact tokF_err f _ _ _ h
        · split at h
          · rename_i q hx
            injection h with h
            rw [← h]
            exact next_err hx
          · split at h
            · rename_i e' hy
              injection h with h
              rw [← h]
              exact tokF_err f _ _ _ hy
            · cases h
theorem toks_err {l : List UInt8} {e : Int × Int} (h : toksS l = .error e) : e.1 ≠ 0:=by
  unfold toksS at h
  split at h
  · injection h with h; rw [← h]; decide
  · exact tokF_err _ _ _ _ h
theorem tokF_many : ∀ (f : Nat) (l : List UInt8) (L : Int) (ts : List Tok),tokF f l L = .ok ts→ts.length≤l.length + 1
  | 0,l,L,ts,h=>by rw [tokF] at h; injection h with h; rw [← h]; simp
  | f + 1,[],L,ts,h=>by rw [tokF] at h; injection h with h; rw [← h]; simp
  | f + 1,c :: r,L,ts,h=>by
    rw [tokF_cons] at h
    split at h
    · have:=tokF_many f _ _ _ h; simp; omega
    · split at h
      · have:=tokF_many f _ _ _ h; simp; omega
      · split at h
        · have:=tokF_many f _ _ _ h; rw [List.length_drop] at this; omega
        · split at h
          · cases h
          · rename_i t n hx
            split at h
            · cases h
            · rename_i l' hy
              injection h with h
              rw [← h]
              have h1:=tokF_many f _ _ _ hy
              have h2:=(nextS_pos hx).1
              rw [List.length_drop] at h1
              simp at h1 ⊢
              omega
theorem toks_many {l : List UInt8} {ts : List Tok} (h : toksS l = .ok ts) : ts.length≤30001:=by
  unfold toksS at h
  split at h
  · cases h
  · have:=tokF_many _ _ _ _ h; omega
def startS (l : List UInt8) : PS:=toksS l
def StartIs (l : List UInt8) (w : World) (e : Ending) (w' : World) : Prop :=
  ∃ (g : Nat) (M : Mem) (T : List Tok) (tb to' tc : Nat),e = .returned (.pointer (some ⟨g,0,none⟩))∧TokM M T tb to' tc∧Sub M (but g w')∧PrP T tb to' tc g w' 0 (startS l)∧w.heap.size≤g∧Below w.heap.size w w'
set_option maxRecDepth 100000 in
set_option maxHeartbeats 4000000 in
theorem start_any (s : ByteArray) (w : World) (hs : s.size≤140737488355328) (hT : Tabs w) :
    Calls Tryz.prog 19 #[.string s] w (StartIs s.data.toList w):=by
  go_enter Tryz.func19,Tryz.ntmps19
  go_wp2_with fail
  refine (tokens_any s w hs hT).mono ?_
  rintro e w1 ⟨hb,hm⟩
  cases ht : toksS s.data.toList with
  | error q =>
    rw [ht] at hm
    obtain ⟨q,L⟩:=q
    obtain rfl:=hm
    have hQ:=Lib.hid (show StartIs s.data.toList w (.returned (.pointer (some ⟨w1.heap.size,0,none⟩))) (w1.alloc (.cells #[.slice none 0 0,.int .i64 0,.int .i64 0,.int .i64 L,.int .i64 q] 65)) from
      ⟨w1.heap.size,_,[],0,0,0,rfl,TokM.none,fun p v h=>(by cases h),by
        show PrP [] 0 0 0 _ _ 0 (toksS s.data.toList)
        rw [ht]
        exact ⟨_,0,toks_err ht,Own.new _ _ _⟩,hb.size,hb.alloc hb.size _⟩)
    clear hb ht
    go_wp2
    go_ret
    exact hQ.out
  | ok ts =>
    rw [ht] at hm
    obtain ⟨v,rfl,hown⟩:=hm
    have hgood:=toks_good ht
    obtain ⟨gr,cap,rfl,-,hgl⟩:=hown.form hgood.pos
    have hQ:=Lib.hid (show StartIs s.data.toList w (.returned (.pointer (some ⟨w1.heap.size,0,none⟩))) (w1.alloc (.cells #[.slice (some ⟨gr,0,none⟩) ts.length cap,.int .i64 0,.int .i64 0,.int .i64 0,.int .i64 0] 65)) from
      ⟨w1.heap.size,w1.cell?,ts,gr,0,cap,rfl,⟨rows_of_owns hown (ts.map Tok.row) (by simp) (fun r hr=>by obtain ⟨d,-,rfl⟩:=List.mem_map.1 hr; rfl) rfl,fun p hp=>hgood.at hp,toks_many ht⟩,
        fun p v h=>by
          have hl:=World.block_lt_of_cell? w1 p h
          unfold but
          rw [if_neg (by omega)]
          exact (World.cell?_of_block (Below.heap_alloc w1 _ _ hl)).trans h,by
        show PrP ts gr 0 cap _ _ 0 (toksS s.data.toList)
        rw [ht]
        exact ⟨0,hgood.pos,rfl,Own.new _ _ _⟩,hb.size,hb.alloc hb.size _⟩)
    clear hb ht hown
    go_wp2
    go_ret
    exact hQ.out
end Go.Proofs.YtfffpflflggonaaGreatDoor.src
