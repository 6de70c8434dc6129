/- The program's parser: its small steps. Reading takes tokens away; lists read step by step. No program in sight. The program's parser: tokens of a kind, one of some words, texts. -/
import Derived.Test.YtfffpflflggonaaGreatDoorKS15
import Derived.Test.YtfffpflflggonaaGreatDoorKS14
import Derived.Test.YtfffpflflggonaaGreatDoorKS10
import Derived.Laws.AppendOwn
namespace Go.Proofs.YtfffpflflggonaaGreatDoor.src
open Go.RowKit lex value text schema draw
section
variable {M : Mem} {T : List Tok} {tb to' tc : Nat}
set_option maxRecDepth 100000 in
set_option maxHeartbeats 4000000 in
theorem peek_any (hK : TokM M T tb to' tc) (g o : Nat) (w : World) (s : PS) (hM : Sub M (but g w)) (h : PrP T tb to' tc g w o s) :
    Calls Tryz.prog 44 #[.pointer (some ⟨g,0,none⟩)] w fun e w'=>e = .returned (.agg (headS s).row.toArray)∧Below w.heap.size w w':=by
  obtain ⟨tv,p,L,q,hO,hs⟩:=h.own
  have c0:=hO.cell 0
  have c1:=hO.cell 1
  have c4:=hO.cell 4
  have hl:=hO.lt
  simp only [List.getElem?_toArray,List.getElem?_cons_succ,List.getElem?_cons_zero] at c0 c1 c4
  have hbd:=Lib.hid (show Below w.heap.size w (w.alloc (.cells #[.int .i64 0,.string ⟨#[]⟩,.int .i64 0,.int .i64 0] 61)) from (Below.refl _ _).alloc (Nat.le_refl _) _)
  cases s with
  | error e =>
    obtain ⟨rfl,hq⟩:=hs
    have hne : (q != 0) = true:=by simpa using hq
    clear hq h hO
    go_enter Tryz.func44,Tryz.ntmps44
    go_wp2
    refine bodyPost_ret (v:=.agg #[.int .i64 0,.string ⟨#[]⟩,.int .i64 0,.int .i64 0]) (by simp [results,Tryz.results44,go_sem]) rfl ?_
    exact ⟨rfl,hbd.out⟩
  | ok ts =>
    obtain ⟨hp,rfl,rfl,rfl,rfl⟩:=hs
    obtain ⟨k0,k1,k2,k3⟩:=tok_at hK hp
    replace k0:=but_sub _ _ _ _ (hM _ _ k0)
    replace k1:=but_sub _ _ _ _ (hM _ _ k1)
    replace k2:=but_sub _ _ _ _ (hM _ _ k2)
    replace k3:=but_sub _ _ _ _ (hM _ _ k3)
    have htl : tb < w.heap.size:=World.block_lt_of_cell? w _ k0
    rw [drop_at hp]
    have n0 : (0 : Int)≤(p : Int):=by omega
    have n1 : (p : Int) < (T.length : Int):=by omega
    generalize T[p] = t at k0 k1 k2 k3 ⊢
    clear h hO
    go_enter Tryz.func44,Tryz.ntmps44
    go_wp2_with fail
    go_region
    all_goals
      go_wp2
      refine bodyPost_ret (v:=.agg #[.int .i64 t.k,.string ⟨t.t.toArray⟩,.int .i64 t.n,.int .i64 t.line]) (by simp [results,Tryz.results44,go_sem]) rfl ?_
      exact ⟨rfl,Below.grown ((Below.refl w.heap.size w).alloc (Nat.le_refl _) _) (grown_drew _ none) (by simp) (fun k e=>by cases e)⟩
set_option maxRecDepth 100000 in
set_option maxHeartbeats 4000000 in
theorem is_any (hK : TokM M T tb to' tc) (g o : Nat) (w : World) (s : PS) (hM : Sub M (but g w)) (h : PrP T tb to' tc g w o s) (x : ByteArray) :
    Calls Tryz.prog 187 #[.pointer (some ⟨g,0,none⟩),.string x] w fun e w'=>e = .returned (.bool (isP x.data.toList s))∧Below w.heap.size w w':=by
  rw [isP_head]
  go_enter Tryz.func187,Tryz.ntmps187
  go_wp2_with fail
  refine (peek_any hK g o _ s hM h).mono ?_
  rintro e w1 ⟨rfl,hb⟩
  rw [row_arr]
  obtain ⟨t,ht⟩ : ∃ t,Hid (t = headS s):=⟨_,Lib.hid rfl⟩
  rw [← ht.out]
  have hb2:=Lib.hid (hb.alloc hb.size (.cells #[.int .i64 t.k,.string ⟨t.t.toArray⟩,.int .i64 t.n,.int .i64 t.line] 61))
  have hE : isT x.data.toList t = ((t.k == 1 || t.k == 5) && ((⟨t.t.toArray⟩ : ByteArray).toList == x.toList)):=by
    unfold isT
    rw [ByteArray.toList_eq,ByteArray.toList_eq]
  clear hb hM h
  replace hE:=Lib.hid hE
  generalize (⟨t.t.toArray⟩ : ByteArray) = sb at hb2 hE ⊢
  generalize t.k = k at hb2 hE ⊢
  cases h1 : (k == 1) with
  | true =>
    cases hx : (sb.toList == x.toList) with
    | true =>
      have hQ:=Lib.hid (show true = isT x.data.toList (headS s) by rw [← ht.out,hE.out,h1,hx]; rfl)
      go_wp2
      go_ret
      exact ⟨text.ret_bool hQ.out,hb2.out⟩
    | false =>
      have hQ:=Lib.hid (show false = isT x.data.toList (headS s) by rw [← ht.out,hE.out,h1,hx]; rfl)
      go_wp2
      go_ret
      exact ⟨text.ret_bool hQ.out,hb2.out⟩
  | false =>
    cases h5 : (k == 5) with
    | true =>
      cases hx : (sb.toList == x.toList) with
      | true =>
        have hQ:=Lib.hid (show true = isT x.data.toList (headS s) by rw [← ht.out,hE.out,h1,h5,hx]; rfl)
        go_wp2
        go_ret
        exact ⟨text.ret_bool hQ.out,hb2.out⟩
      | false =>
        have hQ:=Lib.hid (show false = isT x.data.toList (headS s) by rw [← ht.out,hE.out,h1,h5,hx]; rfl)
        go_wp2
        go_ret
        exact ⟨text.ret_bool hQ.out,hb2.out⟩
    | false =>
      have hQ:=Lib.hid (show false = isT x.data.toList (headS s) by rw [← ht.out,hE.out,h1,h5]; rfl)
      go_wp2
      go_ret
      exact ⟨text.ret_bool hQ.out,hb2.out⟩
theorem past_lt (hK : TokM M T tb to' tc) {p : Nat} (hp : p < T.length) {x : List UInt8} (h : isT x T[p] = true) : p + 1 < T.length:=by
  rcases hK.ok _ hp with h1 | h1
  · exact h1.1
  · rw [isT_end h1.2] at h; cases h
set_option maxRecDepth 100000 in
set_option maxHeartbeats 4000000 in
theorem accept_any (hK : TokM M T tb to' tc) (g o : Nat) (w : World) (s : PS) (hM : Sub M (but g w)) (h : PrP T tb to' tc g w o s) (x : ByteArray) :
    Calls Tryz.prog 125 #[.pointer (some ⟨g,0,none⟩),.string x] w fun e w'=>e = .returned (.bool (isP x.data.toList s))∧w.grownBy w' (some g)∧PrP T tb to' tc g w' o (pastP x.data.toList s):=by
  go_enter Tryz.func125,Tryz.ntmps125
  go_wp2_with fail
  refine (is_any hK g o _ s hM h x).mono ?_
  rintro e w1 ⟨rfl,hb⟩
  have hg1:=Lib.hid (grown_of_below hb (some g))
  have h1:=h.below hb
  clear hb hM
  cases hx : isP x.data.toList s with
  | false =>
    have h2:=Lib.hid (show PrP T tb to' tc g w1 o (pastP x.data.toList s) by rw [pastP_no hx]; exact h1)
    have hxh:=Lib.hid hx.symm
    clear h h1 hx
    go_wp2
    go_ret
    exact ⟨text.ret_bool hxh.out,hg1.out,h2.out⟩
  | true =>
    cases s with
    | error e=>cases hx
    | ok ts =>
      obtain ⟨p,hp,rfl,hO⟩:=h1
      have hxh:=Lib.hid hx.symm
      rw [drop_at hp] at hx
      have hp1:=past_lt hK hp (x:=x.data.toList) hx
      have hQ:=Lib.hid (show PrP T tb to' tc g (w1.setCell ⟨g,1,none⟩ (.int .i64 ((p : Int) + 1))) o (pastP x.data.toList (.ok (T.drop p))) from by
        show PrP T tb to' tc g _ o (if isN x.data.toList (T.drop p) then .ok (T.drop p).tail else .ok (T.drop p))
        rw [drop_at hp,show isN x.data.toList (T[p] :: T.drop (p + 1)) = true from hx,if_pos rfl]
        exact ⟨p + 1,hp1,rfl,by have:=hO.set 1 (.int .i64 ((p : Int) + 1)); simpa using this⟩)
      have hg2:=Lib.hid (g_call hg1.out (grown_setCell w1 g 1 (.int .i64 ((p : Int) + 1))))
      have c1:=hO.cell 1
      have f1:=hO.free 1
      have hl:=hO.lt
      have hw : IntKind.i64.wrap ((p : Int) + 1) = (p : Int) + 1:=by have:=hK.few; rw [IntKind.wrap_i64]; omega
      simp only [List.getElem?_toArray,List.getElem?_cons_succ,List.getElem?_cons_zero] at c1
      clear h hx hO
      go_wp2
      go_ret
      exact ⟨text.ret_bool hxh.out,hg2.out,hQ.out⟩
set_option maxRecDepth 100000 in
set_option maxHeartbeats 4000000 in
theorem fail_any (g o : Nat) (w : World) (s : PS) (h : PrP T tb to' tc g w o s) (t : Tok) (q : Int) (hq : q ≠ 0) :
    Calls Tryz.prog 45 #[.pointer (some ⟨g,0,none⟩),.agg t.row.toArray,.int .i64 q] w fun e w'=>e = .returned (.tuple #[])∧w.grownBy w' (some g)∧PrP T tb to' tc g w' o (failP s t q):=by
  have hB:=Lib.hid (World.grownBy_alloc w (.cells #[.int .i64 t.k,.string ⟨t.t.toArray⟩,.int .i64 t.n,.int .i64 t.line] 61) (some g))
  have h1:=h.alloc (.cells #[.int .i64 t.k,.string ⟨t.t.toArray⟩,.int .i64 t.n,.int .i64 t.line] 61)
  have hl:=h.lt
  rw [row_arr]
  cases s with
  | error e =>
    obtain ⟨tv,p,hne,hO⟩:=h
    have c4:=hO.cell 4
    simp only [List.getElem?_toArray,List.getElem?_cons_succ,List.getElem?_cons_zero] at c4
    have hz : (e.1 == 0) = false:=by simpa using hne
    replace h1:=Lib.hid h1
    clear hO hne
    go_enter Tryz.func45,Tryz.ntmps45
    go_wp2
    first | go_end0 | refine bodyPost_ret (results_none rfl _ _ _) rfl ?_
    exact ⟨rfl,hB.out,h1.out⟩
  | ok ts =>
    obtain ⟨p,hp,rfl,hO⟩:=h
    have c3:=hO.cell 3
    have c4:=hO.cell 4
    have f3:=hO.free 3
    have f4:=hO.free 4
    simp only [List.getElem?_toArray,List.getElem?_cons_succ,List.getElem?_cons_zero] at c3 c4
    have hQ0 : PrP T tb to' tc g ((w.setCell ⟨g,3,none⟩ (.int .i64 t.line)).setCell ⟨g,4,none⟩ (.int .i64 q)) o (.error (q,t.line)) :=
      ⟨_,p,hq,by have:=(hO.set 3 (.int .i64 t.line)).set 4 (.int .i64 q); simpa using this⟩
    have hQ:=Lib.hid (hQ0.alloc (.cells #[.int .i64 t.k,.string ⟨t.t.toArray⟩,.int .i64 t.n,.int .i64 t.line] 61))
    have hG:=Lib.hid (g_call (g_call (grown_setCell w g 3 (.int .i64 t.line)) (grown_setCell _ g 4 (.int .i64 q))) (World.grownBy_alloc _ (.cells #[.int .i64 t.k,.string ⟨t.t.toArray⟩,.int .i64 t.n,.int .i64 t.line] 61) (some g)))
    clear hQ0 h1
    clear hO hB
    go_enter Tryz.func45,Tryz.ntmps45
    go_wp2
    first | go_end0 | refine bodyPost_ret (results_none rfl _ _ _) rfl ?_
    exact ⟨rfl,hG.out,hQ.out⟩
set_option maxRecDepth 100000 in
set_option maxHeartbeats 4000000 in
theorem expect_any (hK : TokM M T tb to' tc) (g o : Nat) (w : World) (s : PS) (hM : Sub M (but g w)) (h : PrP T tb to' tc g w o s) (x : ByteArray) :
    Calls Tryz.prog 126 #[.pointer (some ⟨g,0,none⟩),.string x] w (Rd g (fun w s=>PrP T tb to' tc g w o s) w NoneIs (runS s (needS x.data.toList))):=by
  go_enter Tryz.func126,Tryz.ntmps126
  go_wp2_with fail
  refine (accept_any hK g o _ s hM h x).mono ?_
  rintro e w1 ⟨rfl,hg,hP⟩
  cases hx : isP x.data.toList s with
  | true =>
    have hQ:=Lib.hid (show Rd g (fun w s=>PrP T tb to' tc g w o s) w NoneIs (runS s (needS x.data.toList)) (.returned (.tuple #[])) w1 by
      cases s with
      | error e=>cases hx
      | ok ts =>
        cases ts with
        | nil=>cases hx
        | cons t r =>
          have e1 : needS x.data.toList (t :: r) = .ok ((),r):=by rw [needS]; exact if_pos hx
          rw [runS_ok,e1]
          refine Rd.ok hg ?_ rfl
          have h2 : pastP x.data.toList (.ok (t :: r)) = .ok r:=if_pos hx
          rw [← h2]
          exact hP)
    clear hP hg hx hM h
    go_wp2
    first | go_end0 | refine bodyPost_ret (results_none rfl _ _ _) rfl ?_
    exact hQ.out
  | false =>
    rw [pastP_no hx] at hP
    replace hP:=Lib.hid hP
    have hM1:=Lib.hid (sub_but_grown hM hg)
    replace hg:=Lib.hid hg
    have hx':=Lib.hid hx
    clear hM h hx
    go_wp2_with fail
    refine (peek_any hK g o _ s hM1.out hP.out).mono ?_
    rintro e w2 ⟨rfl,hb⟩
    have hP2:=Lib.hid (hP.out.below hb)
    have hg2:=Lib.hid (g_below hg.out hb)
    clear hb
    go_wp2_with fail
    refine (fail_any g o _ s hP2.out (headS s) 1 (by decide)).mono ?_
    rintro e w3 ⟨rfl,hg3,hP3⟩
    have hQ:=Lib.hid (show Rd g (fun w s=>PrP T tb to' tc g w o s) w NoneIs (runS s (needS x.data.toList)) (.returned (.tuple #[])) w3 by
      cases s with
      | error e=>exact Rd.err (g_call hg2.out hg3) hP3 () rfl
      | ok ts =>
        cases ts with
        | nil=>obtain ⟨p,hp,he,-⟩:=hP.out; have:=congrArg List.length he; rw [List.length_drop,List.length_nil] at this; omega
        | cons t r =>
          have e1 : needS x.data.toList (t :: r) = .error (1,t.line):=by rw [needS,if_neg (by rw [show isT x.data.toList t = false from hx'.out]; decide)]
          rw [runS_ok,e1]
          exact Rd.err (g_call hg2.out hg3) hP3 () rfl)
    clear hP3 hg3
    go_wp2
    first | go_end0 | refine bodyPost_ret (results_none rfl _ _ _) rfl ?_
    exact hQ.out
end
end Go.Proofs.YtfffpflflggonaaGreatDoor.src
namespace Go.Proofs.YtfffpflflggonaaGreatDoor.src
open lex value text
theorem bnd_inv {α β : Type} {x : R α} {f : α→List Tok→R β} {b : β} {r : List Tok} (h : bnd x f = .ok (b,r)) : ∃ a r1,x = .ok (a,r1)∧f a r1 = .ok (b,r):=by
  cases x with
  | error e=>cases h
  | ok v=>obtain ⟨a,r1⟩:=v; exact ⟨a,r1,rfl,h⟩
def Shr {α : Type} (f : List Tok→R α) : Prop:=∀ ts a r,f ts = .ok (a,r)→r.length < ts.length
theorem shr_take (k : Int) : Shr (takeS k):=fun ts a r h=>by
  cases ts with
  | nil=>cases h
  | cons t q =>
    rw [takeS] at h
    split at h
    · injection h with h; injection h with h1 h2; subst h2; simp
    · cases h
theorem shr_need (s : List UInt8) : Shr (needS s):=fun ts a r h=>by
  cases ts with
  | nil=>cases h
  | cons t q =>
    rw [needS] at h
    split at h
    · injection h with h; injection h with h1 h2; subst h2; simp
    · cases h
theorem shr_choice (l : List (List UInt8)) : Shr (choiceS l):=fun ts a r h=>by
  cases ts with
  | nil=>cases h
  | cons t q =>
    rw [choiceS] at h
    split at h
    · injection h with h; injection h with h1 h2; subst h2; simp
    · cases h
theorem shr_texts : ∀ n : Nat,∀ ts a r,ts.length≤n→textsS ts = .ok (a,r)→r.length < ts.length
  | 0,ts,a,r,hl,h=>by
    obtain rfl : ts = []:=List.eq_nil_of_length_eq_zero (by omega)
    rw [textsS] at h
    cases h
  | n + 1,[],a,r,_,h=>by rw [textsS] at h; cases h
  | n + 1,[t],a,r,_,h=>by
    rw [textsS] at h
    split at h
    · injection h with h; injection h with h1 h2; subst h2; simp
    · cases h
  | n + 1,t :: c :: q,a,r,hl,h=>by
    rw [textsS] at h
    split at h
    · split at h
      · obtain ⟨l,r1,h1,h2⟩:=bnd_inv h
        injection h2 with h2; injection h2 with h2 h3; subst h3
        have:=shr_texts n q l r1 (by simp at hl; omega) h1
        simp only [List.length_cons]
        omega
      · injection h with h; injection h with h1 h2; subst h2; simp
    · cases h
theorem shr_text : Shr textsS:=fun ts a r h=>shr_texts ts.length ts a r (Nat.le_refl _) h
theorem shr_value : Shr valueS:=fun ts a r h=>by
  cases ts with
  | nil=>cases h
  | cons t q =>
    have one : ∀ {v : VV},(.ok (v,q) : R VV) = .ok (a,r)→r.length < (t :: q).length:=fun h=>by
      injection h with h; injection h with h1 h2; subst h2; simp
    rw [valueS.eq_def] at h
    simp only at h
    split at h
    · exact one h
    split at h
    · exact one h
    split at h
    · exact one h
    split at h
    · exact one h
    split at h
    · exact one h
    split at h
    · split at h
      · cases h
      · split at h
        · obtain ⟨l,r1,h1,h2⟩:=bnd_inv h
          obtain ⟨u,r2,h3,h4⟩:=bnd_inv h2
          injection h4 with h4; injection h4 with h5 h6; subst h6
          have:=shr_text _ _ _ h1
          have:=shr_need _ _ _ _ h3
          simp only [List.length_cons] at *
          omega
        · obtain ⟨u,r2,h3,h4⟩:=bnd_inv h
          injection h4 with h4; injection h4 with h5 h6; subst h6
          have:=shr_need _ _ _ _ h3
          simp only [List.length_cons] at *
          omega
    · cases h
theorem shr_valuesF : ∀ f : Nat,Shr (valuesF f)
  | 0=>fun ts a r h=>by cases h
  | f + 1=>fun ts a r h=>by
    rw [valuesF] at h
    obtain ⟨v,r1,h1,h2⟩:=bnd_inv h
    have h3:=shr_value _ _ _ h1
    split at h2
    · injection h2 with h2; injection h2 with h4 h5; subst h5
      exact h3
    · split at h2
      · obtain ⟨l,r2,h4,h5⟩:=bnd_inv h2
        injection h5 with h5; injection h5 with h6 h7; subst h7
        have:=shr_valuesF f _ _ _ h4
        simp only [List.length_cons] at *
        omega
      · injection h2 with h2; injection h2 with h4 h5; subst h5
        exact h3
theorem shr_arg {i : Nat} {ts : List Tok} {a : List VV} {r : List Tok} (h : argS i ts = .ok (a,r)) : r.length≤ts.length:=by
  unfold argS at h
  split at h
  · injection h with h; injection h with h1 h2; subst h2; exact Nat.le_refl _
  split at h
  · obtain ⟨u,r1,h1,h2⟩:=bnd_inv h
    obtain ⟨l,r2,h3,h4⟩:=bnd_inv h2
    obtain ⟨u2,r3,h5,h6⟩:=bnd_inv h4
    injection h6 with h6; injection h6 with h7 h8; subst h8
    have:=shr_need _ _ _ _ h1
    have:=shr_valuesF _ _ _ _ h3
    have:=shr_need _ _ _ _ h5
    omega
  split at h
  · obtain ⟨t,r1,h1,h2⟩:=bnd_inv h
    injection h2 with h2; injection h2 with h3 h4; subst h4
    have:=shr_take _ _ _ _ h1
    omega
  · obtain ⟨t,r1,h1,h2⟩:=bnd_inv h
    injection h2 with h2; injection h2 with h3 h4; subst h4
    have:=shr_value _ _ _ h1
    omega
theorem shr_test : Shr testS:=fun ts a r h=>by
  cases ts with
  | nil=>cases h
  | cons t q =>
    rw [testS] at h
    split at h
    · injection h with h; injection h with h1 h2; subst h2; simp
    split at h
    · obtain ⟨n,r1,h1,h2⟩:=bnd_inv h
      injection h2 with h2; injection h2 with h3 h4; subst h4
      have:=shr_take _ _ _ _ h1
      simp only [List.length_cons]
      omega
    · obtain ⟨k,r1,h1,h⟩:=bnd_inv h
      obtain ⟨u,r2,h2,h⟩:=bnd_inv h
      obtain ⟨n,r3,h3,h⟩:=bnd_inv h
      obtain ⟨i,r4,h4,h⟩:=bnd_inv h
      obtain ⟨l,r5,h5,h⟩:=bnd_inv h
      injection h with h; injection h with h6 h7; subst h7
      have:=shr_take _ _ _ _ h1
      have:=shr_need _ _ _ _ h2
      have:=shr_take _ _ _ _ h3
      have:=shr_choice _ _ _ _ h4
      have:=shr_arg h5
      omega
theorem shr_loop {part : List Tok→R PE} (hp : Shr part) (op : Int) (word : List UInt8) : ∀ (f : Nat) (acc : List PE) (x : PE) (ts : List Tok) (a : PE) (r : List Tok),loopF part op word f acc x ts = .ok (a,r)→r.length≤ts.length
  | 0,acc,x,ts,a,r,h=>by cases h
  | f + 1,acc,x,ts,a,r,h=>by
    rw [loopF] at h
    split at h
    · obtain ⟨y,r1,h1,h2⟩:=bnd_inv h
      have:=hp _ _ _ h1
      have:=shr_loop hp op word f _ _ _ _ _ h2
      rw [List.length_tail] at *
      omega
    · injection h with h; injection h with h1 h2; subst h2; exact Nat.le_refl _
theorem shr_chain {part : List Tok→R PE} (hp : Shr part) (op : Int) (word : List UInt8) (f : Nat) : Shr (chainF part op word f):=fun ts a r h=>by
  unfold chainF at h
  obtain ⟨x,r1,h1,h2⟩:=bnd_inv h
  have:=hp _ _ _ h1
  split at h2
  · have:=shr_loop hp op word f _ _ _ _ _ h2
    omega
  · injection h2 with h2; injection h2 with h3 h4; subst h4; exact this
theorem shr_not : ∀ (f o : Nat),Shr (notF f o)
  | 0,o=>fun ts a r h=>by cases h
  | f + 1,o=>fun ts a r h=>by
    cases ts with
    | nil=>cases h
    | cons t q =>
      rw [notF] at h
      split at h
      · split at h
        · cases h
        · obtain ⟨x,r1,h1,h2⟩:=bnd_inv h
          injection h2 with h2; injection h2 with h3 h4; subst h4
          have:=shr_not f (o + 1) _ _ _ h1
          simp only [List.length_cons]
          omega
      split at h
      · split at h
        · cases h
        · obtain ⟨x,r1,h1,h2⟩:=bnd_inv h
          obtain ⟨u,r2,h3,h4⟩:=bnd_inv h2
          injection h4 with h4; injection h4 with h5 h6; subst h6
          have:=shr_chain (shr_chain (shr_not f (o + 1)) 2 sAnd f) 3 sOr f _ _ _ h1
          have:=shr_need _ _ _ _ h3
          simp only [List.length_cons]
          omega
      · exact shr_test _ _ _ h
def Kid (f : List Tok→R PE) : Prop:=∀ ts x r,f ts = .ok (x,r)→x.kids.length + r.length≤ts.length
theorem flat_len {op : Int} {x : PE} {ts r : List Tok} (h : x.kids.length + r.length≤ts.length) (h2 : r.length < ts.length) : (flatE op x).length + r.length≤ts.length:=by
  unfold flatE
  split
  · exact h
  · rw [List.length_singleton]; omega
theorem kid_test : Kid testS:=fun ts x r h=>by
  have hs:=shr_test _ _ _ h
  have hk : x.kids = []:=by
    cases ts with
    | nil=>cases h
    | cons t q =>
      rw [testS] at h
      split at h
      · injection h with h; injection h with h1 h2; subst h1; rfl
      split at h
      · obtain ⟨n,r1,h1,h2⟩:=bnd_inv h
        injection h2 with h2; injection h2 with h3 h4; subst h3; rfl
      · obtain ⟨k,r1,h1,h⟩:=bnd_inv h
        obtain ⟨u,r2,h2,h⟩:=bnd_inv h
        obtain ⟨n,r3,h3,h⟩:=bnd_inv h
        obtain ⟨i,r4,h4,h⟩:=bnd_inv h
        obtain ⟨l,r5,h5,h⟩:=bnd_inv h
        injection h with h; injection h with h6 h7; subst h6; rfl
  rw [hk,List.length_nil]
  omega
theorem kid_loop {part : List Tok→R PE} (hp : Shr part) (hk : Kid part) (op : Int) (word : List UInt8) : ∀ (f : Nat) (acc : List PE) (x : PE) (ts : List Tok) (a : PE) (r : List Tok),loopF part op word f acc x ts = .ok (a,r)→a.kids.length + r.length≤acc.length + (flatE op x).length + ts.length
  | 0,acc,x,ts,a,r,h=>by cases h
  | f + 1,acc,x,ts,a,r,h=>by
    rw [loopF] at h
    split at h
    · obtain ⟨y,r1,h1,h2⟩:=bnd_inv h
      have h3:=hp _ _ _ h1
      have h4:=flat_len (op:=op) (hk _ _ _ h1) h3
      have h5:=kid_loop hp hk op word f _ _ _ _ _ h2
      rw [List.length_append] at h5
      rw [List.length_tail] at *
      omega
    · injection h with h; injection h with h1 h2; subst h1; subst h2
      show (acc ++ flatE op x).length + _≤_
      rw [List.length_append]
      omega
theorem kid_chain {part : List Tok→R PE} (hp : Shr part) (hk : Kid part) (op : Int) (word : List UInt8) (f : Nat) : Kid (chainF part op word f):=fun ts a r h=>by
  unfold chainF at h
  obtain ⟨x,r1,h1,h2⟩:=bnd_inv h
  have h3:=hk _ _ _ h1
  split at h2
  · have h4:=kid_loop hp hk op word f _ _ _ _ _ h2
    have h5:=flat_len (op:=op) h3 (hp _ _ _ h1)
    rw [List.length_nil] at h4
    omega
  · injection h2 with h2; injection h2 with h4 h5; subst h4; subst h5; exact h3
theorem kid_not : ∀ (f o : Nat),Kid (notF f o)
  | 0,o=>fun ts a r h=>by cases h
  | f + 1,o=>fun ts a r h=>by
    have hs:=shr_not (f + 1) o _ _ _ h
    cases ts with
    | nil=>cases h
    | cons t q =>
      rw [notF] at h
      split at h
      · split at h
        · cases h
        · obtain ⟨x,r1,h1,h2⟩:=bnd_inv h
          injection h2 with h2; injection h2 with h3 h4; subst h3
          show 1 + r.length≤_
          omega
      split at h
      · split at h
        · cases h
        · obtain ⟨x,r1,h1,h2⟩:=bnd_inv h
          obtain ⟨u,r2,h3,h4⟩:=bnd_inv h2
          injection h4 with h4; injection h4 with h5 h6; subst h5; subst h6
          have hn:=shr_not f (o + 1)
          have h7:=kid_chain (shr_chain hn 2 sAnd f) (kid_chain hn (kid_not f (o + 1)) 2 sAnd f) 3 sOr f _ _ _ h1
          have h8:=shr_need _ _ _ _ h3
          simp only [List.length_cons] at *
          omega
      · exact kid_test _ _ _ h
def contT (L : List (List UInt8)) (ts : List Tok) : R (List (List UInt8)) :=
  if isN sComma ts then bnd (textsS ts.tail) fun l r=>.ok (L ++ l,r) else .ok (L,ts)
theorem bnd_bnd {α β γ : Type} (x : R α) (f : α→List Tok→R β) (g : β→List Tok→R γ) : bnd (bnd x f) g = bnd x fun a r=>bnd (f a r) g:=by
  cases x with
  | error e=>rfl
  | ok v=>rfl
theorem texts_cont (ts : List Tok) : textsS ts = bnd (takeS 3 ts) fun t r=>contT [t.t] r:=by
  match ts with
  | []=>rw [textsS]; rfl
  | [t] =>
    rw [textsS,takeS]
    split <;> rfl
  | t :: c :: r =>
    rw [textsS,takeS]
    split
    · rw [bnd_ok]
      unfold contT
      rw [show isN sComma (c :: r) = isT sComma c from rfl]
      split
      · rfl
      · rfl
    · rfl
theorem contT_step (L : List (List UInt8)) (ts : List Tok) (h : isN sComma ts = true) : contT L ts = bnd (takeS 3 ts.tail) fun t r=>contT (L ++ [t.t]) r:=by
  unfold contT
  rw [if_pos h,texts_cont,bnd_bnd]
  congr 1
  funext t r
  unfold contT
  split
  · rw [bnd_bnd]
    congr 1
    funext l q
    rw [bnd_ok,List.append_assoc]
  · rw [bnd_ok]
theorem contT_end (L : List (List UInt8)) (ts : List Tok) (h : isN sComma ts = false) : contT L ts = .ok (L,ts):=by
  unfold contT; rw [h]; rfl
def contV (f : Nat) (L : List VV) (ts : List Tok) : R (List VV) :=
  if isN sComma ts then bnd (valuesF f ts.tail) fun l r=>.ok (L ++ l,r) else .ok (L,ts)
theorem values_cont (f : Nat) (ts : List Tok) : valuesF (f + 1) ts = bnd (valueS ts) fun v r=>contV f [v] r:=by
  rw [valuesF]
  congr 1
  funext v r
  cases r with
  | nil=>rfl
  | cons c q =>
    unfold contV
    rw [show isN sComma (c :: q) = isT sComma c from rfl]
    simp only [List.tail_cons]
    split <;> rfl
theorem contV_step (f : Nat) (L : List VV) (ts : List Tok) (h : isN sComma ts = true) : contV (f + 1) L ts = bnd (valueS ts.tail) fun v r=>contV f (L ++ [v]) r:=by
  unfold contV
  rw [if_pos h,values_cont,bnd_bnd]
  congr 1
  funext v r
  unfold contV
  split
  · rw [bnd_bnd]
    congr 1
    funext l q
    rw [bnd_ok,List.append_assoc]
  · rw [bnd_ok]
theorem contV_end (f : Nat) (L : List VV) (ts : List Tok) (h : isN sComma ts = false) : contV f L ts = .ok (L,ts):=by
  unfold contV; rw [h]; rfl
end Go.Proofs.YtfffpflflggonaaGreatDoor.src
namespace Go.Proofs.YtfffpflflggonaaGreatDoor.src
open Go.RowKit lex value text schema draw clause
section
variable {M : Mem} {T : List Tok} {tb to' tc : Nat}
set_option maxRecDepth 100000 in
set_option maxHeartbeats 4000000 in
theorem take_any (hK : TokM M T tb to' tc) (g o : Nat) (w : World) (s : PS) (hM : Sub M (but g w)) (h : PrP T tb to' tc g w o s) (k : Int) (k1 : 1≤k) (k5 : k≤5) :
    Calls Tryz.prog 21 #[.pointer (some ⟨g,0,none⟩),.int .i64 k] w (Rd g (fun w s=>PrP T tb to' tc g w o s) w TokIs (runS s (takeS k))):=by
  have hz:=Lib.hid (Own.new w #[.int .i64 0,.string ⟨#[]⟩,.int .i64 0,.int .i64 0] 61)
  have h0:=Lib.hid (h.alloc (.cells #[.int .i64 0,.string ⟨#[]⟩,.int .i64 0,.int .i64 0] 61))
  have hg0:=Lib.hid (World.grownBy_alloc w (.cells #[.int .i64 0,.string ⟨#[]⟩,.int .i64 0,.int .i64 0] 61) (some g))
  have hM0:=Lib.hid (sub_but_grown hM hg0.out)
  have hgl:=h.lt
  have hne : ∀ ts,s = .ok ts→ts ≠ []:=fun ts e=>by subst e; exact h.ne
  replace hne:=Lib.hid hne
  clear h hM
  go_enter Tryz.func21,Tryz.ntmps21
  go_wp2_with fail
  generalize w.alloc (.cells #[.int .i64 0,.string ⟨#[]⟩,.int .i64 0,.int .i64 0] 61) = w0 at hz h0 hg0 hM0 ⊢
  obtain ⟨gz,hgz⟩ : ∃ z : Nat,Hid (z = w.heap.size):=⟨_,Lib.hid rfl⟩
  rw [← hgz.out] at hz ⊢
  have hwz : w.heap.size≤gz:=Nat.le_of_eq hgz.out.symm
  refine (peek_any hK g o _ s hM0.out h0.out).mono ?_
  rintro e w1 ⟨rfl,hb⟩
  rw [row_arr]
  obtain ⟨t,ht⟩ : ∃ t,Hid (t = headS s):=⟨_,Lib.hid rfl⟩
  rw [← ht.out]
  have hba : Below w0.heap.size w0 (w1.alloc (.cells #[.int .i64 t.k,.string ⟨t.t.toArray⟩,.int .i64 t.n,.int .i64 t.line] 61)):=hb.alloc hb.size _
  have h2:=Lib.hid (h0.out.below hba)
  have hz2:=Lib.hid (hz.out.below hba hz.out.lt)
  have ht2:=Lib.hid (Own.new w1 #[.int .i64 t.k,.string ⟨t.t.toArray⟩,.int .i64 t.n,.int .i64 t.line] 61)
  have hg2:=Lib.hid (g_below hg0.out hba)
  have hzl : gz < w1.heap.size:=Nat.lt_of_lt_of_le hz.out.lt hb.size
  clear hba hb h0 hz hM0 hg0
  by_cases hk : t.k = k
  case neg =>
    have hkf : (t.k == k) = false:=by simpa using hk
    have hE:=Lib.hid (show ∀ (u : World),w.grownBy u (some g)→PrP T tb to' tc g u o (failP s t 1)→Rd g (fun w s=>PrP T tb to' tc g w o s) w TokIs (runS s (takeS k)) (.returned (.agg #[.int .i64 0,.string ⟨#[]⟩,.int .i64 0,.int .i64 0])) u from fun u h1 h2=>by
      cases s with
      | error e=>exact Rd.err h1 h2 zeroT ⟨rfl,by decide⟩
      | ok ts =>
        cases ts with
        | nil=>exact absurd rfl (hne.out _ rfl)
        | cons u' r =>
          have e : t = u':=ht.out
          subst e
          rw [runS_ok,takeS,if_neg hk]
          exact Rd.err h1 h2 zeroT ⟨rfl,by decide⟩)
    have hkn : (t.k != k) = true:=by simpa using hk
    clear hk
    have q0:=ht2.out.cell 0
    simp only [List.getElem?_toArray,List.getElem?_cons_zero] at q0
    go_upto_region 3 with fail
    obtain ⟨t0,t1,t2,t3,-⟩:=own4z ht2.out
    clear q0
    go_wp2_with fail
    generalize w1.alloc (.cells #[.int .i64 t.k,.string ⟨t.t.toArray⟩,.int .i64 t.n,.int .i64 t.line] 61) = w2 at h2 hz2 ht2 hg2 ⊢
    rw [← row_arr]
    refine (fail_any g o _ s h2.out t 1 (by decide)).mono ?_
    rintro e w3 ⟨rfl,hg,hP⟩
    have hz3:=hz2.out.kept hg (by simp; omega)
    obtain ⟨z0,z1,z2,z3,f0,f1,f2,f3⟩:=own4z hz3
    have hgz3:=hz3.lt
    have hRB:=Lib.hid (((((RdB.mk' (B:=gz) (St:=fun w s=>PrP T tb to' tc g w o s) (g_call hg2.out hg) hP hgl hwz).set (q:=gz) (i:=0) (Nat.le_refl _) (.int .i64 0)).set (q:=gz) (i:=1) (Nat.le_refl _) (.string ⟨#[]⟩)).set (q:=gz) (i:=2) (Nat.le_refl _) (.int .i64 0)).set (q:=gz) (i:=3) (Nat.le_refl _) (.int .i64 0))
    clear hg hP hz3
    go_wp2
    refine bodyPost_ret (v:=.agg #[.int .i64 0,.string ⟨#[]⟩,.int .i64 0,.int .i64 0]) (by simp [results,Tryz.results21,go_sem, *]) rfl ?_
    exact hE.out _ hRB.out.grown hRB.out.st
  case pos =>
    cases s with
    | error e =>
      exfalso
      have e1 : t = zeroT:=ht.out
      rw [e1] at hk
      have : zeroT.k = 0:=rfl
      omega
    | ok ts =>
      obtain ⟨p,hp,rfl,hO⟩:=h2.out
      have e1 : t = T[p]:=by have:=ht.out; rw [drop_at hp] at this; exact this
      have hp1 : p + 1 < T.length:=by
        rcases hK.ok _ hp with h1 | h1
        · exact h1.1
        · exfalso; rw [← e1,hk] at h1; omega
      have hft : t.t.length≤30000:=by
        rcases hK.ok _ hp with h1 | h1
        · rw [e1]; exact h1.2.few
        · exfalso; rw [← e1,hk] at h1; omega
      have hkf : (t.k != k) = false:=by simpa using hk
      have hE:=Lib.hid (show ∀ (u : World),w.grownBy u (some g)→PrP T tb to' tc g u o (.ok (T.drop (p + 1)))→Rd g (fun w s=>PrP T tb to' tc g w o s) w TokIs (runS (.ok (T.drop p)) (takeS k)) (.returned (.agg #[.int .i64 t.k,.string ⟨t.t.toArray⟩,.int .i64 t.n,.int .i64 t.line])) u from fun u h1 h2=>by
        rw [runS_ok,drop_at hp,takeS,if_pos (by rw [← e1]; exact hk),← e1]
        exact Rd.ok h1 h2 ⟨rfl,hft⟩)
      replace hk:=Lib.hid hk
      replace e1:=Lib.hid e1
      have q0:=ht2.out.cell 0
      simp only [List.getElem?_toArray,List.getElem?_cons_zero] at q0
      go_upto_region 5 with fail
      clear q0
      have hw : IntKind.i64.wrap ((p : Int) + 1) = (p : Int) + 1:=by have:=hK.few; rw [IntKind.wrap_i64]; omega
      generalize w1.alloc (.cells #[.int .i64 t.k,.string ⟨t.t.toArray⟩,.int .i64 t.n,.int .i64 t.line] 61) = w2 at hO h2 hz2 ht2 hg2 ⊢
      have c1:=hO.cell 1
      have f1:=hO.free 1
      have hl:=hO.lt
      simp only [List.getElem?_toArray,List.getElem?_cons_succ,List.getElem?_cons_zero] at c1
      have hgz' : g ≠ gz:=by omega
      have hgt' : g ≠ w1.heap.size:=by omega
      have hP3 : PrP T tb to' tc g (w2.setCell ⟨g,1,none⟩ (.int .i64 ((p : Int) + 1))) o (.ok (T.drop (p + 1))):=⟨p + 1,hp1,rfl,by have:=hO.set 1 (.int .i64 ((p : Int) + 1)); simpa using this⟩
      have hz3:=Lib.hid (hz2.out.setOther (p:=⟨g,1,none⟩) (by simpa using hgz'.symm) (.int .i64 ((p : Int) + 1)))
      have ht3:=Lib.hid (ht2.out.setOther (p:=⟨g,1,none⟩) (by simpa using hgt'.symm) (.int .i64 ((p : Int) + 1)))
      have hRB:=Lib.hid (RdB.mk' (B:=gz) (St:=fun w s=>PrP T tb to' tc g w o s) (g_call hg2.out (grown_setCell w2 g 1 (.int .i64 ((p : Int) + 1)))) hP3 hgl hwz)
      clear hP3 hO h2
      go_upto_region 6 with fail
      generalize w2.setCell ⟨g,1,none⟩ (.int .i64 ((p : Int) + 1)) = w3 at hz3 ht3 hRB ⊢
      obtain ⟨z0,z1,z2,z3,f0,f1,f2,f3⟩:=own4z hz3.out
      obtain ⟨t0,t1,t2,t3,-⟩:=own4z ht3.out
      have hgz3:=hz3.out.lt
      have hRB2:=Lib.hid ((((hRB.out.set (q:=gz) (i:=0) (Nat.le_refl _) (.int .i64 t.k)).set (q:=gz) (i:=1) (Nat.le_refl _) (.string ⟨t.t.toArray⟩)).set (q:=gz) (i:=2) (Nat.le_refl _) (.int .i64 t.n)).set (q:=gz) (i:=3) (Nat.le_refl _) (.int .i64 t.line))
      go_wp2
      refine bodyPost_ret (v:=.agg #[.int .i64 t.k,.string ⟨t.t.toArray⟩,.int .i64 t.n,.int .i64 t.line]) (by simp [results,Tryz.results21,go_sem, *]) rfl ?_
      exact hE.out _ hRB2.out.grown hRB2.out.st
set_option maxRecDepth 100000 in
theorem field_tok0 (k n L : Int) (x : ByteArray) (W : World) : (Instr.field 61 (.agg #[.int .i64 k,.string x,.int .i64 n,.int .i64 L]) 0).run Tryz.prog W = .ok (.int .i64 k) W:=by
  simp [Instr.field,run_underlying Tryz.underlying61]
  rfl
set_option maxRecDepth 100000 in
theorem field_tok1 (k n L : Int) (x : ByteArray) (W : World) : (Instr.field 61 (.agg #[.int .i64 k,.string x,.int .i64 n,.int .i64 L]) 1).run Tryz.prog W = .ok (.string x) W:=by
  simp [Instr.field,run_underlying Tryz.underlying61]
  rfl
set_option maxRecDepth 100000 in
theorem field_tok2 (k n L : Int) (x : ByteArray) (W : World) : (Instr.field 61 (.agg #[.int .i64 k,.string x,.int .i64 n,.int .i64 L]) 2).run Tryz.prog W = .ok (.int .i64 n) W:=by
  simp [Instr.field,run_underlying Tryz.underlying61]
  rfl
theorem Rd.turn {α : Type} {g : Nat} {St : World→PS→Prop} {w : World} {P Q : α→Ending→World→Prop} {r : R α} {e e' : Ending} {w' : World} (h : Rd g St w P r e w') (hpq : ∀ a,P a e w'→Q a e' w') : Rd g St w Q r e' w':=by
  obtain ⟨h1,h2,h3⟩:=h
  refine ⟨h1,h2,?_⟩
  cases r with
  | error q=>obtain ⟨a,h3⟩:=h3; exact ⟨a,hpq a h3⟩
  | ok v=>exact hpq _ h3
theorem Rd.tok {g : Nat} {St : World→PS→Prop} {w : World} {r : R Tok} {e : Ending} {w' : World} (h : Rd g St w TokIs r e w') : ∃ t : Tok,e = .returned (.agg #[.int .i64 t.k,.string ⟨t.t.toArray⟩,.int .i64 t.n,.int .i64 t.line])∧t.t.length≤30000:=by
  obtain ⟨h1,h2,h3⟩:=h
  cases r with
  | error q=>obtain ⟨a,h3⟩:=h3; exact ⟨a,h3⟩
  | ok v=>exact ⟨_,h3⟩
theorem tok_inj {t u : Tok} (h : (Ending.returned (.agg #[.int .i64 t.k,.string ⟨t.t.toArray⟩,.int .i64 t.n,.int .i64 t.line]) : Ending) = .returned (.agg u.row.toArray)) : t = u:=by
  rw [row_arr] at h
  simp only [Ending.returned.injEq,Value.agg.injEq,Array.mk.injEq,List.cons.injEq,Value.int.injEq,Value.string.injEq,ByteArray.mk.injEq,true_and,and_true] at h
  obtain ⟨h1,h2,h3,h4⟩:=h
  cases t; cases u
  simp_all
theorem Rd.tok2 {g : Nat} {St : World→PS→Prop} {w : World} {r : R Tok} {e : Ending} {w' : World} (h : Rd g St w TokIs r e w') : ∃ t : Tok,e = .returned (.agg #[.int .i64 t.k,.string ⟨t.t.toArray⟩,.int .i64 t.n,.int .i64 t.line])∧t.t.length≤30000∧∀ a q,r = .ok (a,q)→t = a:=by
  obtain ⟨h1,h2,h3⟩:=h
  cases r with
  | error q=>obtain ⟨a,h3⟩:=h3; exact ⟨a,h3.1,h3.2,fun a q e=>by cases e⟩
  | ok v=>exact ⟨v.1,h3.1,h3.2,fun a q e=>by injection e with e; rw [e]⟩
set_option maxRecDepth 100000 in
set_option maxHeartbeats 2000000 in
theorem word_any (hK : TokM M T tb to' tc) (g o : Nat) (w : World) (s : PS) (hM : Sub M (but g w)) (h : PrP T tb to' tc g w o s) :
    Calls Tryz.prog 128 #[.pointer (some ⟨g,0,none⟩)] w (Rd g (fun w s=>PrP T tb to' tc g w o s) w StrIs (runS s (takeS 1))):=by
  go_enter Tryz.func128,Tryz.ntmps128
  go_wp2_with fail
  refine (take_any hK g o _ s hM h 1 (by decide) (by decide)).mono ?_
  rintro e w1 hr
  obtain ⟨t,rfl,-⟩:=hr.tok
  have hQ:=Lib.hid (hr.turn (Q:=StrIs) (e':=.returned (.string ⟨t.t.toArray⟩)) fun a ha=>by rw [tok_inj ha.1]; exact ⟨rfl,ha.2⟩)
  have hfd:=field_tok1 t.k t.n t.line ⟨t.t.toArray⟩
  clear hr
  go_wp2
  go_ret
  exact hQ.out
set_option maxRecDepth 100000 in
set_option maxHeartbeats 2000000 in
theorem text_any (hK : TokM M T tb to' tc) (g o : Nat) (w : World) (s : PS) (hM : Sub M (but g w)) (h : PrP T tb to' tc g w o s) :
    Calls Tryz.prog 127 #[.pointer (some ⟨g,0,none⟩)] w (Rd g (fun w s=>PrP T tb to' tc g w o s) w StrIs (runS s (takeS 3))):=by
  go_enter Tryz.func127,Tryz.ntmps127
  go_wp2_with fail
  refine (take_any hK g o _ s hM h 3 (by decide) (by decide)).mono ?_
  rintro e w1 hr
  obtain ⟨t,rfl,-⟩:=hr.tok
  have hQ:=Lib.hid (hr.turn (Q:=StrIs) (e':=.returned (.string ⟨t.t.toArray⟩)) fun a ha=>by rw [tok_inj ha.1]; exact ⟨rfl,ha.2⟩)
  have hfd:=field_tok1 t.k t.n t.line ⟨t.t.toArray⟩
  clear hr
  go_wp2
  go_ret
  exact hQ.out
set_option maxRecDepth 100000 in
set_option maxHeartbeats 2000000 in
theorem number_any (hK : TokM M T tb to' tc) (g o : Nat) (w : World) (s : PS) (hM : Sub M (but g w)) (h : PrP T tb to' tc g w o s) :
    Calls Tryz.prog 129 #[.pointer (some ⟨g,0,none⟩)] w (Rd g (fun w s=>PrP T tb to' tc g w o s) w NumIs (runS s (takeS 2))):=by
  go_enter Tryz.func129,Tryz.ntmps129
  go_wp2_with fail
  refine (take_any hK g o _ s hM h 2 (by decide) (by decide)).mono ?_
  rintro e w1 hr
  obtain ⟨t,rfl,-⟩:=hr.tok
  have hQ:=Lib.hid (hr.turn (Q:=NumIs) (e':=.returned (.int .i64 t.n)) fun a ha=>by rw [tok_inj ha.1]; rfl)
  have hfd:=field_tok2 t.k t.n t.line ⟨t.t.toArray⟩
  clear hr
  go_wp2
  go_ret
  exact hQ.out
def WordsAt (w : World) (lb : Nat) (ls : List ByteArray) : Prop:=∀ (i : Nat) (h : i < ls.length),w.cell? ⟨lb,i,none⟩ = some (.string ls[i])
theorem placeS_drop {l : List (List UInt8)} {t : Tok} {k : Nat} (h : k < l.length) : placeS (l.drop k) k t = if isT l[k] t then some k else placeS (l.drop (k + 1)) (k + 1) t:=by
  rw [List.drop_eq_getElem_cons h,placeS]
theorem placeS_end {l : List (List UInt8)} {t : Tok} {k : Nat} (h : ¬ k < l.length) : placeS (l.drop k) k t = none:=by
  rw [List.drop_eq_nil_of_le (by omega)]; rfl
def PlAt (ls : List ByteArray) (s : PS) (k : Nat) : Prop:=placeS ((lsL ls).drop k) k (headS s) = placeS (lsL ls) 0 (headS s)
def IdxIs (i : Nat) (e : Ending) (_w : World) : Prop:=e = .returned (.int .i64 i)∧i≤1000
set_option maxRecDepth 100000 in
set_option maxHeartbeats 4000000 in
theorem choice_any (hK : TokM M T tb to' tc) (g o : Nat) (w : World) (s : PS) (hM : Sub M (but g w)) (h : PrP T tb to' tc g w o s) (lb c : Nat) (ls : List ByteArray) (hL : WordsAt w lb ls) (hlb : lb ≠ g) (hn : ls.length≤1000) :
    Calls Tryz.prog 66 #[.pointer (some ⟨g,0,none⟩),.slice (some ⟨lb,0,none⟩) ls.length c] w (Rd g (fun w s=>PrP T tb to' tc g w o s) w IdxIs (runS s (choiceS (lsL ls)))):=by
  have hne : Hid (∀ ts,s = .ok ts→ts ≠ []):=Lib.hid fun ts e=>by subst e; exact h.ne
  replace hL:=Lib.hid hL
  replace hM:=Lib.hid hM
  have h0:=Lib.hid h
  clear h
  go_enter Tryz.func66,Tryz.ntmps66
  go_wp2
  go_loopw [9] (fun s9 wr=>∃ k : Nat,k≤ls.length∧s9 = .int .i64 k∧Hid (w.grownBy wr (some g))∧Hid (PrP T tb to' tc g wr o s)∧Hid (PlAt ls s k)) (fun s9 _=>ls.length - (intOf s9).toNat)
  case atStart=>exact ⟨0,by omega,rfl,Lib.hid (grown_refl _ _),h0,Lib.hid rfl⟩
  case round =>
    obtain ⟨k,hk,rfl,hg,hP,hT⟩:=hrel
    by_cases hlt : k < ls.length
    case neg =>
      have hE:=Lib.hid (show placeS (lsL ls) 0 (headS s) = none by rw [← hT.out]; exact placeS_end (by simpa [lsL] using hlt))
      go_wp2_with fail
      refine (peek_any hK g o _ s (sub_but_grown hM.out hg.out) hP.out).mono ?_
      rintro e w2 ⟨rfl,hb⟩
      have hP2:=Lib.hid (hP.out.below hb)
      have hg2:=Lib.hid (g_below hg.out hb)
      clear hb
      go_wp2_with fail
      refine (fail_any g o _ s hP2.out (headS s) 1 (by decide)).mono ?_
      rintro e w3 ⟨rfl,hg3,hP3⟩
      have hQ:=Lib.hid (show Rd g (fun w s=>PrP T tb to' tc g w o s) w IdxIs (runS s (choiceS (lsL ls))) (.returned (.int .i64 ((0 : Nat) : Int))) w3 by
        cases s with
        | error e=>exact Rd.err (g_call hg2.out hg3) hP3 0 ⟨rfl,by omega⟩
        | ok ts =>
          cases ts with
          | nil=>exact absurd rfl (hne.out _ rfl)
          | cons t r =>
            have e1 : choiceS (lsL ls) (t :: r) = .error (1,t.line):=by
              rw [choiceS,show placeS (lsL ls) 0 t = none from hE.out]
            rw [runS_ok,e1]
            exact Rd.err (g_call hg2.out hg3) hP3 0 ⟨rfl,by omega⟩)
      clear hP3 hg3
      go_wp2
      go_ret
      exact hQ.out
    have c0:=hg.out.cell (hL.out k hlt) (fun e=>hlb (Option.some.inj e))
    have hlk : k < (lsL ls).length:=by simpa [lsL] using hlt
    have hd:=placeS_drop (t:=headS s) hlk
    have n0 : (0 : Int)≤(k : Int):=by omega
    have n1 : (k : Int) < (ls.length : Int):=by omega
    have ex : (lsL ls)[k] = ls[k].data.toList:=by simp [lsL]
    rw [ex] at hd
    replace hd:=Lib.hid hd
    generalize ls[k] = x at c0 hd
    go_wp2_with fail
    refine (accept_any hK g o _ s (sub_but_grown hM.out hg.out) hP.out x).mono ?_
    rintro e w2 ⟨rfl,hg2,hP2⟩
    cases hx : isP x.data.toList s with
    | true =>
      have hQ:=Lib.hid (show Rd g (fun w s=>PrP T tb to' tc g w o s) w IdxIs (runS s (choiceS (lsL ls))) (.returned (.int .i64 ((k : Nat) : Int))) w2 by
        cases s with
        | error e=>cases hx
        | ok ts =>
          cases ts with
          | nil=>cases hx
          | cons t r =>
            have e1 : choiceS (lsL ls) (t :: r) = .ok (k,r):=by
              have h1:=hT.out
              unfold PlAt at h1
              rw [hd.out,if_pos (show isT x.data.toList (headS (.ok (t :: r))) = true from hx)] at h1
              rw [choiceS,show placeS (lsL ls) 0 t = some k from h1.symm]
            rw [runS_ok,e1]
            refine Rd.ok (g_call hg.out hg2) ?_ ⟨rfl,by omega⟩
            have h2 : pastP x.data.toList (.ok (t :: r)) = .ok r:=if_pos hx
            rw [← h2]
            exact hP2)
      clear hP2 hg2 hx
      go_wp2
      go_ret
      exact hQ.out
    | false =>
      have hP3:=Lib.hid (show PrP T tb to' tc g w2 o s by rw [← pastP_no hx]; exact hP2)
      have hg3:=Lib.hid (g_call hg.out hg2)
      have hT3:=Lib.hid (show PlAt ls s (k + 1) by
        have h1:=hT.out
        unfold PlAt at h1 ⊢
        rw [hd.out,if_neg (by rw [← isP_head,hx]; decide)] at h1
        exact h1)
      clear hP2 hg2 hx
      go_wp2
      go_roundw
      case rel=>exact ⟨k + 1,by omega,by go_num,hg3,hP3,hT3⟩
      case measure=>simp [intOf]; omega
end
end Go.Proofs.YtfffpflflggonaaGreatDoor.src
