/- The program's parser: a test. -/
import Derived.Test.YtfffpflflggonaaGreatDoorKS17
namespace Go.Proofs.YtfffpflflggonaaGreatDoor.src
open Go.RowKit lex value text schema draw clause
theorem own5z {w : World} {n : Nat} {x0 x1 x2 x3 x4 : Value} {t : TypeId} (h : Own w n #[x0,x1,x2,x3,x4] t) :
    w.cell? ⟨n,0,none⟩ = some x0∧w.cell? ⟨n,1,none⟩ = some x1∧w.cell? ⟨n,2,none⟩ = some x2∧w.cell? ⟨n,3,none⟩ = some x3∧w.cell? ⟨n,4,none⟩ = some x4 ∧
    w.frozen? ⟨n,0,none⟩ = false∧w.frozen? ⟨n,1,none⟩ = false∧w.frozen? ⟨n,2,none⟩ = false∧w.frozen? ⟨n,3,none⟩ = false∧w.frozen? ⟨n,4,none⟩ = false :=
  ⟨h.cell 0,h.cell 1,h.cell 2,h.cell 3,h.cell 4,h.free 0,h.free 1,h.free 2,h.free 3,h.free 4⟩
theorem ex_flat (M : Mem) (op : Int) (kd nm : ByteArray) : ExAt M (.mk op kd.data.toList nm.data.toList [] []) [.int .i64 op,.string kd,.string nm,.slice none 0 0,.slice none 0 0] :=
  ExAt.make (vals:=[]) (xs:=[]) (rows:=[]) (rows_nil _ _) (fun _ hv=>(List.not_mem_nil hv).elim) (rows_nil _ _) (KidsAt.nil _)
theorem ex_vals {M : Mem} (op : Int) (kd nm : ByteArray) {vals : List VD} {vs : Value} (hv : RowsAt M 4 vs (vals.map VD.row)) (hL : ∀ v∈vals,LAt M v) : ExAt M (.mk op kd.data.toList nm.data.toList (vals.map vv) []) [.int .i64 op,.string kd,.string nm,vs,.slice none 0 0] :=
  ExAt.make (xs:=[]) (rows:=[]) hv hL (rows_nil _ _) (KidsAt.nil _)
theorem run_step {α β : Type} {f : List Tok→R α} {K : α→List Tok→R β} {s : PS} (a : α) (ha : ∀ b q,runS s f = .ok (b,q)→K b q = K a q) : runS s (fun ts=>bnd (f ts) K) = runS (aft (runS s f)) (K a):=by
  cases s with
  | error e=>rfl
  | ok ts =>
    show bnd (f ts) K = runS (aft (f ts)) (K a)
    have ha' : ∀ b q,f ts = .ok (b,q)→K b q = K a q:=ha
    cases h : f ts with
    | error e=>rfl
    | ok v=>exact ha' v.1 v.2 (by rw [h])
def testF4 (k n : List UInt8) (i : Nat) (r4 : List Tok) : R PE:=bnd (argS i r4) fun l r5=>.ok (.mk (6 + i) k n l [],r5)
def testF3 (k n : List UInt8) (r3 : List Tok) : R PE:=bnd (choiceS tests10 r3) fun i r4=>testF4 k n i r4
def testF2 (k : List UInt8) (r2 : List Tok) : R PE:=bnd (takeS 1 r2) fun n r3=>testF3 k n.t r3
def testF1 (k : List UInt8) (r1 : List Tok) : R PE:=bnd (needS sDot r1) fun _ r2=>testF2 k r2
def testF0 (ts : List Tok) : R PE:=bnd (takeS 1 ts) fun k r1=>testF1 k.t r1
theorem testS_true {t : Tok} {r : List Tok} (h : isT sTrue t = true) : testS (t :: r) = .ok (.mk 1 [] [] [] [],r):=by rw [testS.eq_def]; simp only; rw [if_pos h]
theorem testS_member {t : Tok} {r : List Tok} (h : isT sTrue t = false) (h2 : isT sMember t = true) : testS (t :: r) = bnd (takeS 1 r) fun n r'=>.ok (.mk 5 [] n.t [] [],r'):=by rw [testS.eq_def]; simp only; rw [if_neg (by rw [h]; decide),if_pos h2]
theorem testS_else {s : PS} (hne : ∀ ts,s = .ok ts→ts ≠ []) (h : isP sTrue s = false) (h2 : isP sMember s = false) : runS s testS = runS s testF0:=by
  cases s with
  | error e=>rfl
  | ok ts =>
    cases ts with
    | nil=>exact absurd rfl (hne _ rfl)
    | cons t r =>
      show testS (t :: r) = testF0 (t :: r)
      rw [testS.eq_def]
      simp only
      rw [if_neg (by rw [show isT sTrue t = false from h]; decide),if_neg (by rw [show isT sMember t = false from h2]; decide)]
      rfl
theorem Rd.idx {g : Nat} {St : World→PS→Prop} {w : World} {r : R Nat} {e : Ending} {w' : World} (h : Rd g St w IdxIs r e w') : ∃ i : Nat,e = .returned (.int .i64 i)∧i≤1000∧∀ j q,r = .ok (j,q)→i = j:=by
  obtain ⟨h1,h2,h3⟩:=h
  cases r with
  | error q=>obtain ⟨i,h4,h5⟩:=h3; exact ⟨i,h4,h5,fun j q e=>by cases e⟩
  | ok v=>exact ⟨v.1,h3.1,h3.2,fun j q e=>by injection e with e; rw [e]⟩
theorem Rd.vals {g B : Nat} {St : World→PS→Prop} {w : World} {r : R (List VV)} {e : Ending} {w' : World} (h : Rd g St w (ValsIs B g) r e w') : ∃ (a : Option Addr) (n c : Nat) (ds : List VD),e = .returned (.slice a n c)∧RowsAt (nex B [g] w') 4 (.slice a n c) (ds.map VD.row)∧(∀ d∈ds,LAt (nex B [g] w') d)∧∀ l q,r = .ok (l,q)→ds.map vv = l:=by
  obtain ⟨h1,h2,h3⟩:=h
  cases r with
  | error q=>obtain ⟨l,a,n,c,ds,h4,h5,h6,h7⟩:=h3; exact ⟨a,n,c,ds,h4,h5,h6,fun l q e=>by cases e⟩
  | ok v=>obtain ⟨a,n,c,ds,h4,h5,h6,h7⟩:=h3; exact ⟨a,n,c,ds,h4,h5,h6,fun l q e=>by injection e with e; rw [h7,e]⟩
theorem arg_end {k n : List UInt8} {i : Nat} {s : PS} {l : List VV} (hl : ∀ a q,runS s (argS i) = .ok (a,q)→a = l) : ∀ c q,runS s (testF4 k n i) = .ok (c,q)→c = .mk (6 + i) k n l []:=by
  intro c q h
  cases s with
  | error e=>cases h
  | ok ts =>
    obtain ⟨a,r1,h1,h2⟩:=bnd_inv (show bnd (argS i ts) _ = _ from h)
    injection h2 with h2
    injection h2 with h2 h3
    rw [← h2,hl a r1 h1]
theorem aft_arg {k n : List UInt8} {i : Nat} {s : PS} : aft (runS s (testF4 k n i)) = aft (runS s (argS i)):=by
  cases s with
  | error e=>rfl
  | ok ts=>exact aft_map (argS i ts) (fun l=>(.mk (6 + i) k n l [] : PE))
def argH (l : List VV) (r' : List Tok) : R (List VV):=bnd (needS sRb r') fun _ r''=>.ok (l,r'')
def argG (r : List Tok) : R (List VV):=bnd (valuesS r) fun l r'=>argH l r'
theorem argS_text {i : Nat} (h : 3≤i∧i≤5) (ts : List Tok) : argS i ts = bnd (takeS 3 ts) fun t r=>.ok ([⟨3,0,t.t,[]⟩],r):=by
  unfold argS; rw [if_neg (by omega),if_neg (by omega),if_pos h]
theorem argS_one {i : Nat} (h0 : i ≠ 0) (h2 : i ≠ 2) (h : ¬ (3≤i∧i≤5)) (ts : List Tok) : argS i ts = bnd (valueS ts) fun v r=>.ok ([v],r):=by
  unfold argS; rw [if_neg h0,if_neg h2,if_neg h]
theorem aft_one {α β : Type} {s : PS} {f : List Tok→R α} {k : α→β} {a : List Tok→R β} (h : ∀ ts,a ts = bnd (f ts) fun x r=>.ok (k x,r)) : aft (runS s a) = aft (runS s f)∧∀ y q,runS s a = .ok (y,q)→∃ x q',runS s f = .ok (x,q')∧y = k x:=by
  cases s with
  | error e=>exact ⟨rfl,fun y q h=>by cases h⟩
  | ok ts =>
    refine ⟨by show aft (a ts) = aft (f ts); rw [h]; exact aft_map _ k,fun y q hy=>?_⟩
    have hy' : a ts = .ok (y,q):=hy
    rw [h] at hy'
    obtain ⟨x,r1,h1,h2⟩:=bnd_inv hy'
    injection h2 with h2
    injection h2 with h2 h3
    exact ⟨x,r1,h1,h2.symm⟩
theorem nex_set5 {B g q : Nat} {w : World} (h : q < B) (a b c d e : Value) : Sub (nex B [g] w) (nex B [g] (((((w.setCell ⟨q,0,none⟩ a).setCell ⟨q,1,none⟩ b).setCell ⟨q,2,none⟩ c).setCell ⟨q,3,none⟩ d).setCell ⟨q,4,none⟩ e)) :=
  ((((nex_set (Or.inr h) a).trans (nex_set (Or.inr h) b)).trans (nex_set (Or.inr h) c)).trans (nex_set (Or.inr h) d)).trans (nex_set (Or.inr h) e)
section
variable {M : Mem} {T : List Tok} {tb to' tc : Nat}
set_option maxRecDepth 100000 in
set_option maxHeartbeats 16000000 in
theorem test_any (hK : TokM M T tb to' tc) (g o : Nat) (w : World) (s : PS) (hM : Sub M (but g w)) (h : PrP T tb to' tc g w o s) :
    Calls Tryz.prog 264 #[.pointer (some ⟨g,0,none⟩)] w (Rd g (fun w s=>PrP T tb to' tc g w o s) w (ExIs w.heap.size g 0) (runS s testS)):=by
  have hgl:=h.lt
  have hne : Hid (∀ ts,s = .ok ts→ts ≠ []):=Lib.hid fun ts e=>by subst e; exact h.ne
  have hz:=Lib.hid (Own.new w #[.int .i64 0,.string ⟨#[]⟩,.string ⟨#[]⟩,.slice none 0 0,.slice none 0 0] 31)
  have h0:=Lib.hid (h.alloc (.cells #[.int .i64 0,.string ⟨#[]⟩,.string ⟨#[]⟩,.slice none 0 0,.slice none 0 0] 31))
  have hg0:=Lib.hid (World.grownBy_alloc w (.cells #[.int .i64 0,.string ⟨#[]⟩,.string ⟨#[]⟩,.slice none 0 0,.slice none 0 0] 31) (some g))
  have hMw:=Lib.hid hM
  clear h hM
  go_enter Tryz.func264,Tryz.ntmps264
  go_wp2_with fail
  generalize w.alloc (.cells #[.int .i64 0,.string ⟨#[]⟩,.string ⟨#[]⟩,.slice none 0 0,.slice none 0 0] 31) = w0 at hz h0 hg0 ⊢
  obtain ⟨gz,hgz⟩ : ∃ z : Nat,Hid (z = w.heap.size):=⟨_,Lib.hid rfl⟩
  rw [← hgz.out] at hz ⊢
  have hwz : w.heap.size≤gz:=Nat.le_of_eq hgz.out.symm
  refine (accept_any hK g o _ s (sub_but_grown hMw.out hg0.out) h0.out ⟨#[116,114,117,101]⟩).mono ?_
  rintro e w1 ⟨rfl,hga,hPa⟩
  have hz1:=Lib.hid (hz.out.kept hga (by simp; omega))
  have hg1:=Lib.hid (g_call hg0.out hga)
  have hzl : gz < w1.heap.size:=hz1.out.lt
  clear hz h0 hg0
  cases hx : isP sTrue s with
  | true =>
    cases s with
    | error e=>cases hx
    | ok ts =>
      cases ts with
      | nil=>cases hx
      | cons u q =>
        have e1 : pastP (⟨#[116,114,117,101]⟩ : ByteArray).data.toList (.ok (u :: q)) = .ok q:=if_pos hx
        rw [e1] at hPa
        have hRB:=RdB.mk' (B:=gz) (St:=fun w s=>PrP T tb to' tc g w o s) hg1.out hPa hgl hwz
        have hv:=Lib.hid (testS_true (r:=q) (show isT sTrue u = true from hx))
        rw [show isP (⟨#[116,114,117,101]⟩ : ByteArray).data.toList (.ok (u :: q)) = true from hx]
        clear hPa hga hx e1
        obtain ⟨z0,z1,z2,z3,z4,f0,f1,f2,f3,f4⟩:=own5z hz1.out
        have hzl':=(hz1.out).lt
        have hF:=Lib.hid (hRB.set5 (q:=gz) (Nat.le_refl _) (.int .i64 1) (.string ⟨#[]⟩) (.string ⟨#[]⟩) (.slice none 0 0) (.slice none 0 0))
        go_wp2
        refine bodyPost_ret (v:=.agg #[.int .i64 1,.string ⟨#[]⟩,.string ⟨#[]⟩,.slice none 0 0,.slice none 0 0]) (by simp [results,Tryz.results264,go_sem, *]) rfl ?_
        exact (show Rd _ _ _ _ (testS (u :: q)) _ _ from by rw [hv.out]; exact Rd.ok hF.out.grown hF.out.st ⟨_,rfl,ex_flat _ 1 ⟨#[]⟩ ⟨#[]⟩,Nat.le_refl 0⟩)
  | false =>
    have hP1 : PrP T tb to' tc g w1 o s:=by rw [← pastP_no (x:=(⟨#[116,114,117,101]⟩ : ByteArray).data.toList) hx]; exact hPa
    replace hP1:=Lib.hid hP1
    have hx1:=Lib.hid hx
    clear hPa hga
    rw [show isP (⟨#[116,114,117,101]⟩ : ByteArray).data.toList s = false from hx]
    clear hx
    go_wp2_with fail
    refine (accept_any hK g o _ s (sub_but_grown hMw.out hg1.out) hP1.out ⟨#[109,101,109,98,101,114]⟩).mono ?_
    rintro e w2 ⟨rfl,hga,hPa⟩
    have hz2:=Lib.hid (hz1.out.kept hga (by simp; omega))
    have hg2:=Lib.hid (g_call hg1.out hga)
    have hzl2 : gz < w2.heap.size:=hz2.out.lt
    clear hz1 hg1 hP1 hzl
    cases hx : isP sMember s with
    | true =>
      cases s with
      | error e=>cases hx
      | ok ts =>
        cases ts with
        | nil=>cases hx
        | cons u q =>
          have e1 : pastP (⟨#[109,101,109,98,101,114]⟩ : ByteArray).data.toList (.ok (u :: q)) = .ok q:=if_pos hx
          rw [e1] at hPa
          have hv:=Lib.hid (testS_member (r:=q) (show isT sTrue u = false from hx1.out) (show isT sMember u = true from hx))
          rw [show isP (⟨#[109,101,109,98,101,114]⟩ : ByteArray).data.toList (.ok (u :: q)) = true from hx]
          clear hga hx e1 hx1
          go_wp2_with fail
          refine (word_any hK g o _ (.ok q) (sub_but_grown hMw.out hg2.out) hPa).mono ?_
          rintro e w3 hr
          obtain ⟨x,rfl,hn,-⟩:=hr.str
          replace hn:=Lib.hid hn
          have hz3:=hz2.out.kept hr.1 (by simp; omega)
          have hRB:=RdB.mk' (B:=gz) (St:=fun w s=>PrP T tb to' tc g w o s) (g_call hg2.out hr.1) hr.2.1 hgl hwz
          clear hr hPa
          obtain ⟨z0,z1,z2,z3,z4,f0,f1,f2,f3,f4⟩:=own5z hz3
          have hzl':=(hz3).lt
          have hF:=Lib.hid (hRB.set5 (q:=gz) (Nat.le_refl _) (.int .i64 5) (.string ⟨#[]⟩) (.string x) (.slice none 0 0) (.slice none 0 0))
          go_wp2
          refine bodyPost_ret (v:=.agg #[.int .i64 5,.string ⟨#[]⟩,.string x,.slice none 0 0,.slice none 0 0]) (by simp [results,Tryz.results264,go_sem, *]) rfl ?_
          exact (show Rd _ _ _ _ (testS (u :: q)) _ _ from by
            have hv4:=fun (M : Mem)=>ex_flat M 5 ⟨#[]⟩ x
            rw [hv.out]
            refine Rd.fin hF.out.grown (by rw [aft_map]; exact hF.out.st) (fun c q' hc=>?_) ⟨_,_,rfl,hv4 _,Nat.le_refl 0⟩
            obtain ⟨a,r1,h1,h2⟩:=bnd_inv hc
            injection h2 with h2
            injection h2 with h2 h3
            rw [← h2,← hn.out a r1 h1]
            exact ⟨_,rfl,hv4 _,Nat.le_refl 0⟩)
    | false =>
      have hP2 : PrP T tb to' tc g w2 o s:=by rw [← pastP_no (x:=(⟨#[109,101,109,98,101,114]⟩ : ByteArray).data.toList) hx]; exact hPa
      replace hP2:=Lib.hid hP2
      have hr0:=Lib.hid (testS_else hne.out hx1.out hx)
      clear hPa hga
      rw [show isP (⟨#[109,101,109,98,101,114]⟩ : ByteArray).data.toList s = false from hx]
      clear hx hx1
      go_wp2_with fail
      refine (word_any hK g o _ s (sub_but_grown hMw.out hg2.out) hP2.out).mono ?_
      rintro e w3 hr
      obtain ⟨kx,rfl,hkx,-⟩:=hr.str
      have hr1:=Lib.hid (hr0.out.trans (run_step (f:=takeS 1) (K:=fun k r1=>testF1 k.t r1) (s:=s) ⟨0,kx.data.toList,0,0⟩ (fun b q h=>by rw [← hkx b q h])))
      have hP3:=hr.2.1
      have hg3':=g_call hg2.out hr.1
      have hz3':=hz2.out.kept hr.1 (by simp; omega)
      have hg3:=Lib.hid (g_call hg3' (World.grownBy_alloc w3 (.cells #[.int .i64 0,.string kx,.string ⟨#[]⟩,.slice none 0 0,.slice none 0 0] 31) (some g)))
      have hz3:=Lib.hid (hz3'.alloc (.cells #[.int .i64 0,.string kx,.string ⟨#[]⟩,.slice none 0 0,.slice none 0 0] 31))
      have he3:=Lib.hid (Own.new w3 #[.int .i64 0,.string kx,.string ⟨#[]⟩,.slice none 0 0,.slice none 0 0] 31)
      have hP4:=Lib.hid (hP3.alloc (.cells #[.int .i64 0,.string kx,.string ⟨#[]⟩,.slice none 0 0,.slice none 0 0] 31))
      have hzl3 : gz < w3.heap.size:=hz3'.lt
      have hB1 : (w3.alloc (.cells #[.int .i64 0,.string kx,.string ⟨#[]⟩,.slice none 0 0,.slice none 0 0] 31)).heap.size = w3.heap.size + 1:=by simp
      clear hr hkx hr0 hP3 hP2 hg2 hz2 hg3' hz3' hzl2
      generalize aft (runS s (takeS 1)) = s1 at hr1 hP4
      go_upto_region 6 with fail
      generalize w3.alloc (.cells #[.int .i64 0,.string kx,.string ⟨#[]⟩,.slice none 0 0,.slice none 0 0] 31) = w4 at hg3 hz3 he3 hP4 hB1 ⊢
      obtain ⟨ge,hge⟩ : ∃ z : Nat,Hid (z = w3.heap.size):=⟨_,Lib.hid rfl⟩
      rw [← hge.out] at he3 hzl3 hB1 ⊢
      replace hB1:=Lib.hid hB1
      have hgge : g < ge:=by omega
      go_wp2_with fail
      refine (expect_any hK g o _ s1 (sub_but_grown hMw.out hg3.out) hP4.out ⟨#[46]⟩).mono ?_
      rintro e w5 hr
      obtain rfl:=hr.none
      have hr2:=Lib.hid (hr1.out.trans (run_step (f:=needS sDot) (K:=fun _ r2=>testF2 kx.data.toList r2) (s:=s1) () (fun b q h=>rfl)))
      have hg5:=Lib.hid (g_call hg3.out hr.1)
      have hz5:=Lib.hid (hz3.out.kept hr.1 (by simp; omega))
      have he5:=Lib.hid (he3.out.kept hr.1 (by simp; omega))
      have hP5:=Lib.hid (show PrP T tb to' tc g w5 o (aft (runS s1 (needS sDot))) from hr.2.1)
      have hB5 : ge < w5.heap.size:=he5.out.lt
      clear hr hr1 hg3 hz3 he3 hP4
      generalize aft (runS s1 (needS sDot)) = s2 at hr2 hP5
      obtain ⟨-,-,e2,-,-,-,-,ef2,-⟩:=own5z he5.out
      go_wp2_with fail
      refine (word_any hK g o _ s2 (sub_but_grown hMw.out hg5.out) hP5.out).mono ?_
      rintro e w6 hr
      obtain ⟨nx,rfl,hnx,-⟩:=hr.str
      have hr3:=Lib.hid (hr2.out.trans (run_step (f:=takeS 1) (K:=fun n r3=>testF3 kx.data.toList n.t r3) (s:=s2) ⟨0,nx.data.toList,0,0⟩ (fun b q h=>by rw [← hnx b q h])))
      have he6:=he5.out.kept hr.1 (by simp; omega)
      have hg6':=g_call hg5.out hr.1
      have hz6':=hz5.out.kept hr.1 (by simp; omega)
      obtain ⟨-,-,d2,-,-,-,-,df2,-⟩:=own5z he6
      have he6l:=he6.lt
      have hg6:=Lib.hid (g_setCell hg6' (p:=⟨ge,2,none⟩) (by simp; omega) (.string nx))
      have hz6:=Lib.hid (hz6'.setOther (p:=⟨ge,2,none⟩) (by simp; omega) (.string nx))
      have he7:=Lib.hid (show Own (w6.setCell ⟨ge,2,none⟩ (.string nx)) ge #[.int .i64 0,.string kx,.string nx,.slice none 0 0,.slice none 0 0] 31 from he6.set 2 _)
      have hP6:=Lib.hid ((show PrP T tb to' tc g w6 o (aft (runS s2 (takeS 1))) from hr.2.1).set (q:=ge) (i:=2) (by omega) (.string nx))
      clear hr hnx hr2 hg5 hz5 he5 hP5 e2 ef2 hg6' hz6' he6
      generalize aft (runS s2 (takeS 1)) = s3 at hr3 hP6
      go_upto_region 8 with fail
      clear d2 df2
      generalize w6.setCell ⟨ge,2,none⟩ (.string nx) = w7 at hg6 hz6 he7 hP6 ⊢
      have hg8:=Lib.hid (g_call hg6.out (World.grownBy_alloc w7 (.cells #[.string ⟨#[101,120,105,115,116,115]⟩,.string ⟨#[105,115]⟩,.string ⟨#[105,110]⟩,.string ⟨#[115,116,97,114,116,115]⟩,.string ⟨#[101,110,100,115]⟩,.string ⟨#[99,111,110,116,97,105,110,115]⟩,.string ⟨#[60]⟩,.string ⟨#[60,61]⟩,.string ⟨#[62]⟩,.string ⟨#[62,61]⟩] 9) (some g)))
      have hz8:=Lib.hid (hz6.out.alloc (.cells #[.string ⟨#[101,120,105,115,116,115]⟩,.string ⟨#[105,115]⟩,.string ⟨#[105,110]⟩,.string ⟨#[115,116,97,114,116,115]⟩,.string ⟨#[101,110,100,115]⟩,.string ⟨#[99,111,110,116,97,105,110,115]⟩,.string ⟨#[60]⟩,.string ⟨#[60,61]⟩,.string ⟨#[62]⟩,.string ⟨#[62,61]⟩] 9))
      have he8:=Lib.hid (he7.out.alloc (.cells #[.string ⟨#[101,120,105,115,116,115]⟩,.string ⟨#[105,115]⟩,.string ⟨#[105,110]⟩,.string ⟨#[115,116,97,114,116,115]⟩,.string ⟨#[101,110,100,115]⟩,.string ⟨#[99,111,110,116,97,105,110,115]⟩,.string ⟨#[60]⟩,.string ⟨#[60,61]⟩,.string ⟨#[62]⟩,.string ⟨#[62,61]⟩] 9))
      have hP8:=Lib.hid (hP6.out.alloc (.cells #[.string ⟨#[101,120,105,115,116,115]⟩,.string ⟨#[105,115]⟩,.string ⟨#[105,110]⟩,.string ⟨#[115,116,97,114,116,115]⟩,.string ⟨#[101,110,100,115]⟩,.string ⟨#[99,111,110,116,97,105,110,115]⟩,.string ⟨#[60]⟩,.string ⟨#[60,61]⟩,.string ⟨#[62]⟩,.string ⟨#[62,61]⟩] 9))
      have hW8:=Own.new w7 #[.string ⟨#[101,120,105,115,116,115]⟩,.string ⟨#[105,115]⟩,.string ⟨#[105,110]⟩,.string ⟨#[115,116,97,114,116,115]⟩,.string ⟨#[101,110,100,115]⟩,.string ⟨#[99,111,110,116,97,105,110,115]⟩,.string ⟨#[60]⟩,.string ⟨#[60,61]⟩,.string ⟨#[62]⟩,.string ⟨#[62,61]⟩] 9
      have hB7 : ge < w7.heap.size:=he7.out.lt
      have hwl : WordsAt (w7.alloc (.cells #[.string ⟨#[101,120,105,115,116,115]⟩,.string ⟨#[105,115]⟩,.string ⟨#[105,110]⟩,.string ⟨#[115,116,97,114,116,115]⟩,.string ⟨#[101,110,100,115]⟩,.string ⟨#[99,111,110,116,97,105,110,115]⟩,.string ⟨#[60]⟩,.string ⟨#[60,61]⟩,.string ⟨#[62]⟩,.string ⟨#[62,61]⟩] 9)) w7.heap.size [(⟨#[101,120,105,115,116,115]⟩ : ByteArray),(⟨#[105,115]⟩ : ByteArray),(⟨#[105,110]⟩ : ByteArray),(⟨#[115,116,97,114,116,115]⟩ : ByteArray),(⟨#[101,110,100,115]⟩ : ByteArray),(⟨#[99,111,110,116,97,105,110,115]⟩ : ByteArray),(⟨#[60]⟩ : ByteArray),(⟨#[60,61]⟩ : ByteArray),(⟨#[62]⟩ : ByteArray),(⟨#[62,61]⟩ : ByteArray)]:=fun i hi=>by
        rw [hW8.cell i]
        match i,hi with
        | 0,_=>rfl
        | 1,_=>rfl
        | 2,_=>rfl
        | 3,_=>rfl
        | 4,_=>rfl
        | 5,_=>rfl
        | 6,_=>rfl
        | 7,_=>rfl
        | 8,_=>rfl
        | 9,_=>rfl
        | i + 10,hi=>exact absurd hi (by simp)
      replace hwl:=Lib.hid hwl
      obtain ⟨-,-,-,-,-,-,-,-,-,-⟩:=own5z he8.out
      clear hW8 hg6 hz6 he7 hP6
      go_wp2_with fail
      refine (choice_any hK g o _ s3 (sub_but_grown hMw.out hg8.out) hP8.out w7.heap.size 10 [(⟨#[101,120,105,115,116,115]⟩ : ByteArray),(⟨#[105,115]⟩ : ByteArray),(⟨#[105,110]⟩ : ByteArray),(⟨#[115,116,97,114,116,115]⟩ : ByteArray),(⟨#[101,110,100,115]⟩ : ByteArray),(⟨#[99,111,110,116,97,105,110,115]⟩ : ByteArray),(⟨#[60]⟩ : ByteArray),(⟨#[60,61]⟩ : ByteArray),(⟨#[62]⟩ : ByteArray),(⟨#[62,61]⟩ : ByteArray)] hwl.out (by omega) (by simp)).mono ?_
      rintro e w9 hr
      obtain ⟨i,rfl,hi,hii⟩:=hr.idx
      have hr4:=Lib.hid (hr3.out.trans (run_step (f:=choiceS tests10) (K:=fun i r4=>testF4 kx.data.toList nx.data.toList i r4) (s:=s3) i (fun b q h=>by rw [hii b q h])))
      have he9:=he8.out.kept hr.1 (by simp; omega)
      have hg9':=g_call hg8.out hr.1
      have hz9':=hz8.out.kept hr.1 (by simp; omega)
      obtain ⟨d0,-,-,-,-,df0,-⟩:=own5z he9
      have he9l:=he9.lt
      have hw6 : IntKind.i64.wrap (6 + (i : Int)) = 6 + (i : Int):=by rw [IntKind.wrap_i64]; omega
      have hg9:=Lib.hid (g_setCell hg9' (p:=⟨ge,0,none⟩) (by simp; omega) (.int .i64 (6 + (i : Int))))
      have hz9:=Lib.hid (hz9'.setOther (p:=⟨ge,0,none⟩) (by simp; omega) (.int .i64 (6 + (i : Int))))
      have he10:=Lib.hid (show Own (w9.setCell ⟨ge,0,none⟩ (.int .i64 (6 + (i : Int)))) ge #[.int .i64 (6 + (i : Int)),.string kx,.string nx,.slice none 0 0,.slice none 0 0] 31 from he9.set 0 _)
      have hP9:=Lib.hid ((show PrP T tb to' tc g w9 o (aft (runS s3 (choiceS tests10))) from hr.2.1).set (q:=ge) (i:=0) (by omega) (.int .i64 (6 + (i : Int))))
      clear hr hii hr3 hg8 hz8 he8 hP8 hg9' hz9' he9 hwl
      generalize aft (runS s3 (choiceS tests10)) = s4 at hr4 hP9
      go_upto_region 9 with fail
      clear d0 df0
      generalize w9.setCell ⟨ge,0,none⟩ (.int .i64 (6 + (i : Int))) = w10 at hg9 hz9 he10 hP9 ⊢
      have hB10 : ge < w10.heap.size:=he10.out.lt
      obtain ⟨e0,e1,e2,e3,e4,-⟩:=own5z he10.out
      have hd:=Lib.hid (show (aft (runS s testS) = aft (runS s4 (argS i)))∧∀ l : List VV,(∀ a q,runS s4 (argS i) = .ok (a,q)→a = l)→∀ c q,runS s testS = .ok (c,q)→c = .mk (6 + i) kx.data.toList nx.data.toList l [] from
        ⟨by rw [hr4.out]; exact aft_arg,fun l hl=>by rw [hr4.out]; exact arg_end hl⟩)
      clear hr4
      by_cases h0 : i = 0
      case pos =>
        subst h0
        have hRB:=RdB.mk' (B:=gz) (St:=fun w s=>PrP T tb to' tc g w o s) (s:=aft (runS s testS)) hg9.out (by rw [hd.out.1]; cases s4 with | error e=>exact hP9.out | ok ts=>exact hP9.out) hgl hwz
        obtain ⟨z0,z1,z2,z3,z4,f0,f1,f2,f3,f4⟩:=own5z hz9.out
        have hzl':=(hz9.out).lt
        have hF:=Lib.hid (hRB.set5 (q:=gz) (Nat.le_refl _) (.int .i64 6) (.string kx) (.string nx) (.slice none 0 0) (.slice none 0 0))
        go_wp2
        refine bodyPost_ret (v:=.agg #[.int .i64 6,.string kx,.string nx,.slice none 0 0,.slice none 0 0]) (by simp [results,Tryz.results264,go_sem, *]) rfl ?_
        have hv4:=fun (M : Mem)=>ex_flat M 6 kx nx
        exact Rd.fin hF.out.grown hF.out.st (fun c q hc=>by rw [hd.out.2 [] (fun a q h=>by cases s4 with | error e=>cases h | ok ts=>(injection h with h; injection h with h1 h2; exact h1.symm)) c q hc]; exact ⟨_,rfl,hv4 _,Nat.le_refl 0⟩) ⟨_,_,rfl,hv4 _,Nat.le_refl 0⟩
      by_cases h2 : i = 2
      case pos =>
        subst h2
        have hA0:=Lib.hid (run_step (f:=needS sLb) (K:=fun _ r=>argG r) (s:=s4) () (fun b q h=>rfl))
        have hA : Hid (runS s4 (argS 2) = runS (aft (runS s4 (needS sLb))) argG):=Lib.hid (by rw [← hA0.out]; rfl)
        clear hA0
        go_wp2_with fail
        refine (expect_any hK g o _ s4 (sub_but_grown hMw.out hg9.out) hP9.out ⟨#[91]⟩).mono ?_
        rintro e w11 hr
        obtain rfl:=hr.none
        have hg11:=Lib.hid (g_call hg9.out hr.1)
        have hz11:=Lib.hid (hz9.out.kept hr.1 (by simp; omega))
        have he11:=Lib.hid (he10.out.kept hr.1 (by simp; omega))
        have hP11:=Lib.hid (show PrP T tb to' tc g w11 o (aft (runS s4 (needS sLb))) from hr.2.1)
        have hB11 : ge < w11.heap.size:=he11.out.lt
        clear hr hg9 hz9 he10 hP9 e0 e1 e2 e3 e4
        generalize aft (runS s4 (needS sLb)) = s5 at hA hP11
        go_wp2_with fail
        refine (values_any hK g o _ s5 (sub_but_grown hMw.out hg11.out) hP11.out).mono ?_
        rintro e w12 hr
        obtain ⟨va,vn,vc,ds,rfl,hrow,hlat,hds⟩:=hr.vals
        have hA1 : Hid (runS s4 (argS 2) = runS (aft (runS s5 valuesS)) (argH (ds.map vv))):=Lib.hid (hA.out.trans (run_step (f:=valuesS) (K:=fun l r'=>argH l r') (s:=s5) (ds.map vv) (fun b q h=>by rw [hds b q h])))
        have he12:=he11.out.kept hr.1 (by simp; omega)
        have hz12:=hz11.out.kept hr.1 (by simp; omega)
        have hg12:=g_call hg11.out hr.1
        obtain ⟨-,-,-,d3,-,-,-,-,df3,-⟩:=own5z he12
        have he12l:=he12.lt
        have hg13:=Lib.hid (g_setCell hg12 (p:=⟨ge,3,none⟩) (by simp; omega) (.slice va vn vc))
        have hz13:=Lib.hid (hz12.setOther (p:=⟨ge,3,none⟩) (by simp; omega) (.slice va vn vc))
        have he13:=Lib.hid (show Own (w12.setCell ⟨ge,3,none⟩ (.slice va vn vc)) ge #[.int .i64 (6 + ((2 : Nat) : Int)),.string kx,.string nx,.slice va vn vc,.slice none 0 0] 31 from he12.set 3 _)
        have hP13:=Lib.hid ((show PrP T tb to' tc g w12 o (aft (runS s5 valuesS)) from hr.2.1).set (q:=ge) (i:=3) (by omega) (.slice va vn vc))
        have hrow13:=Lib.hid (hrow.mono (nex_set (q:=ge) (o:=3) (Or.inr hB11) (.slice va vn vc)))
        have hlat13:=Lib.hid (fun d hd=>(hlat d hd).mono (nex_set (q:=ge) (o:=3) (Or.inr hB11) (.slice va vn vc)))
        clear hr hA hg11 hz11 he11 hP11 hrow hlat hds he12 hz12 hg12
        generalize aft (runS s5 valuesS) = s6 at hA1 hP13
        go_upto_region 15 with fail
        clear d3 df3
        generalize w12.setCell ⟨ge,3,none⟩ (.slice va vn vc) = w13 at hg13 hz13 he13 hP13 hrow13 hlat13 ⊢
        go_wp2_with fail
        refine (expect_any hK g o _ s6 (sub_but_grown hMw.out hg13.out) hP13.out ⟨#[93]⟩).mono ?_
        rintro e w14 hr
        obtain rfl:=hr.none
        have he14:=he13.out.kept hr.1 (by simp; omega)
        have hz14:=hz13.out.kept hr.1 (by simp; omega)
        obtain ⟨y0,y1,y2,y3,y4,-⟩:=own5z he14
        have hq:=aft_one (s:=s6) (f:=needS sRb) (k:=fun _=>ds.map vv) (a:=argH (ds.map vv)) (fun ts=>rfl)
        have hRB:=RdB.mk' (B:=gz) (St:=fun w s=>PrP T tb to' tc g w o s) (s:=aft (runS s testS)) (g_call hg13.out hr.1) (by rw [hd.out.1,hA1.out,hq.1]; exact hr.2.1) hgl hwz
        obtain ⟨z0,z1,z2,z3,z4,f0,f1,f2,f3,f4⟩:=own5z (hz14)
        have hzl':=(hz14).lt
        have hF:=Lib.hid (hRB.set5 (q:=gz) (Nat.le_refl _) (.int .i64 (6 + ((2 : Nat) : Int))) (.string kx) (.string nx) (.slice va vn vc) (.slice none 0 0))
        have hX:=Lib.hid (ex_vals (6 + ((2 : Nat) : Int)) kx nx ((hrow13.out.mono (nex_grown hr.1 (fun k e=>by cases e; exact Or.inl (by simp)))).mono ((nex_set5 (q:=gz) (by omega) (.int .i64 (6 + ((2 : Nat) : Int))) (.string kx) (.string nx) (.slice va vn vc) (.slice none 0 0)).trans (nex_up _ (show w.heap.size≤w11.heap.size by omega) (fun k hk=>Or.inl hk)))) (fun d hd=>LAt.mono ((nex_set5 (q:=gz) (by omega) (.int .i64 (6 + ((2 : Nat) : Int))) (.string kx) (.string nx) (.slice va vn vc) (.slice none 0 0)).trans (nex_up _ (show w.heap.size≤w11.heap.size by omega) (fun k hk=>Or.inl hk))) ((fun d hd=>(hlat13.out d hd).mono (nex_grown hr.1 (fun k e=>by cases e; exact Or.inl (by simp)))) d hd)))
        have hall:=Lib.hid (hd.out.2 (ds.map vv) (fun a q h=>by rw [hA1.out] at h; obtain ⟨x,q2,-,e⟩:=hq.2 a q h; exact e))
        clear hr hRB hz14 he14 hq
        go_wp2
        refine bodyPost_ret (v:=.agg #[.int .i64 (6 + ((2 : Nat) : Int)),.string kx,.string nx,.slice va vn vc,.slice none 0 0]) (by simp [results,Tryz.results264,go_sem, *]) rfl ?_
        exact Rd.fin hF.out.grown hF.out.st (fun c q hc=>by rw [hall.out c q hc]; exact ⟨_,rfl,hX.out,Nat.le_refl 0⟩) ⟨_,_,rfl,hX.out,Nat.le_refl 0⟩
      by_cases h35 : 3≤i∧i≤5
      case pos =>
        have hq:=aft_one (s:=s4) (f:=takeS 3) (k:=fun t=>[(⟨3,0,t.t,[]⟩ : VV)]) (a:=argS i) (argS_text h35)
        replace hq:=Lib.hid hq
        have hi3 : i = 3∨i = 4∨i = 5:=by omega
        clear h0 h2 h35
        rcases hi3 with rfl | rfl | rfl
        · go_wp2_with fail
          refine (text_any hK g o _ s4 (sub_but_grown hMw.out hg9.out) hP9.out).mono ?_
          rintro e w11 hr
          obtain ⟨x,rfl,hx,hxz⟩:=hr.str
          have hz11:=hz9.out.kept hr.1 (by simp; omega)
          have he11:=he10.out.kept hr.1 (by simp; omega)
          have hg11:=g_call hg9.out hr.1
          have hP11:=hr.2.1
          have hB11 : w10.heap.size≤w11.heap.size:=hr.1.size
          obtain ⟨-,-,-,d3,-,-,-,-,df3,-⟩:=own5z he11
          have he11l:=he11.lt
          have hg12:=g_setCell hg11 (p:=⟨ge,3,none⟩) (by simp; omega) (.slice (some ⟨w11.heap.size,0,none⟩) 1 1)
          have hz12:=hz11.setOther (p:=⟨ge,3,none⟩) (by simp; omega) (.slice (some ⟨w11.heap.size,0,none⟩) 1 1)
          have he12 : Own (w11.setCell ⟨ge,3,none⟩ (.slice (some ⟨w11.heap.size,0,none⟩) 1 1)) ge #[.int .i64 (6 + ((3 : Nat) : Int)),.string kx,.string nx,.slice (some ⟨w11.heap.size,0,none⟩) 1 1,.slice none 0 0] 31:=he11.set 3 _
          have hP12:=hP11.set (q:=ge) (i:=3) (by omega) (.slice (some ⟨w11.heap.size,0,none⟩) 1 1)
          have hs12 : (w11.setCell ⟨ge,3,none⟩ (.slice (some ⟨w11.heap.size,0,none⟩) 1 1)).heap.size = w11.heap.size:=by simp
          have hro:=ro_one (e:=76) (sz:=4) (B:=w10.heap.size) (w11.setCell ⟨ge,3,none⟩ (.slice (some ⟨w11.heap.size,0,none⟩) 1 1)) #[.int .i64 3,.int .i64 0,.string x,.slice none 0 0] (by rw [hs12]; omega) rfl
          rw [hs12] at hro
          have hrow:=hro.new (g:=g) (by intro r hr; rw [List.mem_singleton.1 hr]; rfl) (by omega)
          have hlat : ∀ d∈[(⟨3,0,x,none,0,0,[]⟩ : VD)],LAt (nex w10.heap.size [g] ((w11.setCell ⟨ge,3,none⟩ (.slice (some ⟨w11.heap.size,0,none⟩) 1 1)).alloc (.cells #[.int .i64 3,.int .i64 0,.string x,.slice none 0 0] 76))) d:=fun d hd=>by
            obtain rfl:=List.mem_singleton.1 hd
            exact LAt.flat _ 3 0 x (by omega)
          have hg13:=Lib.hid (g_call hg12 (World.grownBy_alloc _ (.cells #[.int .i64 3,.int .i64 0,.string x,.slice none 0 0] 76) (some g)))
          have hz13:=Lib.hid (hz12.alloc (.cells #[.int .i64 3,.int .i64 0,.string x,.slice none 0 0] 76))
          have he13:=Lib.hid (he12.alloc (.cells #[.int .i64 3,.int .i64 0,.string x,.slice none 0 0] 76))
          have hP13:=Lib.hid (hP12.alloc (.cells #[.int .i64 3,.int .i64 0,.string x,.slice none 0 0] 76))
          have hrow13 : Hid (RowsAt (nex w10.heap.size [g] ((w11.setCell ⟨ge,3,none⟩ (.slice (some ⟨w11.heap.size,0,none⟩) 1 1)).alloc (.cells #[.int .i64 3,.int .i64 0,.string x,.slice none 0 0] 76))) 4 (.slice (some ⟨w11.heap.size,0,none⟩) 1 1) ([(⟨3,0,x,none,0,0,[]⟩ : VD)].map VD.row)):=Lib.hid hrow
          replace hlat:=Lib.hid hlat
          have hall:=Lib.hid (hd.out.2 ([(⟨3,0,x,none,0,0,[]⟩ : VD)].map vv) (fun a q h=>by obtain ⟨t,q2,e1,e2⟩:=hq.out.2 a q h; rw [e2,← hx t q2 e1]; rfl))
          have hq1:=Lib.hid ((hq.out).1)
          clear hr hg12 hz12 he12 hP12 hro hrow hg11 hz11 hP11 hx hg9 hz9 he10 hP9 e0 e1 e2 e3 e4
          go_upto_region 20 with fail
          clear d3 df3 he11
          generalize (w11.setCell ⟨ge,3,none⟩ (.slice (some ⟨w11.heap.size,0,none⟩) 1 1)).alloc (.cells #[.int .i64 3,.int .i64 0,.string x,.slice none 0 0] 76) = w13 at hg13 hz13 he13 hP13 hrow13 hlat ⊢
          obtain ⟨y0,y1,y2,y3,y4,-⟩:=own5z he13.out
          have he13l:=he13.out.lt
          have hRB:=RdB.mk' (B:=gz) (St:=fun w s=>PrP T tb to' tc g w o s) (s:=aft (runS s testS)) (hg13.out) (by rw [hd.out.1,hq1.out]; exact hP13.out) hgl hwz
          obtain ⟨z0,z1,z2,z3,z4,f0,f1,f2,f3,f4⟩:=own5z (hz13.out)
          have hzl':=(hz13.out).lt
          have hF:=Lib.hid (hRB.set5 (q:=gz) (Nat.le_refl _) (.int .i64 (6 + ((3 : Nat) : Int))) (.string kx) (.string nx) (.slice (some ⟨w11.heap.size,0,none⟩) 1 1) (.slice none 0 0))
          have hX:=Lib.hid (ex_vals (6 + ((3 : Nat) : Int)) kx nx ((hrow13.out).mono ((nex_set5 (q:=gz) (by omega) (.int .i64 (6 + ((3 : Nat) : Int))) (.string kx) (.string nx) (.slice (some ⟨w11.heap.size,0,none⟩) 1 1) (.slice none 0 0)).trans (nex_up _ (show w.heap.size≤w10.heap.size by omega) (fun k hk=>Or.inl hk)))) (fun d hd=>LAt.mono ((nex_set5 (q:=gz) (by omega) (.int .i64 (6 + ((3 : Nat) : Int))) (.string kx) (.string nx) (.slice (some ⟨w11.heap.size,0,none⟩) 1 1) (.slice none 0 0)).trans (nex_up _ (show w.heap.size≤w10.heap.size by omega) (fun k hk=>Or.inl hk))) ((hlat.out) d hd)))
          clear hRB
          go_wp2
          refine bodyPost_ret (v:=.agg #[.int .i64 (6 + ((3 : Nat) : Int)),.string kx,.string nx,.slice (some ⟨w11.heap.size,0,none⟩) 1 1,.slice none 0 0]) (by simp [results,Tryz.results264,go_sem, *]) rfl ?_
          exact Rd.fin hF.out.grown hF.out.st (fun c q hc=>by rw [hall.out c q hc]; exact ⟨_,rfl,hX.out,Nat.le_refl 0⟩) ⟨_,_,rfl,hX.out,Nat.le_refl 0⟩
        · go_wp2_with fail
          refine (text_any hK g o _ s4 (sub_but_grown hMw.out hg9.out) hP9.out).mono ?_
          rintro e w11 hr
          obtain ⟨x,rfl,hx,hxz⟩:=hr.str
          have hz11:=hz9.out.kept hr.1 (by simp; omega)
          have he11:=he10.out.kept hr.1 (by simp; omega)
          have hg11:=g_call hg9.out hr.1
          have hP11:=hr.2.1
          have hB11 : w10.heap.size≤w11.heap.size:=hr.1.size
          obtain ⟨-,-,-,d3,-,-,-,-,df3,-⟩:=own5z he11
          have he11l:=he11.lt
          have hg12:=g_setCell hg11 (p:=⟨ge,3,none⟩) (by simp; omega) (.slice (some ⟨w11.heap.size,0,none⟩) 1 1)
          have hz12:=hz11.setOther (p:=⟨ge,3,none⟩) (by simp; omega) (.slice (some ⟨w11.heap.size,0,none⟩) 1 1)
          have he12 : Own (w11.setCell ⟨ge,3,none⟩ (.slice (some ⟨w11.heap.size,0,none⟩) 1 1)) ge #[.int .i64 (6 + ((4 : Nat) : Int)),.string kx,.string nx,.slice (some ⟨w11.heap.size,0,none⟩) 1 1,.slice none 0 0] 31:=he11.set 3 _
          have hP12:=hP11.set (q:=ge) (i:=3) (by omega) (.slice (some ⟨w11.heap.size,0,none⟩) 1 1)
          have hs12 : (w11.setCell ⟨ge,3,none⟩ (.slice (some ⟨w11.heap.size,0,none⟩) 1 1)).heap.size = w11.heap.size:=by simp
          have hro:=ro_one (e:=76) (sz:=4) (B:=w10.heap.size) (w11.setCell ⟨ge,3,none⟩ (.slice (some ⟨w11.heap.size,0,none⟩) 1 1)) #[.int .i64 3,.int .i64 0,.string x,.slice none 0 0] (by rw [hs12]; omega) rfl
          rw [hs12] at hro
          have hrow:=hro.new (g:=g) (by intro r hr; rw [List.mem_singleton.1 hr]; rfl) (by omega)
          have hlat : ∀ d∈[(⟨3,0,x,none,0,0,[]⟩ : VD)],LAt (nex w10.heap.size [g] ((w11.setCell ⟨ge,3,none⟩ (.slice (some ⟨w11.heap.size,0,none⟩) 1 1)).alloc (.cells #[.int .i64 3,.int .i64 0,.string x,.slice none 0 0] 76))) d:=fun d hd=>by
            obtain rfl:=List.mem_singleton.1 hd
            exact LAt.flat _ 3 0 x (by omega)
          have hg13:=Lib.hid (g_call hg12 (World.grownBy_alloc _ (.cells #[.int .i64 3,.int .i64 0,.string x,.slice none 0 0] 76) (some g)))
          have hz13:=Lib.hid (hz12.alloc (.cells #[.int .i64 3,.int .i64 0,.string x,.slice none 0 0] 76))
          have he13:=Lib.hid (he12.alloc (.cells #[.int .i64 3,.int .i64 0,.string x,.slice none 0 0] 76))
          have hP13:=Lib.hid (hP12.alloc (.cells #[.int .i64 3,.int .i64 0,.string x,.slice none 0 0] 76))
          have hrow13 : Hid (RowsAt (nex w10.heap.size [g] ((w11.setCell ⟨ge,3,none⟩ (.slice (some ⟨w11.heap.size,0,none⟩) 1 1)).alloc (.cells #[.int .i64 3,.int .i64 0,.string x,.slice none 0 0] 76))) 4 (.slice (some ⟨w11.heap.size,0,none⟩) 1 1) ([(⟨3,0,x,none,0,0,[]⟩ : VD)].map VD.row)):=Lib.hid hrow
          replace hlat:=Lib.hid hlat
          have hall:=Lib.hid (hd.out.2 ([(⟨3,0,x,none,0,0,[]⟩ : VD)].map vv) (fun a q h=>by obtain ⟨t,q2,e1,e2⟩:=hq.out.2 a q h; rw [e2,← hx t q2 e1]; rfl))
          have hq1:=Lib.hid ((hq.out).1)
          clear hr hg12 hz12 he12 hP12 hro hrow hg11 hz11 hP11 hx hg9 hz9 he10 hP9 e0 e1 e2 e3 e4
          go_upto_region 20 with fail
          clear d3 df3 he11
          generalize (w11.setCell ⟨ge,3,none⟩ (.slice (some ⟨w11.heap.size,0,none⟩) 1 1)).alloc (.cells #[.int .i64 3,.int .i64 0,.string x,.slice none 0 0] 76) = w13 at hg13 hz13 he13 hP13 hrow13 hlat ⊢
          obtain ⟨y0,y1,y2,y3,y4,-⟩:=own5z he13.out
          have he13l:=he13.out.lt
          have hRB:=RdB.mk' (B:=gz) (St:=fun w s=>PrP T tb to' tc g w o s) (s:=aft (runS s testS)) (hg13.out) (by rw [hd.out.1,hq1.out]; exact hP13.out) hgl hwz
          obtain ⟨z0,z1,z2,z3,z4,f0,f1,f2,f3,f4⟩:=own5z (hz13.out)
          have hzl':=(hz13.out).lt
          have hF:=Lib.hid (hRB.set5 (q:=gz) (Nat.le_refl _) (.int .i64 (6 + ((4 : Nat) : Int))) (.string kx) (.string nx) (.slice (some ⟨w11.heap.size,0,none⟩) 1 1) (.slice none 0 0))
          have hX:=Lib.hid (ex_vals (6 + ((4 : Nat) : Int)) kx nx ((hrow13.out).mono ((nex_set5 (q:=gz) (by omega) (.int .i64 (6 + ((4 : Nat) : Int))) (.string kx) (.string nx) (.slice (some ⟨w11.heap.size,0,none⟩) 1 1) (.slice none 0 0)).trans (nex_up _ (show w.heap.size≤w10.heap.size by omega) (fun k hk=>Or.inl hk)))) (fun d hd=>LAt.mono ((nex_set5 (q:=gz) (by omega) (.int .i64 (6 + ((4 : Nat) : Int))) (.string kx) (.string nx) (.slice (some ⟨w11.heap.size,0,none⟩) 1 1) (.slice none 0 0)).trans (nex_up _ (show w.heap.size≤w10.heap.size by omega) (fun k hk=>Or.inl hk))) ((hlat.out) d hd)))
          clear hRB
          go_wp2
          refine bodyPost_ret (v:=.agg #[.int .i64 (6 + ((4 : Nat) : Int)),.string kx,.string nx,.slice (some ⟨w11.heap.size,0,none⟩) 1 1,.slice none 0 0]) (by simp [results,Tryz.results264,go_sem, *]) rfl ?_
          exact Rd.fin hF.out.grown hF.out.st (fun c q hc=>by rw [hall.out c q hc]; exact ⟨_,rfl,hX.out,Nat.le_refl 0⟩) ⟨_,_,rfl,hX.out,Nat.le_refl 0⟩
        · go_wp2_with fail
          refine (text_any hK g o _ s4 (sub_but_grown hMw.out hg9.out) hP9.out).mono ?_
          rintro e w11 hr
          obtain ⟨x,rfl,hx,hxz⟩:=hr.str
          have hz11:=hz9.out.kept hr.1 (by simp; omega)
          have he11:=he10.out.kept hr.1 (by simp; omega)
          have hg11:=g_call hg9.out hr.1
          have hP11:=hr.2.1
          have hB11 : w10.heap.size≤w11.heap.size:=hr.1.size
          obtain ⟨-,-,-,d3,-,-,-,-,df3,-⟩:=own5z he11
          have he11l:=he11.lt
          have hg12:=g_setCell hg11 (p:=⟨ge,3,none⟩) (by simp; omega) (.slice (some ⟨w11.heap.size,0,none⟩) 1 1)
          have hz12:=hz11.setOther (p:=⟨ge,3,none⟩) (by simp; omega) (.slice (some ⟨w11.heap.size,0,none⟩) 1 1)
          have he12 : Own (w11.setCell ⟨ge,3,none⟩ (.slice (some ⟨w11.heap.size,0,none⟩) 1 1)) ge #[.int .i64 (6 + ((5 : Nat) : Int)),.string kx,.string nx,.slice (some ⟨w11.heap.size,0,none⟩) 1 1,.slice none 0 0] 31:=he11.set 3 _
          have hP12:=hP11.set (q:=ge) (i:=3) (by omega) (.slice (some ⟨w11.heap.size,0,none⟩) 1 1)
          have hs12 : (w11.setCell ⟨ge,3,none⟩ (.slice (some ⟨w11.heap.size,0,none⟩) 1 1)).heap.size = w11.heap.size:=by simp
          have hro:=ro_one (e:=76) (sz:=4) (B:=w10.heap.size) (w11.setCell ⟨ge,3,none⟩ (.slice (some ⟨w11.heap.size,0,none⟩) 1 1)) #[.int .i64 3,.int .i64 0,.string x,.slice none 0 0] (by rw [hs12]; omega) rfl
          rw [hs12] at hro
          have hrow:=hro.new (g:=g) (by intro r hr; rw [List.mem_singleton.1 hr]; rfl) (by omega)
          have hlat : ∀ d∈[(⟨3,0,x,none,0,0,[]⟩ : VD)],LAt (nex w10.heap.size [g] ((w11.setCell ⟨ge,3,none⟩ (.slice (some ⟨w11.heap.size,0,none⟩) 1 1)).alloc (.cells #[.int .i64 3,.int .i64 0,.string x,.slice none 0 0] 76))) d:=fun d hd=>by
            obtain rfl:=List.mem_singleton.1 hd
            exact LAt.flat _ 3 0 x (by omega)
          have hg13:=Lib.hid (g_call hg12 (World.grownBy_alloc _ (.cells #[.int .i64 3,.int .i64 0,.string x,.slice none 0 0] 76) (some g)))
          have hz13:=Lib.hid (hz12.alloc (.cells #[.int .i64 3,.int .i64 0,.string x,.slice none 0 0] 76))
          have he13:=Lib.hid (he12.alloc (.cells #[.int .i64 3,.int .i64 0,.string x,.slice none 0 0] 76))
          have hP13:=Lib.hid (hP12.alloc (.cells #[.int .i64 3,.int .i64 0,.string x,.slice none 0 0] 76))
          have hrow13 : Hid (RowsAt (nex w10.heap.size [g] ((w11.setCell ⟨ge,3,none⟩ (.slice (some ⟨w11.heap.size,0,none⟩) 1 1)).alloc (.cells #[.int .i64 3,.int .i64 0,.string x,.slice none 0 0] 76))) 4 (.slice (some ⟨w11.heap.size,0,none⟩) 1 1) ([(⟨3,0,x,none,0,0,[]⟩ : VD)].map VD.row)):=Lib.hid hrow
          replace hlat:=Lib.hid hlat
          have hall:=Lib.hid (hd.out.2 ([(⟨3,0,x,none,0,0,[]⟩ : VD)].map vv) (fun a q h=>by obtain ⟨t,q2,e1,e2⟩:=hq.out.2 a q h; rw [e2,← hx t q2 e1]; rfl))
          have hq1:=Lib.hid ((hq.out).1)
          clear hr hg12 hz12 he12 hP12 hro hrow hg11 hz11 hP11 hx hg9 hz9 he10 hP9 e0 e1 e2 e3 e4
          go_upto_region 20 with fail
          clear d3 df3 he11
          generalize (w11.setCell ⟨ge,3,none⟩ (.slice (some ⟨w11.heap.size,0,none⟩) 1 1)).alloc (.cells #[.int .i64 3,.int .i64 0,.string x,.slice none 0 0] 76) = w13 at hg13 hz13 he13 hP13 hrow13 hlat ⊢
          obtain ⟨y0,y1,y2,y3,y4,-⟩:=own5z he13.out
          have he13l:=he13.out.lt
          have hRB:=RdB.mk' (B:=gz) (St:=fun w s=>PrP T tb to' tc g w o s) (s:=aft (runS s testS)) (hg13.out) (by rw [hd.out.1,hq1.out]; exact hP13.out) hgl hwz
          obtain ⟨z0,z1,z2,z3,z4,f0,f1,f2,f3,f4⟩:=own5z (hz13.out)
          have hzl':=(hz13.out).lt
          have hF:=Lib.hid (hRB.set5 (q:=gz) (Nat.le_refl _) (.int .i64 (6 + ((5 : Nat) : Int))) (.string kx) (.string nx) (.slice (some ⟨w11.heap.size,0,none⟩) 1 1) (.slice none 0 0))
          have hX:=Lib.hid (ex_vals (6 + ((5 : Nat) : Int)) kx nx ((hrow13.out).mono ((nex_set5 (q:=gz) (by omega) (.int .i64 (6 + ((5 : Nat) : Int))) (.string kx) (.string nx) (.slice (some ⟨w11.heap.size,0,none⟩) 1 1) (.slice none 0 0)).trans (nex_up _ (show w.heap.size≤w10.heap.size by omega) (fun k hk=>Or.inl hk)))) (fun d hd=>LAt.mono ((nex_set5 (q:=gz) (by omega) (.int .i64 (6 + ((5 : Nat) : Int))) (.string kx) (.string nx) (.slice (some ⟨w11.heap.size,0,none⟩) 1 1) (.slice none 0 0)).trans (nex_up _ (show w.heap.size≤w10.heap.size by omega) (fun k hk=>Or.inl hk))) ((hlat.out) d hd)))
          clear hRB
          go_wp2
          refine bodyPost_ret (v:=.agg #[.int .i64 (6 + ((5 : Nat) : Int)),.string kx,.string nx,.slice (some ⟨w11.heap.size,0,none⟩) 1 1,.slice none 0 0]) (by simp [results,Tryz.results264,go_sem, *]) rfl ?_
          exact Rd.fin hF.out.grown hF.out.st (fun c q hc=>by rw [hall.out c q hc]; exact ⟨_,rfl,hX.out,Nat.le_refl 0⟩) ⟨_,_,rfl,hX.out,Nat.le_refl 0⟩
      have hq:=aft_one (s:=s4) (f:=valueS) (k:=fun v=>[v]) (a:=argS i) (argS_one h0 h2 h35)
      replace hq:=Lib.hid hq
      have b6 : (6 + (i : Int) == 6) = false:=beq_eq_false_iff_ne.2 (by omega)
      have b8 : (6 + (i : Int) == 8) = false:=beq_eq_false_iff_ne.2 (by omega)
      have b9 : (6 + (i : Int) == 9) = false:=beq_eq_false_iff_ne.2 (by omega)
      have b10 : (6 + (i : Int) == 10) = false:=beq_eq_false_iff_ne.2 (by omega)
      have b11 : (6 + (i : Int) == 11) = false:=beq_eq_false_iff_ne.2 (by omega)
      replace h0:=Lib.hid h0
      replace h2:=Lib.hid h2
      replace h35:=Lib.hid h35
      go_wp2_with fail
      refine (value_any hK g o _ s4 (sub_but_grown hMw.out hg9.out) hP9.out).mono ?_
      rintro e w11 hr
      obtain ⟨x,rfl,hL,hx⟩:=hr.val
      have hz11:=hz9.out.kept hr.1 (by simp; omega)
      have he11:=he10.out.kept hr.1 (by simp; omega)
      have hg11:=g_call hg9.out hr.1
      have hP11:=hr.2.1
      have hB11 : w10.heap.size≤w11.heap.size:=hr.1.size
      obtain ⟨-,-,-,d3,-,-,-,-,df3,-⟩:=own5z he11
      have he11l:=he11.lt
      have hg12:=g_setCell hg11 (p:=⟨ge,3,none⟩) (by simp; omega) (.slice (some ⟨w11.heap.size,0,none⟩) 1 1)
      have hz12:=hz11.setOther (p:=⟨ge,3,none⟩) (by simp; omega) (.slice (some ⟨w11.heap.size,0,none⟩) 1 1)
      have he12 : Own (w11.setCell ⟨ge,3,none⟩ (.slice (some ⟨w11.heap.size,0,none⟩) 1 1)) ge #[.int .i64 (6 + (i : Int)),.string kx,.string nx,.slice (some ⟨w11.heap.size,0,none⟩) 1 1,.slice none 0 0] 31:=he11.set 3 _
      have hP12:=hP11.set (q:=ge) (i:=3) (by omega) (.slice (some ⟨w11.heap.size,0,none⟩) 1 1)
      have hs12 : (w11.setCell ⟨ge,3,none⟩ (.slice (some ⟨w11.heap.size,0,none⟩) 1 1)).heap.size = w11.heap.size:=by simp
      have hro:=ro_one (e:=76) (sz:=4) (B:=w10.heap.size) (w11.setCell ⟨ge,3,none⟩ (.slice (some ⟨w11.heap.size,0,none⟩) 1 1)) #[.int .i64 x.kind,.int .i64 x.num,.string x.text,.slice x.ptr x.len x.cap] (by rw [hs12]; omega) rfl
      rw [hs12] at hro
      have hrow:=hro.new (g:=g) (by intro r hr; rw [List.mem_singleton.1 hr]; rfl) (by omega)
      have hlat : ∀ d∈[x],LAt (nex w10.heap.size [g] ((w11.setCell ⟨ge,3,none⟩ (.slice (some ⟨w11.heap.size,0,none⟩) 1 1)).alloc (.cells #[.int .i64 x.kind,.int .i64 x.num,.string x.text,.slice x.ptr x.len x.cap] 76))) d:=fun d hd=>by
        obtain rfl:=List.mem_singleton.1 hd
        exact hL.mono ((nex_set (q:=ge) (o:=3) (Or.inr hB10) _).trans (nex_grown (World.grownBy_alloc _ _ none) (fun k e=>by cases e)))
      have hg13:=Lib.hid (g_call hg12 (World.grownBy_alloc _ (.cells #[.int .i64 x.kind,.int .i64 x.num,.string x.text,.slice x.ptr x.len x.cap] 76) (some g)))
      have hz13:=Lib.hid (hz12.alloc (.cells #[.int .i64 x.kind,.int .i64 x.num,.string x.text,.slice x.ptr x.len x.cap] 76))
      have he13:=Lib.hid (he12.alloc (.cells #[.int .i64 x.kind,.int .i64 x.num,.string x.text,.slice x.ptr x.len x.cap] 76))
      have hP13:=Lib.hid (hP12.alloc (.cells #[.int .i64 x.kind,.int .i64 x.num,.string x.text,.slice x.ptr x.len x.cap] 76))
      have hrow13 : Hid (RowsAt (nex w10.heap.size [g] ((w11.setCell ⟨ge,3,none⟩ (.slice (some ⟨w11.heap.size,0,none⟩) 1 1)).alloc (.cells #[.int .i64 x.kind,.int .i64 x.num,.string x.text,.slice x.ptr x.len x.cap] 76))) 4 (.slice (some ⟨w11.heap.size,0,none⟩) 1 1) ([x].map VD.row)):=Lib.hid hrow
      replace hlat:=Lib.hid hlat
      have hall:=Lib.hid (hd.out.2 ([x].map vv) (fun a q h=>by obtain ⟨t,q2,e1,e2⟩:=hq.out.2 a q h; rw [e2,← hx t q2 e1]; rfl))
      have hq1:=Lib.hid ((hq.out).1)
      clear hr hg12 hz12 he12 hP12 hro hrow hg11 hz11 hP11 hx hL hg9 hz9 he10 hP9 e0 e1 e2 e3 e4
      go_upto_region 20 with fail
      clear d3 df3 he11
      generalize (w11.setCell ⟨ge,3,none⟩ (.slice (some ⟨w11.heap.size,0,none⟩) 1 1)).alloc (.cells #[.int .i64 x.kind,.int .i64 x.num,.string x.text,.slice x.ptr x.len x.cap] 76) = w13 at hg13 hz13 he13 hP13 hrow13 hlat ⊢
      obtain ⟨y0,y1,y2,y3,y4,-⟩:=own5z he13.out
      have he13l:=he13.out.lt
      have hRB:=RdB.mk' (B:=gz) (St:=fun w s=>PrP T tb to' tc g w o s) (s:=aft (runS s testS)) (hg13.out) (by rw [hd.out.1,hq1.out]; exact hP13.out) hgl hwz
      obtain ⟨z0,z1,z2,z3,z4,f0,f1,f2,f3,f4⟩:=own5z (hz13.out)
      have hzl':=(hz13.out).lt
      have hF:=Lib.hid (hRB.set5 (q:=gz) (Nat.le_refl _) (.int .i64 (6 + (i : Int))) (.string kx) (.string nx) (.slice (some ⟨w11.heap.size,0,none⟩) 1 1) (.slice none 0 0))
      have hX:=Lib.hid (ex_vals (6 + (i : Int)) kx nx ((hrow13.out).mono ((nex_set5 (q:=gz) (by omega) (.int .i64 (6 + (i : Int))) (.string kx) (.string nx) (.slice (some ⟨w11.heap.size,0,none⟩) 1 1) (.slice none 0 0)).trans (nex_up _ (show w.heap.size≤w10.heap.size by omega) (fun k hk=>Or.inl hk)))) (fun d hd=>LAt.mono ((nex_set5 (q:=gz) (by omega) (.int .i64 (6 + (i : Int))) (.string kx) (.string nx) (.slice (some ⟨w11.heap.size,0,none⟩) 1 1) (.slice none 0 0)).trans (nex_up _ (show w.heap.size≤w10.heap.size by omega) (fun k hk=>Or.inl hk))) ((hlat.out) d hd)))
      clear hRB
      go_wp2
      refine bodyPost_ret (v:=.agg #[.int .i64 (6 + (i : Int)),.string kx,.string nx,.slice (some ⟨w11.heap.size,0,none⟩) 1 1,.slice none 0 0]) (by simp [results,Tryz.results264,go_sem, *]) rfl ?_
      exact Rd.fin hF.out.grown hF.out.st (fun c q hc=>by rw [hall.out c q hc]; exact ⟨_,rfl,hX.out,Nat.le_refl 0⟩) ⟨_,_,rfl,hX.out,Nat.le_refl 0⟩
end
end Go.Proofs.YtfffpflflggonaaGreatDoor.src
