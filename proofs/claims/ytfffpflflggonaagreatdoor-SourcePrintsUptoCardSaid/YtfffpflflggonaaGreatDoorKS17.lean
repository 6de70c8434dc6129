/- The program's parser: texts, values. The program's parser: a value. The program's parser: values. -/
import Derived.Test.YtfffpflflggonaaGreatDoorKS60
import Derived.Test.YtfffpflflggonaaGreatDoorKS16
namespace Go.Proofs.YtfffpflflggonaaGreatDoor.src
open Go.RowKit lex value text schema draw clause
theorem Rd.str {g : Nat} {St : World→PS→Prop} {w : World} {r : R Tok} {e : Ending} {w' : World} (h : Rd g St w StrIs r e w') : ∃ x : ByteArray,e = .returned (.string x)∧(∀ t ts,r = .ok (t,ts)→x.data.toList = t.t)∧x.size≤30000:=by
  obtain ⟨h1,h2,h3⟩:=h
  cases r with
  | error q=>obtain ⟨a,h3,h4⟩:=h3; exact ⟨_,h3,fun t ts e=>by (cases e),(show a.t.toArray.size≤30000 by simpa using h4)⟩
  | ok v=>obtain ⟨t,ts⟩:=v; exact ⟨_,h3.1,fun t' ts' e=>by (injection e with e; injection e with e1 e2; rw [← e1]),(show t.t.toArray.size≤30000 by simpa using h3.2)⟩
theorem strRows_len (ds : List ByteArray) : ∀ r∈ds.map strRow,r.length = 1:=fun r hr=>by obtain ⟨d,-,rfl⟩:=List.mem_map.1 hr; rfl
theorem strRow_one (x : ByteArray) : ∀ u∈([[Value.string x]] : List (List Value)).flatten,u.oneCell' = true:=fun u hu=>by
  simp at hu
  rw [hu]
  rfl
def runT (L : List (List UInt8)) (s : PS) : R (List (List UInt8)):=runS s (contT L)
section
variable {M : Mem} {T : List Tok} {tb to' tc : Nat}
set_option maxRecDepth 100000 in
set_option maxHeartbeats 8000000 in
theorem texts_any (hK : TokM M T tb to' tc) (g o : Nat) (w : World) (s : PS) (hM : Sub M (but g w)) (h : PrP T tb to' tc g w o s) :
    Calls Tryz.prog 138 #[.pointer (some ⟨g,0,none⟩)] w (Rd g (fun w s=>PrP T tb to' tc g w o s) w (TxtsIs w.heap.size g) (runS s textsS)):=by
  have hgl:=h.lt
  have hlen : lenP s≤30001:=by rw [← h.left]; unfold leftW; have:=hK.few; split <;> omega
  replace hM:=Lib.hid hM
  obtain ⟨r0,hr0⟩ : ∃ r,Hid (r = runS s textsS):=⟨_,Lib.hid rfl⟩
  rw [← hr0.out]
  go_enter Tryz.func138,Tryz.ntmps138
  go_wp2_with fail
  refine (text_any hK g o _ s hM.out h).mono ?_
  rintro e w1 hr
  obtain ⟨x,rfl,hx,-⟩:=hr.str
  have hg1:=hr.1
  have hP1:=hr.2.1
  have hz1 : w.heap.size≤w1.heap.size:=hg1.size
  have hg2:=Lib.hid (g_call hg1 (World.grownBy_alloc w1 (.cells #[.string x] 9) (some g)))
  have hP2:=Lib.hid (hP1.alloc (.cells #[.string x] 9))
  have hR2:=Lib.hid (ro_one (e:=9) w1 #[.string x] (B:=w.heap.size) hz1 rfl)
  have hr1 : r0 = runT (lsL [x]) (aft (runS s (takeS 3))):=by
    rw [hr0.out]
    cases s with
    | error e=>rfl
    | ok ts =>
      show textsS ts = runT (lsL [x]) (aft (takeS 3 ts))
      rw [texts_cont]
      cases ht : takeS 3 ts with
      | error q=>rfl
      | ok v =>
        obtain ⟨t,ts'⟩:=v
        have:=hx t ts' ht
        rw [bnd_ok,← this]
        rfl
  replace hr1:=Lib.hid hr1
  have hn1 : 1 + lenP (aft (runS s (takeS 3)))≤30001:=by
    cases s with
    | error e=>show 1 + 0≤_; omega
    | ok ts =>
      show 1 + lenP (aft (takeS 3 ts))≤_
      have hl : ts.length≤30001:=hlen
      cases ht : takeS 3 ts with
      | error q=>show 1 + 0≤_; omega
      | ok v =>
        obtain ⟨t,ts'⟩:=v
        have:=shr_take 3 _ _ _ ht
        show 1 + ts'.length≤_
        omega
  clear hr hx hg1 hP1 h
  generalize aft (runS s (takeS 3)) = s1 at hP2 hr1 hn1
  go_wp2
  go_loopw [3] (fun s3 wr=>∃ (s' : PS) (ds : List ByteArray),0 < ds.length∧Hid (RO 9 1 w.heap.size s3 (ds.map strRow) wr)∧Hid (w.grownBy wr (some g))∧Hid (PrP T tb to' tc g wr o s')∧Hid (r0 = runT (lsL ds) s')∧ds.length + lenP s'≤30001) (fun _ wr=>leftW T.length g wr)
  case atStart=>exact ⟨s1,[x],by simp,hR2,hg2,hP2,hr1,hn1⟩
  case round =>
    clear hR2 hg2 hP2 hr1 hn1
    obtain ⟨s',ds,hd0,hR,hg,hP,hr,hn⟩:=hrel
    obtain ⟨va,vc,hv⟩:=ro_form hR.out (strRows_len ds)
    rw [List.length_map] at hv
    subst hv
    have hgz : w.heap.size≤wr.heap.size:=hg.out.size
    go_wp2_with fail
    refine (accept_any hK g o _ s' (sub_but_grown hM.out hg.out) hP.out ⟨#[44]⟩).mono ?_
    rintro e w2 ⟨rfl,hga,hPa⟩
    have hzz : wr.heap.size≤w2.heap.size:=hga.size
    have hRa:=Lib.hid (hR.out.kept hga (fun y e=>by cases e; exact hgl))
    have hgb:=Lib.hid (g_call hg.out hga)
    cases hx : isP [44] s' with
    | false =>
      have hx' : isP (⟨#[44]⟩ : ByteArray).data.toList s' = false:=hx
      have hQ:=Lib.hid (show ∀ v,v = Value.slice va ds.length vc→Rd g (fun w s=>PrP T tb to' tc g w o s) w (TxtsIs w.heap.size g) r0 (.returned v) w2 from fun v hv=>by
        have hT : TxtsIs w.heap.size g (lsL ds) (.returned v) w2:=⟨va,_,vc,ds,by rw [hv],hRa.out.new (strRows_len ds) hgl,rfl,by omega⟩
        have hP3 : PrP T tb to' tc g w2 o s':=by rw [← pastP_no hx']; exact hPa
        rw [hr.out]
        cases s' with
        | error e=>exact Rd.err hgb.out hP3 _ hT
        | ok ts =>
          rw [show runT (lsL ds) (.ok ts) = .ok (lsL ds,ts) from contT_end _ _ hx]
          exact Rd.ok hgb.out hP3 hT)
      clear hPa hga hRa hgb hx hx' hR hg hP hr
      go_wp2
      go_ret
      exact hQ.out _ rfl
    | true =>
      cases s' with
      | error e=>cases hx
      | ok ts =>
        have hP3 : PrP T tb to' tc g w2 o (.ok ts.tail):=by
          have e1 : pastP (⟨#[44]⟩ : ByteArray).data.toList (.ok ts) = .ok ts.tail:=if_pos hx
          rw [← e1]
          exact hPa
        have hst : r0 = bnd (takeS 3 ts.tail) fun t r=>contT (lsL ds ++ [t.t]) r:=by rw [hr.out]; exact contT_step _ _ hx
        have hlt : ts.tail.length < ts.length:=by
          cases ts with
          | nil=>cases hx
          | cons t q=>simp
        have hlw : leftW T.length g wr = ts.length:=hP.out.left
        replace hst:=Lib.hid hst
        replace hlt:=Lib.hid hlt
        replace hlw:=Lib.hid hlw
        have hn':=Lib.hid (show ds.length + ts.length≤30001 from hn)
        have hdl : ds.length≤30001:=by omega
        clear hPa hga hR hg hP hr hx hn
        go_wp2_with fail
        refine (text_any hK g o _ (.ok ts.tail) (sub_but_grown hM.out hgb.out) hP3).mono ?_
        rintro e w3 hr
        obtain ⟨x',rfl,hx',-⟩:=hr.str
        have hg3:=g_call hgb.out hr.1
        have hP4 : PrP T tb to' tc g w3 o (aft (takeS 3 ts.tail)):=hr.2.1
        have hz3 : w.heap.size≤w3.heap.size:=hg3.size
        have hR3:=(hRa.out.kept hr.1 (fun y e=>by cases e; exact hgl)).below ((Below.refl w3.heap.size w3).alloc (Nat.le_refl _) (.cells #[.string x'] 9))
        have hrow:=lit_rows (sz:=1) (w:=w3.alloc (.cells #[.string x'] 9)) (g:=w3.heap.size) (cs:=[.string x']) (fun j=>by rw [(Own.new w3 #[.string x'] 9).cell j]; simp)
        have hr4 : r0 = runT (lsL (ds ++ [x'])) (aft (takeS 3 ts.tail)):=by
          rw [hst.out]
          cases ht : takeS 3 ts.tail with
          | error q=>rfl
          | ok v =>
            obtain ⟨t,ts'⟩:=v
            have:=hx' t ts' ht
            rw [bnd_ok,← this]
            show contT _ _ = contT _ _
            rw [show lsL (ds ++ [x']) = lsL ds ++ [x'.data.toList] by simp [lsL]]
        have hn4 : (ds ++ [x']).length + lenP (aft (takeS 3 ts.tail))≤30001∧lenP (aft (takeS 3 ts.tail)) < ts.length:=by
          have h1:=hlt.out
          have h2:=hn'.out
          rw [List.length_append,List.length_singleton]
          cases ht : takeS 3 ts.tail with
          | error q=>show ds.length + 1 + 0≤_∧0 < _; omega
          | ok v =>
            obtain ⟨t,ts'⟩:=v
            have:=shr_take 3 _ _ _ ht
            show ds.length + 1 + ts'.length≤_∧ts'.length < _
            omega
        replace hR3:=Lib.hid hR3
        replace hrow:=Lib.hid hrow
        replace hr4:=Lib.hid hr4
        replace hn4:=Lib.hid hn4
        have hg4:=Lib.hid (g_call hg3 (World.grownBy_alloc w3 (.cells #[.string x'] 9) (some g)))
        have hP5:=Lib.hid (hP4.alloc (.cells #[.string x'] 9))
        clear hr hx' hst hg3 hP4 hP3
        generalize aft (takeS 3 ts.tail) = s4 at hr4 hn4 hP5
        go_wp2_with (at_builtin; refine wpList_append_str rfl _ _ rfl w.heap.size va ds.length vc (ds.map strRow) rfl hR3.out (strRows_len ds) (by rw [List.length_map]) _ 1 1 [[.string x']] rfl hrow.out (by simp) (strRow_one x') (by omega) (by simp; omega) ?_; intro va' vc' w5 hR5 hn5 hg5 hat5; replace hR5:=Lib.hid hR5; replace hg5:=Lib.hid hg5; clear hn5 hat5)
        have hown:=hR3.out.out.lt
        have hg6:=Lib.hid (g_own hg4.out hg5.out (fun i e=>(hown i e).1))
        have hP6:=Lib.hid (hP5.out.kept hg5.out (fun e=>by have:=(hown g e).1; omega))
        go_roundw
        case rel=>exact ⟨s4,ds ++ [x'],by simp,by rw [List.map_append]; exact hR5,hg6,hP6,hr4,hn4.out.1⟩
        case measure=>rw [hP6.out.left,hlw.out]; exact hn4.out.2
end
end Go.Proofs.YtfffpflflggonaaGreatDoor.src
namespace Go.Proofs.YtfffpflflggonaaGreatDoor.src
open Go.RowKit lex value text schema draw clause
theorem val_flat (B g : Nat) (w : World) (k n : Int) (x : ByteArray) (hx : x.size≤30000) : ValIs B g ⟨k,n,x.data.toList,[]⟩ (.returned (.agg #[.int .i64 k,.int .i64 n,.string x,.slice none 0 0])) w :=
  ⟨⟨k,n,x,none,0,0,[]⟩,rfl,LAt.flat _ k n x (by omega),rfl⟩
theorem Rd.num {g : Nat} {St : World→PS→Prop} {w : World} {r : R Tok} {e : Ending} {w' : World} (h : Rd g St w NumIs r e w') : ∃ n : Int,e = .returned (.int .i64 n)∧∀ t ts,r = .ok (t,ts)→n = t.n:=by
  obtain ⟨h1,h2,h3⟩:=h
  cases r with
  | error q=>obtain ⟨a,h3⟩:=h3; exact ⟨_,h3,fun t ts e=>by cases e⟩
  | ok v=>obtain ⟨t,ts⟩:=v; exact ⟨_,h3,fun t' ts' e=>by injection e with e; injection e with e1 e2; rw [← e1]⟩
theorem valueS_true {t : Tok} {r : List Tok} (h : isT sTrue t = true) : valueS (t :: r) = .ok (⟨1,1,[],[]⟩,r):=by rw [valueS.eq_def]; simp only; rw [if_pos h]
theorem valueS_false {t : Tok} {r : List Tok} (h : isT sTrue t = false) (h2 : isT sFalse t = true) : valueS (t :: r) = .ok (⟨1,0,[],[]⟩,r):=by rw [valueS.eq_def]; simp only; rw [if_neg (by rw [h]; decide),if_pos h2]
theorem valueS_num {t : Tok} {r : List Tok} (h : isT sTrue t = false) (h2 : isT sFalse t = false) (hk : t.k = 2) : valueS (t :: r) = bnd (takeS 2 (t :: r)) fun u q=>.ok (⟨2,u.n,[],[]⟩,q):=by
  rw [valueS.eq_def]; simp only; rw [if_neg (by rw [h]; decide),if_neg (by rw [h2]; decide),if_pos hk,takeS,if_pos hk]; rfl
theorem valueS_text {t : Tok} {r : List Tok} (h : isT sTrue t = false) (h2 : isT sFalse t = false) (hk : t.k = 3) : valueS (t :: r) = bnd (takeS 3 (t :: r)) fun u q=>.ok (⟨3,0,u.t,[]⟩,q):=by
  rw [valueS.eq_def]; simp only; rw [if_neg (by rw [h]; decide),if_neg (by rw [h2]; decide),if_neg (by omega),if_pos hk,takeS,if_pos hk]; rfl
theorem valueS_ver {t : Tok} {r : List Tok} (h : isT sTrue t = false) (h2 : isT sFalse t = false) (hk : t.k = 4) : valueS (t :: r) = bnd (takeS 4 (t :: r)) fun u q=>.ok (⟨4,0,u.t,[]⟩,q):=by
  rw [valueS.eq_def]; simp only; rw [if_neg (by rw [h]; decide),if_neg (by rw [h2]; decide),if_neg (by omega),if_neg (by omega),if_pos hk,takeS,if_pos hk]; rfl
def listS (ts : List Tok) : R VV :=
  match ts with
  | []=>.error (1,0)
  | u :: _=>if u.k = 3 then bnd (textsS ts) fun l r'=>bnd (needS sRb r') fun _ r''=>.ok (⟨5,0,[],l⟩,r'') else bnd (needS sRb ts) fun _ r''=>.ok (⟨5,0,[],[]⟩,r'')
theorem valueS_list {t : Tok} {r : List Tok} (h : isT sTrue t = false) (h2 : isT sFalse t = false) (hk : t.k ≠ 2∧t.k ≠ 3∧t.k ≠ 4) : valueS (t :: r) = bnd (needS sLb (t :: r)) fun _ q=>listS q:=by
  rw [valueS.eq_def]; simp only
  rw [if_neg (by rw [h]; decide),if_neg (by rw [h2]; decide),if_neg hk.1,if_neg hk.2.1,if_neg hk.2.2,needS]
  split
  · rw [bnd_ok]
    unfold listS
    rfl
  · rfl
theorem Rd.none {g : Nat} {St : World→PS→Prop} {w : World} {r : R Unit} {e : Ending} {w' : World} (h : Rd g St w NoneIs r e w') : e = .returned (.tuple #[]):=by
  obtain ⟨h1,h2,h3⟩:=h
  cases r with
  | error q=>obtain ⟨a,h3⟩:=h3; exact h3
  | ok v=>exact h3
theorem Rd.txts {g B : Nat} {St : World→PS→Prop} {w : World} {r : R (List (List UInt8))} {e : Ending} {w' : World} (h : Rd g St w (TxtsIs B g) r e w') : ∃ (a : Option Addr) (n c : Nat) (ds : List ByteArray),e = .returned (.slice a n c)∧RowsAt (nex B [g] w') 1 (.slice a n c) (ds.map strRow)∧ds.length≤30001∧∀ l q,r = .ok (l,q)→lsL ds = l:=by
  obtain ⟨h1,h2,h3⟩:=h
  cases r with
  | error q=>obtain ⟨l,a,n,c,ds,h4,h5,h6,h7⟩:=h3; exact ⟨a,n,c,ds,h4,h5,h7,fun l q e=>by cases e⟩
  | ok v=>obtain ⟨a,n,c,ds,h4,h5,h6,h7⟩:=h3; exact ⟨a,n,c,ds,h4,h5,h7,fun l q e=>by injection e with e; rw [h6,e]⟩
theorem okHead {s : PS} {t : Tok} (hne : ∀ ts,s = .ok ts→ts ≠ []) (ht : t = headS s) (hk : t.k ≠ 0) : ∃ q,s = .ok (t :: q):=by
  cases s with
  | error e=>exact absurd (by rw [ht]; rfl) hk
  | ok ts =>
    cases ts with
    | nil=>exact absurd rfl (hne _ rfl)
    | cons u q=>exact ⟨q,by rw [ht]; rfl⟩
section
variable {M : Mem} {T : List Tok} {tb to' tc : Nat}
set_option maxRecDepth 100000 in
set_option maxHeartbeats 8000000 in
theorem value_any (hK : TokM M T tb to' tc) (g o : Nat) (w : World) (s : PS) (hM : Sub M (but g w)) (h : PrP T tb to' tc g w o s) :
    Calls Tryz.prog 209 #[.pointer (some ⟨g,0,none⟩)] w (Rd g (fun w s=>PrP T tb to' tc g w o s) w (ValIs w.heap.size g) (runS s valueS)):=by
  have hgl:=h.lt
  have hne : Hid (∀ ts,s = .ok ts→ts ≠ []):=Lib.hid fun ts e=>by subst e; exact h.ne
  have hz:=Lib.hid (Own.new w #[.int .i64 0,.int .i64 0,.string ⟨#[]⟩,.slice none 0 0] 76)
  have h0:=Lib.hid (h.alloc (.cells #[.int .i64 0,.int .i64 0,.string ⟨#[]⟩,.slice none 0 0] 76))
  have hg0:=Lib.hid (World.grownBy_alloc w (.cells #[.int .i64 0,.int .i64 0,.string ⟨#[]⟩,.slice none 0 0] 76) (some g))
  have hM0:=Lib.hid (sub_but_grown hM hg0.out)
  have hMw:=Lib.hid hM
  clear h hM
  go_enter Tryz.func209,Tryz.ntmps209
  go_wp2_with fail
  generalize w.alloc (.cells #[.int .i64 0,.int .i64 0,.string ⟨#[]⟩,.slice none 0 0] 76) = w0 at hz h0 hg0 hM0 ⊢
  obtain ⟨gz,hgz⟩ : ∃ z : Nat,Hid (z = w.heap.size):=⟨_,Lib.hid rfl⟩
  rw [← hgz.out] at hz ⊢
  have hwz : w.heap.size≤gz:=Nat.le_of_eq hgz.out.symm
  refine (peek_any hK g o _ s hM0.out h0.out).mono ?_
  rintro e w1 ⟨rfl,hb⟩
  rw [row_arr]
  obtain ⟨t,ht⟩ : ∃ t,Hid (t = headS s):=⟨_,Lib.hid rfl⟩
  rw [← ht.out]
  have hba : Below w0.heap.size w0 (w1.alloc (.cells #[.int .i64 t.k,.string ⟨t.t.toArray⟩,.int .i64 t.n,.int .i64 t.line] 61)):=hb.alloc hb.size _
  have h2:=Lib.hid (h0.out.below hba)
  have hz2:=Lib.hid (hz.out.below hba hz.out.lt)
  have ht2:=Lib.hid (Own.new w1 #[.int .i64 t.k,.string ⟨t.t.toArray⟩,.int .i64 t.n,.int .i64 t.line] 61)
  have hg2:=Lib.hid (g_below hg0.out hba)
  have hM2:=Lib.hid (sub_but_below hM0.out hba)
  have hzl : gz < w1.heap.size:=Nat.lt_of_lt_of_le hz.out.lt hb.size
  clear hba hb h0 hz hM0 hg0
  go_upto_region 2 with fail
  generalize w1.alloc (.cells #[.int .i64 t.k,.string ⟨t.t.toArray⟩,.int .i64 t.n,.int .i64 t.line] 61) = w2 at h2 hz2 ht2 hg2 hM2 ⊢
  obtain ⟨gt,hgt⟩ : ∃ z : Nat,Hid (z = w1.heap.size):=⟨_,Lib.hid rfl⟩
  rw [← hgt.out] at ht2 hzl ⊢
  have hgg : g < gt:=by omega
  go_wp2_with fail
  refine (accept_any hK g o _ s hM2.out h2.out ⟨#[116,114,117,101]⟩).mono ?_
  rintro e w3 ⟨rfl,hga,hPa⟩
  have hz3:=Lib.hid (hz2.out.kept hga (by simp; omega))
  have ht3:=Lib.hid (ht2.out.kept hga (by simp; omega))
  have hg3:=Lib.hid (g_call hg2.out hga)
  have hM3:=Lib.hid (sub_but_grown hM2.out hga)
  have hwz3 : w.heap.size≤w3.heap.size:=hg3.out.size
  clear hz2 ht2 hg2 hM2 h2
  cases hx : isP sTrue s with
  | true =>
    have hx' : isP (⟨#[116,114,117,101]⟩ : ByteArray).data.toList s = true:=hx
    cases s with
    | error e=>cases hx
    | ok ts =>
      cases ts with
      | nil=>cases hx
      | cons u q =>
        have e1 : pastP (⟨#[116,114,117,101]⟩ : ByteArray).data.toList (.ok (u :: q)) = .ok q:=if_pos hx
        rw [e1] at hPa
        have hRB:=RdB.mk' (B:=gz) (St:=fun w s=>PrP T tb to' tc g w o s) hg3.out hPa hgl hwz
        have hv:=Lib.hid (valueS_true (r:=q) (show isT sTrue u = true from hx))
        rw [show isP (⟨#[116,114,117,101]⟩ : ByteArray).data.toList (.ok (u :: q)) = true from hx]
        clear hPa hga hx hx' e1
        obtain ⟨z0,z1,z2,z3,f0,f1,f2,f3⟩:=own4z hz3.out
        have hzl:=(hz3.out).lt
        have hF:=Lib.hid (hRB.set4 (q:=gz) (Nat.le_refl _) (.int .i64 1) (.int .i64 1) (.string ⟨#[]⟩) (.slice none 0 0))
        go_wp2
        refine bodyPost_ret (v:=.agg #[.int .i64 1,.int .i64 1,.string ⟨#[]⟩,.slice none 0 0]) (by simp [results,Tryz.results209,go_sem, *]) rfl ?_
        exact (show Rd _ _ _ _ (valueS (u :: q)) _ _ from by rw [hv.out]; exact Rd.ok hF.out.grown hF.out.st (val_flat _ _ _ 1 1 ⟨#[]⟩ (by decide)))
  | false =>
    have hP4 : PrP T tb to' tc g w3 o s:=by rw [← pastP_no (x:=(⟨#[116,114,117,101]⟩ : ByteArray).data.toList) hx]; exact hPa
    replace hP4:=Lib.hid hP4
    have hx1:=Lib.hid hx
    clear hPa hga
    rw [show isP (⟨#[116,114,117,101]⟩ : ByteArray).data.toList s = false from hx]
    clear hx
    go_wp2_with fail
    refine (accept_any hK g o _ s hM3.out hP4.out ⟨#[102,97,108,115,101]⟩).mono ?_
    rintro e w4 ⟨rfl,hga,hPa⟩
    have hz4:=Lib.hid (hz3.out.kept hga (by simp; omega))
    have ht4:=Lib.hid (ht3.out.kept hga (by simp; omega))
    have hg4:=Lib.hid (g_call hg3.out hga)
    have hM4:=Lib.hid (sub_but_grown hM3.out hga)
    have hwz4 : w.heap.size≤w4.heap.size:=hg4.out.size
    clear hz3 ht3 hg3 hM3 hP4
    cases hx : isP sFalse s with
    | true =>
      cases s with
      | error e=>cases hx
      | ok ts =>
        cases ts with
        | nil=>cases hx
        | cons u q =>
          have e1 : pastP (⟨#[102,97,108,115,101]⟩ : ByteArray).data.toList (.ok (u :: q)) = .ok q:=if_pos hx
          rw [e1] at hPa
          have hRB:=RdB.mk' (B:=gz) (St:=fun w s=>PrP T tb to' tc g w o s) hg4.out hPa hgl hwz
          have hv:=Lib.hid (valueS_false (r:=q) (show isT sTrue u = false from hx1.out) (show isT sFalse u = true from hx))
          rw [show isP (⟨#[102,97,108,115,101]⟩ : ByteArray).data.toList (.ok (u :: q)) = true from hx]
          clear hPa hga hx e1 hx1
          obtain ⟨z0,z1,z2,z3,f0,f1,f2,f3⟩:=own4z hz4.out
          have hzl:=(hz4.out).lt
          have hF:=Lib.hid (hRB.set4 (q:=gz) (Nat.le_refl _) (.int .i64 1) (.int .i64 0) (.string ⟨#[]⟩) (.slice none 0 0))
          go_wp2
          refine bodyPost_ret (v:=.agg #[.int .i64 1,.int .i64 0,.string ⟨#[]⟩,.slice none 0 0]) (by simp [results,Tryz.results209,go_sem, *]) rfl ?_
          exact (show Rd _ _ _ _ (valueS (u :: q)) _ _ from by rw [hv.out]; exact Rd.ok hF.out.grown hF.out.st (val_flat _ _ _ 1 0 ⟨#[]⟩ (by decide)))
    | false =>
      have hP5 : PrP T tb to' tc g w4 o s:=by rw [← pastP_no (x:=(⟨#[102,97,108,115,101]⟩ : ByteArray).data.toList) hx]; exact hPa
      replace hP5:=Lib.hid hP5
      have hx2:=Lib.hid hx
      clear hPa hga
      rw [show isP (⟨#[102,97,108,115,101]⟩ : ByteArray).data.toList s = false from hx]
      clear hx
      obtain ⟨t0,-⟩:=own4z ht4.out
      by_cases hk2 : t.k = 2
      case pos =>
        obtain ⟨q,rfl⟩:=okHead hne.out ht.out (by rw [hk2]; decide)
        have hv:=Lib.hid (valueS_num (t:=t) (r:=q) hx1.out hx2.out hk2)
        have hkb : (t.k == 2) = true:=by rw [hk2]; rfl
        replace hk2:=Lib.hid hk2
        go_wp2_with fail
        refine (number_any hK g o _ (.ok (t :: q)) hM4.out hP5.out).mono ?_
        rintro e w5 hr
        obtain ⟨n,rfl,hn⟩:=hr.num
        replace hn:=Lib.hid hn
        have hz5:=hz4.out.kept hr.1 (by simp; omega)
        have hRB:=RdB.mk' (B:=gz) (St:=fun w s=>PrP T tb to' tc g w o s) (g_call hg4.out hr.1) hr.2.1 hgl hwz
        clear hr t0
        obtain ⟨z0,z1,z2,z3,f0,f1,f2,f3⟩:=own4z hz5
        have hzl:=(hz5).lt
        have hF:=Lib.hid (hRB.set4 (q:=gz) (Nat.le_refl _) (.int .i64 2) (.int .i64 n) (.string ⟨#[]⟩) (.slice none 0 0))
        go_wp2
        refine bodyPost_ret (v:=.agg #[.int .i64 2,.int .i64 n,.string ⟨#[]⟩,.slice none 0 0]) (by simp [results,Tryz.results209,go_sem, *]) rfl ?_
        exact (show Rd _ _ _ _ (valueS (t :: q)) _ _ from by
          have hv4:=fun (B : Nat) (W : World)=>val_flat B g W 2 n ⟨#[]⟩ (by decide)
          rw [hv.out]
          refine Rd.fin hF.out.grown (by rw [aft_map]; exact hF.out.st) (fun c q' hc=>?_) ⟨_,hv4 _ _⟩
          obtain ⟨a,r1,h1,h2⟩:=bnd_inv hc
          injection h2 with h2
          injection h2 with h2 h3
          rw [← h2,← hn.out a r1 h1]
          exact hv4 _ _)
      by_cases hk3 : t.k = 3
      case pos =>
        obtain ⟨q,rfl⟩:=okHead hne.out ht.out (by rw [hk3]; decide)
        have hv:=Lib.hid (valueS_text (t:=t) (r:=q) hx1.out hx2.out hk3)
        have hkb : (t.k == 3) = true:=by rw [hk3]; rfl
        have hkb2 : (t.k == 2) = false:=by rw [hk3]; rfl
        replace hk3:=Lib.hid hk3
        go_wp2_with fail
        refine (text_any hK g o _ (.ok (t :: q)) hM4.out hP5.out).mono ?_
        rintro e w5 hr
        obtain ⟨x,rfl,hn,hxz⟩:=hr.str
        replace hn:=Lib.hid hn
        have hz5:=hz4.out.kept hr.1 (by simp; omega)
        have hRB:=RdB.mk' (B:=gz) (St:=fun w s=>PrP T tb to' tc g w o s) (g_call hg4.out hr.1) hr.2.1 hgl hwz
        clear hr t0
        obtain ⟨z0,z1,z2,z3,f0,f1,f2,f3⟩:=own4z hz5
        have hzl:=(hz5).lt
        have hF:=Lib.hid (hRB.set4 (q:=gz) (Nat.le_refl _) (.int .i64 3) (.int .i64 0) (.string x) (.slice none 0 0))
        go_wp2
        refine bodyPost_ret (v:=.agg #[.int .i64 3,.int .i64 0,.string x,.slice none 0 0]) (by simp [results,Tryz.results209,go_sem, *]) rfl ?_
        exact (show Rd _ _ _ _ (valueS (t :: q)) _ _ from by
          have hv4:=fun (B : Nat) (W : World)=>val_flat B g W 3 0 x hxz
          rw [hv.out]
          refine Rd.fin hF.out.grown (by rw [aft_map]; exact hF.out.st) (fun c q' hc=>?_) ⟨_,hv4 _ _⟩
          obtain ⟨a,r1,h1,h2⟩:=bnd_inv hc
          injection h2 with h2
          injection h2 with h2 h3
          rw [← h2,← hn.out a r1 h1]
          exact hv4 _ _)
      by_cases hk4 : t.k = 4
      case pos =>
        obtain ⟨q,rfl⟩:=okHead hne.out ht.out (by rw [hk4]; decide)
        have hv:=Lib.hid (valueS_ver (t:=t) (r:=q) hx1.out hx2.out hk4)
        have hkb : (t.k == 4) = true:=by rw [hk4]; rfl
        have hkb2 : (t.k == 2) = false:=by rw [hk4]; rfl
        have hkb3 : (t.k == 3) = false:=by rw [hk4]; rfl
        replace hk4:=Lib.hid hk4
        go_wp2_with fail
        refine (take_any hK g o _ (.ok (t :: q)) hM4.out hP5.out 4 (by decide) (by decide)).mono ?_
        rintro e w5 hr
        obtain ⟨t5,rfl,hxz,hn⟩:=hr.tok2
        replace hn:=Lib.hid hn
        have hz5:=hz4.out.kept hr.1 (by simp; omega)
        have hRB:=RdB.mk' (B:=gz) (St:=fun w s=>PrP T tb to' tc g w o s) (g_call hg4.out hr.1) hr.2.1 hgl hwz
        have hfd:=field_tok1 t5.k t5.n t5.line ⟨t5.t.toArray⟩
        clear hr t0
        obtain ⟨z0,z1,z2,z3,f0,f1,f2,f3⟩:=own4z hz5
        have hzl:=(hz5).lt
        have hF:=Lib.hid (hRB.set4 (q:=gz) (Nat.le_refl _) (.int .i64 4) (.int .i64 0) (.string ⟨t5.t.toArray⟩) (.slice none 0 0))
        go_wp2
        refine bodyPost_ret (v:=.agg #[.int .i64 4,.int .i64 0,.string ⟨t5.t.toArray⟩,.slice none 0 0]) (by simp [results,Tryz.results209,go_sem, *]) rfl ?_
        exact (show Rd _ _ _ _ (valueS (t :: q)) _ _ from by
          have hv4:=fun (B : Nat) (W : World)=>val_flat B g W 4 0 ⟨t5.t.toArray⟩ (show t5.t.toArray.size≤30000 by simpa using hxz)
          rw [hv.out]
          refine Rd.fin hF.out.grown (by rw [aft_map]; exact hF.out.st) (fun c q' hc=>?_) ⟨_,hv4 _ _⟩
          obtain ⟨a,r1,h1,h2⟩:=bnd_inv hc
          injection h2 with h2
          injection h2 with h2 h3
          rw [← h2,← hn.out a r1 h1]
          exact hv4 _ _)
      have hl0:=Lib.hid (show runS s valueS = bnd (runS s (needS sLb)) fun _ q=>listS q by
        cases s with
        | error e=>rfl
        | ok ts =>
          cases ts with
          | nil=>exact absurd rfl (hne.out _ rfl)
          | cons u q =>
            have hu : t = u:=ht.out
            exact valueS_list (t:=u) (r:=q) hx1.out hx2.out (by rw [← hu]; exact ⟨hk2,hk3,hk4⟩))
      have hkb2 : (t.k == 2) = false:=by simpa using hk2
      have hkb3 : (t.k == 3) = false:=by simpa using hk3
      have hkb4 : (t.k == 4) = false:=by simpa using hk4
      clear hk2 hk3 hk4
      go_wp2_with fail
      refine (expect_any hK g o _ s hM4.out hP5.out ⟨#[91]⟩).mono ?_
      rintro e w5 ⟨hga,hP6,hr⟩
      have he : e = .returned (.tuple #[]):=Rd.none (St:=fun w s=>PrP T tb to' tc g w o s) ⟨hga,hP6,hr⟩
      subst he
      have hz5:=Lib.hid (hz4.out.kept hga (by simp; omega))
      have hg5:=Lib.hid (g_call hg4.out hga)
      have hM5:=Lib.hid (sub_but_grown hM4.out hga)
      have hwz5 : w.heap.size≤w5.heap.size:=hg5.out.size
      have hl1:=Lib.hid (show runS s valueS = runS (aft (runS s (needS sLb))) listS by
        rw [hl0.out]
        cases runS s (needS sLb) <;> rfl)
      replace hP6 : PrP T tb to' tc g w5 o (aft (runS s (needS sLb))):=hP6
      clear hr hga hz4 ht4 hg4 hM4 hP5 hl0 t0 hkb2 hkb3 hkb4
      generalize aft (runS s (needS sLb)) = s5 at hP6 hl1
      have hv6:=Lib.hid (Own.new w5 #[.int .i64 5,.int .i64 0,.string ⟨#[]⟩,.slice none 0 0] 76)
      have hz6:=Lib.hid (hz5.out.alloc (.cells #[.int .i64 5,.int .i64 0,.string ⟨#[]⟩,.slice none 0 0] 76))
      have hg6:=Lib.hid (g_call hg5.out (World.grownBy_alloc w5 (.cells #[.int .i64 5,.int .i64 0,.string ⟨#[]⟩,.slice none 0 0] 76) (some g)))
      have hM6:=Lib.hid (sub_but_grown hM5.out (World.grownBy_alloc w5 (.cells #[.int .i64 5,.int .i64 0,.string ⟨#[]⟩,.slice none 0 0] 76) (some g)))
      have hP7:=Lib.hid (hP6.alloc (.cells #[.int .i64 5,.int .i64 0,.string ⟨#[]⟩,.slice none 0 0] 76))
      have hzv : gz < w5.heap.size:=hz5.out.lt
      have hne5 : Hid (∀ ts,s5 = .ok ts→ts ≠ []):=Lib.hid fun ts e=>by subst e; exact hP6.ne
      clear hz5 hg5 hM5 hP6
      go_upto_region 14 with fail
      generalize w5.alloc (.cells #[.int .i64 5,.int .i64 0,.string ⟨#[]⟩,.slice none 0 0] 76) = w6 at hv6 hz6 hg6 hM6 hP7 ⊢
      obtain ⟨gv,hgv⟩ : ∃ z : Nat,Hid (z = w5.heap.size):=⟨_,Lib.hid rfl⟩
      rw [← hgv.out] at hv6 ⊢
      have hgvz : gz < gv:=by have:=hgv.out; omega
      have hgvl : gv < w6.heap.size:=hv6.out.lt
      go_wp2_with fail
      refine (peek_any hK g o _ s5 hM6.out hP7.out).mono ?_
      rintro e w7 ⟨rfl,hb⟩
      have hz7:=Lib.hid (hz6.out.below hb hz6.out.lt)
      have hv7:=Lib.hid (hv6.out.below hb hv6.out.lt)
      have hg7:=Lib.hid (g_below hg6.out hb)
      have hM7:=Lib.hid (sub_but_below hM6.out hb)
      have hP8:=Lib.hid (hP7.out.below hb)
      have hgvl7 : gv < w7.heap.size:=Nat.lt_of_lt_of_le hgvl hb.size
      have hwz7 : w.heap.size≤w7.heap.size:=hg7.out.size
      clear hb hz6 hv6 hg6 hM6 hP7
      rw [row_arr]
      obtain ⟨u,hu⟩ : ∃ t,Hid (t = headS s5):=⟨_,Lib.hid rfl⟩
      rw [← hu.out]
      have hfd:=field_tok0 u.k u.n u.line ⟨u.t.toArray⟩
      by_cases hk : u.k = 3
      case pos =>
        have hkb : (u.k == 3) = true:=by rw [hk]; rfl
        have hl2:=Lib.hid (show runS s valueS = bnd (runS s5 textsS) fun l r'=>bnd (needS sRb r') fun _ r''=>.ok (⟨5,0,[],l⟩,r'') by
          rw [hl1.out]
          obtain ⟨q,rfl⟩:=okHead hne5.out hu.out (by rw [hk]; decide)
          rw [runS_ok]
          exact if_pos hk)
        have v3:=hv7.out.cell 3
        have vf3:=hv7.out.free 3
        clear hk
        go_wp2_with fail
        refine (texts_any hK g o _ s5 hM7.out hP8.out).mono ?_
        rintro e w8 hr
        obtain ⟨a,n,c,ds,rfl,hrow,hdl,hds⟩:=hr.txts
        have hz8:=hz7.out.kept hr.1 (by simp; omega)
        have hv8:=hv7.out.kept hr.1 (by simp; omega)
        have hg8:=g_call hg7.out hr.1
        have hM8:=sub_but_grown hM7.out hr.1
        have hP9:=hr.2.1
        have hvl8:=hv8.lt
        have vf8:=hv8.free 3
        have v8:=hv8.cell 3
        simp only [List.getElem?_toArray,List.getElem?_cons_succ,List.getElem?_cons_zero] at v8
        have hz9:=Lib.hid (hz8.setOther (p:=⟨gv,3,none⟩) (by simp; omega) (.slice a n c))
        have hv9:=Lib.hid (show Own (w8.setCell ⟨gv,3,none⟩ (.slice a n c)) gv #[.int .i64 5,.int .i64 0,.string ⟨#[]⟩,.slice a n c] 76 from hv8.set 3 _)
        have hg9:=Lib.hid (g_setCell hg8 (p:=⟨gv,3,none⟩) (by simp; omega) (.slice a n c))
        have hM9:=Lib.hid (sub_but_grown hMw.out hg9.out)
        have hP10:=Lib.hid (hP9.set (q:=gv) (i:=3) (by omega) (.slice a n c))
        have hrow9:=Lib.hid (hrow.mono (nex_set (q:=gv) (o:=3) (Or.inr hgvl7) (.slice a n c)))
        have hl3:=Lib.hid (show aft (runS s valueS) = aft (runS (aft (runS s5 textsS)) (needS sRb)) by
          rw [hl2.out]
          exact aft_bnd (runS s5 textsS) (needS sRb) (fun l r'=>bnd (needS sRb r') fun _ r''=>.ok ((⟨5,0,[],l⟩ : VV),r'')) fun l q=>aft_map (needS sRb q) (fun _=>(⟨5,0,[],l⟩ : VV)))
        have hds':=Lib.hid (show ∀ (c : VV) (q : List Tok),runS s valueS = .ok (c,q)→c = ⟨5,0,[],lsL ds⟩ from fun c q hc=>by
          rw [hl2.out] at hc
          obtain ⟨l,r1,h1,h2⟩:=bnd_inv hc
          obtain ⟨u',r2,h3,h4⟩:=bnd_inv h2
          injection h4 with h4
          injection h4 with h4 h5
          rw [← h4,hds l r1 h1])
        replace hr:=Lib.hid hr
        clear hrow hg8 hM8 hz7 hv7 hg7 hM7 hP8 v3 vf3 hfd hds hl2
        go_upto_region 16 with fail
        clear hr hz8 hv8 hP9 v8 vf8
        generalize w8.setCell ⟨gv,3,none⟩ (.slice a n c) = w9 at hz9 hv9 hg9 hM9 hP10 hrow9 ⊢
        generalize aft (runS s5 textsS) = s6 at hP10 hl3
        go_wp2_with fail
        refine (expect_any hK g o _ s6 hM9.out hP10.out ⟨#[93]⟩).mono ?_
        rintro e w10 hr
        obtain rfl:=hr.none
        have hz10:=hz9.out.kept hr.1 (by simp; omega)
        have hv10:=hv9.out.kept hr.1 (by simp; omega)
        have hRB:=RdB.mk' (B:=gz) (St:=fun w s=>PrP T tb to' tc g w o s) (s:=aft (runS s valueS)) (g_call hg9.out hr.1) (by rw [hl3.out]; exact hr.2.1) hgl hwz
        have hrow10:=Lib.hid (hrow9.out.mono (nex_grown hr.1 (fun k e=>by cases e; simp)))
        obtain ⟨y0,y1,y2,y3,-⟩:=own4z hv10
        obtain ⟨z0,z1,z2,z3,f0,f1,f2,f3⟩:=own4z hz10
        have hzl':=hz10.lt
        have hF:=Lib.hid (hRB.set4 (q:=gz) (Nat.le_refl _) (.int .i64 5) (.int .i64 0) (.string ⟨#[]⟩) (.slice a n c))
        have hL:=Lib.hid (show LAt (nex w.heap.size [g] ((((w10.setCell ⟨gz,0,none⟩ (.int .i64 5)).setCell ⟨gz,1,none⟩ (.int .i64 0)).setCell ⟨gz,2,none⟩ (.string ⟨#[]⟩)).setCell ⟨gz,3,none⟩ (.slice a n c))) ⟨5,0,⟨#[]⟩,a,n,c,ds⟩ from
          ⟨hrow10.out.mono ((((nex_set (Or.inr (by omega)) _).trans (nex_set (Or.inr (by omega)) _)).trans ((nex_set (Or.inr (by omega)) _).trans (nex_set (Or.inr (by omega)) _))).trans (nex_up _ hwz7 (fun k hk=>Or.inl hk))),(show (0 : Nat) < 4294967281 by decide),(show ds.length≤_ by omega)⟩)
        clear hr hRB hz10 hv10
        go_wp2
        refine bodyPost_ret (v:=.agg #[.int .i64 5,.int .i64 0,.string ⟨#[]⟩,.slice a n c]) (by simp [results,Tryz.results209,go_sem, *]) rfl ?_
        have hv4 : ValIs w.heap.size g ⟨5,0,[],lsL ds⟩ (.returned (.agg #[.int .i64 5,.int .i64 0,.string ⟨#[]⟩,.slice a n c])) _:=⟨_,rfl,hL.out,rfl⟩
        exact Rd.fin hF.out.grown hF.out.st (fun c' q hc=>by rw [hds'.out c' q hc]; exact hv4) ⟨_,hv4⟩
      case neg =>
        have hkb : (u.k == 3) = false:=by simpa using hk
        have hl2:=Lib.hid (show runS s valueS = bnd (runS s5 (needS sRb)) fun _ r''=>.ok (⟨5,0,[],[]⟩,r'') by
          rw [hl1.out]
          cases s5 with
          | error e=>rfl
          | ok ts =>
            cases ts with
            | nil=>exact absurd rfl (hne5.out _ rfl)
            | cons u' q =>
              have hu' : u = u':=hu.out
              subst hu'
              exact if_neg hk)
        have hl3:=Lib.hid (show aft (runS s valueS) = aft (runS s5 (needS sRb)) by
          rw [hl2.out]
          exact aft_map _ (fun _=>(⟨5,0,[],[]⟩ : VV)))
        have hds':=Lib.hid (show ∀ (c : VV) (q : List Tok),runS s valueS = .ok (c,q)→c = ⟨5,0,[],[]⟩ from fun c q hc=>by
          rw [hl2.out] at hc
          obtain ⟨l,r1,h1,h2⟩:=bnd_inv hc
          injection h2 with h2
          injection h2 with h2 h3
          exact h2.symm)
        clear hk hl2
        go_wp2_with fail
        refine (expect_any hK g o _ s5 hM7.out hP8.out ⟨#[93]⟩).mono ?_
        rintro e w10 hr
        obtain rfl:=hr.none
        have hz10:=hz7.out.kept hr.1 (by simp; omega)
        have hv10:=hv7.out.kept hr.1 (by simp; omega)
        have hRB:=RdB.mk' (B:=gz) (St:=fun w s=>PrP T tb to' tc g w o s) (s:=aft (runS s valueS)) (g_call hg7.out hr.1) (by rw [hl3.out]; exact hr.2.1) hgl hwz
        obtain ⟨y0,y1,y2,y3,-⟩:=own4z hv10
        obtain ⟨z0,z1,z2,z3,f0,f1,f2,f3⟩:=own4z hz10
        have hzl':=hz10.lt
        have hF:=Lib.hid (hRB.set4 (q:=gz) (Nat.le_refl _) (.int .i64 5) (.int .i64 0) (.string ⟨#[]⟩) (.slice none 0 0))
        clear hr hRB hz10 hv10 hfd
        go_wp2
        refine bodyPost_ret (v:=.agg #[.int .i64 5,.int .i64 0,.string ⟨#[]⟩,.slice none 0 0]) (by simp [results,Tryz.results209,go_sem, *]) rfl ?_
        have hv4:=fun (B : Nat) (W : World)=>val_flat B g W 5 0 ⟨#[]⟩ (by decide)
        exact Rd.fin hF.out.grown hF.out.st (fun c' q hc=>by rw [hds'.out c' q hc]; exact hv4 _ _) ⟨_,hv4 _ _⟩
end
end Go.Proofs.YtfffpflflggonaaGreatDoor.src
namespace Go.Proofs.YtfffpflflggonaaGreatDoor.src
open Go.RowKit lex value text schema draw clause
def nexO (B g : Nat) (v : Value) (w : World) : Mem:=nex B (g :: v.ownBlock.toList) w
theorem nexO_new {B g : Nat} {v v' : Value} {w u : World} (hg : w.grownBy u v.ownBlock) (hat : ∀ k,v'.ownBlock = some k→v.ownBlock = some k∨k = w.heap.size) : Sub (nexO B g v w) (nexO B g v' u):=by
  refine nex_new hg (fun k hk=>Or.inl (by rw [hk]; simp)) (fun k hk=>?_)
  rcases List.mem_cons.1 hk with rfl | hk
  · exact Or.inl (by simp)
  · have hk' : v'.ownBlock = some k:=by simpa using hk
    rcases hat k hk' with h | h
    · exact Or.inl (by rw [h]; simp)
    · exact Or.inr (Or.inl (by omega))
theorem nexO_g {B g : Nat} {v : Value} {w u : World} {r : Option Nat} (hg : w.grownBy u r) (hr : r = none∨r = some g) : Sub (nexO B g v w) (nexO B g v u):=nex_grown hg (fun k hk=>by
  rcases hr with h | h <;> rw [h] at hk
  · cases hk
  · cases hk; exact Or.inl (by simp))
theorem nexO_part {B B' g : Nat} {v : Value} (w : World) (hB : B≤B') (hv : ∀ k,v.ownBlock = some k→k < B') : Sub (nex B' [g] w) (nexO B g v w):=nex_part w hB (fun k hk=>by
  rcases List.mem_cons.1 hk with rfl | hk
  · exact Or.inl rfl
  · exact Or.inr (hv k (by simpa using hk)))
theorem nexO_out {B g : Nat} {v : Value} (w : World) : Sub (nexO B g v w) (nex B [g] w):=nex_up w (Nat.le_refl _) (fun k hk=>Or.inl (by simp at hk; simp [hk]))
theorem Rd.val {g B : Nat} {St : World→PS→Prop} {w : World} {r : R VV} {e : Ending} {w' : World} (h : Rd g St w (ValIs B g) r e w') : ∃ d : VD,e = .returned (.agg #[.int .i64 d.kind,.int .i64 d.num,.string d.text,.slice d.ptr d.len d.cap])∧LAt (nex B [g] w') d∧∀ v q,r = .ok (v,q)→vv d = v:=by
  obtain ⟨h1,h2,h3⟩:=h
  cases r with
  | error q=>obtain ⟨v,d,h4,h5,h6⟩:=h3; exact ⟨d,h4,h5,fun v q e=>by cases e⟩
  | ok v=>obtain ⟨d,h4,h5,h6⟩:=h3; exact ⟨d,h4,h5,fun v q e=>by injection e with e; rw [h6,e]⟩
theorem valRows_len (ds : List VD) : ∀ r∈ds.map VD.row,r.length = 4:=fun r hr=>by obtain ⟨d,-,rfl⟩:=List.mem_map.1 hr; rfl
theorem valRow_one (d : VD) : ∀ u∈([d.row] : List (List Value)).flatten,u.oneCell' = true:=fun u hu=>by
  simp only [List.flatten_cons,List.flatten_nil,List.append_nil,VD.row,List.mem_cons,List.not_mem_nil,or_false] at hu
  rcases hu with rfl | rfl | rfl | rfl <;> rfl
def runV (f : Nat) (L : List VV) (s : PS) : R (List VV):=runS s (contV f L)
section
variable {M : Mem} {T : List Tok} {tb to' tc : Nat}
set_option maxRecDepth 100000 in
set_option maxHeartbeats 8000000 in
theorem values_any (hK : TokM M T tb to' tc) (g o : Nat) (w : World) (s : PS) (hM : Sub M (but g w)) (h : PrP T tb to' tc g w o s) :
    Calls Tryz.prog 142 #[.pointer (some ⟨g,0,none⟩)] w (Rd g (fun w s=>PrP T tb to' tc g w o s) w (ValsIs w.heap.size g) (runS s valuesS)):=by
  have hgl:=h.lt
  have hlen : lenP s≤30001:=by rw [← h.left]; unfold leftW; have:=hK.few; split <;> omega
  have hne : Hid (∀ ts,s = .ok ts→ts ≠ []):=Lib.hid fun ts e=>by subst e; exact h.ne
  replace hM:=Lib.hid hM
  obtain ⟨r0,hr0⟩ : ∃ r,Hid (r = runS s valuesS):=⟨_,Lib.hid rfl⟩
  rw [← hr0.out]
  go_enter Tryz.func142,Tryz.ntmps142
  go_wp2_with fail
  refine (value_any hK g o _ s hM.out h).mono ?_
  rintro e w1 hr
  obtain ⟨x,rfl,hL,hx⟩:=hr.val
  have hg1:=hr.1
  have hP1:=hr.2.1
  have hz1 : w.heap.size≤w1.heap.size:=hg1.size
  have hg2:=Lib.hid (g_call hg1 (World.grownBy_alloc w1 (.cells #[.int .i64 x.kind,.int .i64 x.num,.string x.text,.slice x.ptr x.len x.cap] 76) (some g)))
  have hP2:=Lib.hid (hP1.alloc (.cells #[.int .i64 x.kind,.int .i64 x.num,.string x.text,.slice x.ptr x.len x.cap] 76))
  have hR2 : RO 76 4 w.heap.size (.slice (some ⟨w1.heap.size,0,none⟩) 1 1) ([x].map VD.row) (w1.alloc (.cells #[.int .i64 x.kind,.int .i64 x.num,.string x.text,.slice x.ptr x.len x.cap] 76)) :=
    ro_one (e:=76) w1 #[.int .i64 x.kind,.int .i64 x.num,.string x.text,.slice x.ptr x.len x.cap] (B:=w.heap.size) hz1 rfl
  have hL2 : ∀ d∈[x],LAt (nexO w.heap.size g (.slice (some ⟨w1.heap.size,0,none⟩) 1 1) (w1.alloc (.cells #[.int .i64 x.kind,.int .i64 x.num,.string x.text,.slice x.ptr x.len x.cap] 76))) d:=fun d hd=>by
    obtain rfl:=List.mem_singleton.1 hd
    refine hL.mono (nex_new (World.grownBy_alloc _ _ none) (fun k e=>by cases e) (fun k hk=>?_))
    simp [Value.ownBlock] at hk
    rcases hk with rfl | rfl
    · exact Or.inl (by simp)
    · exact Or.inr (Or.inl (Nat.le_refl _))
  have hr1 : ∃ f,r0 = runV f ([x].map vv) (aft (runS s valueS))∧lenP (aft (runS s valueS))≤f:=by
    rw [hr0.out]
    cases s with
    | error e=>exact ⟨0,rfl,Nat.le_refl _⟩
    | ok ts =>
      obtain ⟨n,hn⟩ : ∃ n,ts.length = n + 1:=⟨ts.length - 1,by
        have:=hne.out ts rfl
        have : ts.length ≠ 0:=fun e=>this (List.eq_nil_of_length_eq_zero e)
        omega⟩
      refine ⟨n,?_,?_⟩
      · show valuesF ts.length ts = runV n _ (aft (valueS ts))
        rw [hn,values_cont]
        cases ht : valueS ts with
        | error q=>rfl
        | ok v =>
          obtain ⟨t,ts'⟩:=v
          have:=hx t ts' ht
          rw [bnd_ok,← this]
          rfl
      · show lenP (aft (valueS ts))≤n
        cases ht : valueS ts with
        | error q=>exact Nat.zero_le _
        | ok v =>
          obtain ⟨t,ts'⟩:=v
          have:=shr_value _ _ _ ht
          show ts'.length≤n
          omega
  have hn1 : 1 + lenP (aft (runS s valueS))≤30001:=by
    cases s with
    | error e=>show 1 + 0≤_; omega
    | ok ts =>
      show 1 + lenP (aft (valueS ts))≤_
      have hl : ts.length≤30001:=hlen
      cases ht : valueS ts with
      | error q=>show 1 + 0≤_; omega
      | ok v =>
        obtain ⟨t,ts'⟩:=v
        have:=shr_value _ _ _ ht
        show 1 + ts'.length≤_
        omega
  replace hr1:=Lib.hid hr1
  replace hR2:=Lib.hid hR2
  replace hL2:=Lib.hid hL2
  clear hr hx hg1 hP1 h hL
  generalize aft (runS s valueS) = s1 at hP2 hr1 hn1
  go_wp2
  go_loopw [3] (fun s3 wr=>∃ (s' : PS) (ds : List VD),0 < ds.length∧Hid (RO 76 4 w.heap.size s3 (ds.map VD.row) wr)∧Hid (∀ d∈ds,LAt (nexO w.heap.size g s3 wr) d)∧Hid (w.grownBy wr (some g))∧Hid (PrP T tb to' tc g wr o s')∧Hid (∃ f,r0 = runV f (ds.map vv) s'∧lenP s'≤f)∧ds.length + lenP s'≤30001) (fun _ wr=>leftW T.length g wr)
  case atStart=>exact ⟨s1,[x],by simp,hR2,hL2,hg2,hP2,hr1,hn1⟩
  case round =>
    clear hR2 hg2 hP2 hr1 hn1 hL2
    obtain ⟨s',ds,hd0,hR,hL,hg,hP,hr,hn⟩:=hrel
    obtain ⟨va,vc,hv⟩:=ro_form hR.out (valRows_len ds)
    rw [List.length_map] at hv
    subst hv
    have hgz : w.heap.size≤wr.heap.size:=hg.out.size
    go_wp2_with fail
    refine (accept_any hK g o _ s' (sub_but_grown hM.out hg.out) hP.out ⟨#[44]⟩).mono ?_
    rintro e w2 ⟨rfl,hga,hPa⟩
    have hzz : wr.heap.size≤w2.heap.size:=hga.size
    have hRa:=Lib.hid (hR.out.kept hga (fun y e=>by cases e; exact hgl))
    have hLa:=Lib.hid (fun d (hd : d∈ds)=>(hL.out d hd).mono (nexO_g hga (Or.inr rfl)))
    have hgb:=Lib.hid (g_call hg.out hga)
    cases hx : isP [44] s' with
    | false =>
      have hx' : isP (⟨#[44]⟩ : ByteArray).data.toList s' = false:=hx
      have hQ:=Lib.hid (show ∀ v,v = Value.slice va ds.length vc→Rd g (fun w s=>PrP T tb to' tc g w o s) w (ValsIs w.heap.size g) r0 (.returned v) w2 from fun v hv=>by
        have hT : ValsIs w.heap.size g (ds.map vv) (.returned v) w2:=⟨va,_,vc,ds,by rw [hv],by have:=hRa.out.new (valRows_len ds) hgl; exact this,fun d hd=>(hLa.out d hd).mono (nexO_out _),rfl⟩
        have hP3 : PrP T tb to' tc g w2 o s':=by rw [← pastP_no hx']; exact hPa
        obtain ⟨f,hf,-⟩:=hr.out
        rw [hf]
        cases s' with
        | error e=>exact Rd.err hgb.out hP3 _ hT
        | ok ts =>
          rw [show runV f (ds.map vv) (.ok ts) = .ok (ds.map vv,ts) from contV_end _ _ _ hx]
          exact Rd.ok hgb.out hP3 hT)
      clear hPa hga hRa hLa hgb hx hx' hR hL hg hP hr
      go_wp2
      go_ret
      exact hQ.out _ rfl
    | true =>
      cases s' with
      | error e=>cases hx
      | ok ts =>
        have hP3 : PrP T tb to' tc g w2 o (.ok ts.tail):=by
          have e1 : pastP (⟨#[44]⟩ : ByteArray).data.toList (.ok ts) = .ok ts.tail:=if_pos hx
          rw [← e1]
          exact hPa
        have hlt : ts.tail.length < ts.length:=by
          cases ts with
          | nil=>cases hx
          | cons t q=>simp
        have hst : ∃ f,(r0 = bnd (valueS ts.tail) fun v r=>contV f (ds.map vv ++ [v]) r)∧ts.tail.length≤f:=by
          obtain ⟨f,hf,hfl⟩:=hr.out
          obtain ⟨f',rfl⟩ : ∃ f',f = f' + 1:=⟨f - 1,by have : ts.length≤f:=hfl; omega⟩
          refine ⟨f',?_,by have : ts.length≤f' + 1:=hfl; omega⟩
          rw [hf]
          exact contV_step _ _ _ hx
        have hlw : leftW T.length g wr = ts.length:=hP.out.left
        replace hst:=Lib.hid hst
        replace hlt:=Lib.hid hlt
        replace hlw:=Lib.hid hlw
        have hn':=Lib.hid (show ds.length + ts.length≤30001 from hn)
        have hdl : ds.length≤30001:=by omega
        clear hPa hga hR hg hP hr hx hn hL
        go_wp2_with fail
        refine (value_any hK g o _ (.ok ts.tail) (sub_but_grown hM.out hgb.out) hP3).mono ?_
        rintro e w3 hr
        obtain ⟨x',rfl,hLx,hx'⟩:=hr.val
        have hg3:=g_call hgb.out hr.1
        have hP4 : PrP T tb to' tc g w3 o (aft (valueS ts.tail)):=hr.2.1
        have hz3 : w.heap.size≤w3.heap.size:=hg3.size
        have hal : Below w3.heap.size w3 (w3.alloc (.cells #[.int .i64 x'.kind,.int .i64 x'.num,.string x'.text,.slice x'.ptr x'.len x'.cap] 76)):=(Below.refl w3.heap.size w3).alloc (Nat.le_refl _) _
        have hRb:=hRa.out.kept hr.1 (fun y e=>by cases e; exact hgl)
        have hR3:=hRb.below hal
        have hown2 : ∀ k,(Value.slice va ds.length vc).ownBlock = some k→k < w2.heap.size:=fun k hk=>(hRa.out.out.lt k hk).2
        have hL3 : ∀ d∈ds ++ [x'],LAt (nexO w.heap.size g (.slice va ds.length vc) (w3.alloc (.cells #[.int .i64 x'.kind,.int .i64 x'.num,.string x'.text,.slice x'.ptr x'.len x'.cap] 76))) d:=fun d hd=>by
          refine LAt.mono (nexO_g (World.grownBy_alloc w3 _ none) (Or.inl rfl)) ?_
          rcases List.mem_append.1 hd with hd | hd
          · exact (hLa.out d hd).mono (nexO_g hr.1 (Or.inr rfl))
          · obtain rfl:=List.mem_singleton.1 hd
            exact hLx.mono (nexO_part _ hgb.out.size hown2)
        have hrow:=lit_rows (sz:=4) (w:=w3.alloc (.cells #[.int .i64 x'.kind,.int .i64 x'.num,.string x'.text,.slice x'.ptr x'.len x'.cap] 76)) (g:=w3.heap.size) (cs:=x'.row) (fun j=>by rw [(Own.new w3 #[.int .i64 x'.kind,.int .i64 x'.num,.string x'.text,.slice x'.ptr x'.len x'.cap] 76).cell j]; simp [VD.row])
        have hr4 : ∃ f,r0 = runV f ((ds ++ [x']).map vv) (aft (valueS ts.tail))∧lenP (aft (valueS ts.tail))≤f:=by
          obtain ⟨f,hf,hfl⟩:=hst.out
          refine ⟨f,?_,?_⟩
          · rw [hf]
            cases ht : valueS ts.tail with
            | error q=>rfl
            | ok v =>
              obtain ⟨t,ts'⟩:=v
              have:=hx' t ts' ht
              rw [bnd_ok,← this,List.map_append]
              rfl
          · cases ht : valueS ts.tail with
            | error q=>exact Nat.zero_le _
            | ok v =>
              obtain ⟨t,ts'⟩:=v
              have:=shr_value _ _ _ ht
              show ts'.length≤f
              omega
        have hn4 : (ds ++ [x']).length + lenP (aft (valueS ts.tail))≤30001∧lenP (aft (valueS ts.tail)) < ts.length:=by
          have h1:=hlt.out
          have h2:=hn'.out
          rw [List.length_append,List.length_singleton]
          cases ht : valueS ts.tail with
          | error q=>show ds.length + 1 + 0≤_∧0 < _; omega
          | ok v =>
            obtain ⟨t,ts'⟩:=v
            have:=shr_value _ _ _ ht
            show ds.length + 1 + ts'.length≤_∧ts'.length < _
            omega
        replace hR3:=Lib.hid hR3
        replace hL3:=Lib.hid hL3
        replace hrow:=Lib.hid hrow
        replace hr4:=Lib.hid hr4
        replace hn4:=Lib.hid hn4
        have hg4:=Lib.hid (g_call hg3 (World.grownBy_alloc w3 (.cells #[.int .i64 x'.kind,.int .i64 x'.num,.string x'.text,.slice x'.ptr x'.len x'.cap] 76) (some g)))
        have hP5:=Lib.hid (hP4.alloc (.cells #[.int .i64 x'.kind,.int .i64 x'.num,.string x'.text,.slice x'.ptr x'.len x'.cap] 76))
        clear hr hx' hst hg3 hP4 hP3 hRb hal hLx hown2
        generalize aft (valueS ts.tail) = s4 at hr4 hn4 hP5
        go_wp2_with (at_builtin; refine wpList_append_val rfl _ _ rfl w.heap.size va ds.length vc (ds.map VD.row) rfl hR3.out (valRows_len ds) (by rw [List.length_map]) _ 1 1 [x'.row] rfl hrow.out (by intro r hr; rw [List.mem_singleton.1 hr]; rfl) (valRow_one x') (by omega) (by simp; omega) ?_; intro va' vc' w5 hR5 hn5 hg5 hat5; replace hR5:=Lib.hid hR5; replace hg5:=Lib.hid hg5; replace hat5:=Lib.hid hat5; clear hn5)
        have hown:=hR3.out.out.lt
        have hg6:=Lib.hid (g_own hg4.out hg5.out (fun i e=>(hown i e).1))
        have hP6:=Lib.hid (hP5.out.kept hg5.out (fun e=>by have:=(hown g e).1; omega))
        have hL6:=Lib.hid (fun d (hd : d∈ds ++ [x'])=>(hL3.out d hd).mono (nexO_new hg5.out hat5.out))
        go_roundw
        case rel=>exact ⟨s4,ds ++ [x'],by simp,by rw [List.map_append]; exact hR5,hL6,hg6,hP6,hr4,hn4.out.1⟩
        case measure=>rw [hP6.out.left,hlw.out]; exact hn4.out.2
end
end Go.Proofs.YtfffpflflggonaaGreatDoor.src
