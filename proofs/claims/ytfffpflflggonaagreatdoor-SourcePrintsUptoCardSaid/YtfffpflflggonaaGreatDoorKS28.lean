/- The first error of a condition: the program's shape. The condition of a source text: the program's ParseExpr. -/
import Derived.Test.YtfffpflflggonaaGreatDoorKSrO
import Derived.Test.YtfffpflflggonaaGreatDoorKS27
import Derived.Test.YtfffpflflggonaaGreatDoorKS21
namespace Go.Proofs.YtfffpflflggonaaGreatDoor.src
open Go.RowKit lex value text schema draw clause
def TabsBut (g : Nat) (w : World) : Prop:=∀ u,w.grownBy u (some g)→Tabs u∧SpaceTab u
theorem TabsBut.on {g : Nat} {w u : World} (h : TabsBut g w) (hg : w.grownBy u (some g)) : TabsBut g u:=fun x hx=>h x (g_call hg hx)
theorem TabsBut.now {g : Nat} {w : World} (h : TabsBut g w) : Tabs w∧SpaceTab w:=h w (grown_refl _ _)
theorem TabsBut.new {w : World} (hT : Tabs w) (hs : SpaceTab w) (x : Obj) : TabsBut w.heap.size (w.alloc x):=fun u hu=>by
  have hb : Below w.heap.size w u:=((Below.refl w.heap.size w).alloc (Nat.le_refl _) x).grown hu (by simp) (fun k e=>by cases e; exact Nat.le_refl _)
  exact ⟨hT.below hb,(show SpaceTab u from var_below hb hs)⟩
def WalkIs (g : Nat) (w : World) (R : Int × Nat) (e : Ending) (w' : World) : Prop:=e = .returned (.int .i64 R.1)∧w.grownBy w' (some g)∧Own w' g #[.int .i64 R.2] 3
def WalkOk (f : FuncId) (more : Nat) (m : Mem) (d : ED) (r : List Value) : Prop:=∀ (dep b g : Nat) (w : World),dep≤10→Sub m (but g w)→Own w g #[.int .i64 b] 3→TabsBut g w →
  Calls Tryz.prog f #[.agg r.toArray,.int .i64 ((dep + more : Nat) : Int),.pointer (some ⟨g,0,none⟩)] w (WalkIs g w (walkS (pe d) dep b))
theorem walk_kid {ks : List ED} {d k b : Nat} {R : Int × Nat} (h : k < ks.length) (hR : walkL (peL (ks.drop k)) d b = R) :
    ((walkS (pe ks[k]) d b).1 = 0→walkL (peL (ks.drop (k + 1))) d (walkS (pe ks[k]) d b).2 = R)∧((walkS (pe ks[k]) d b).1 ≠ 0→walkS (pe ks[k]) d b = R):=by
  rw [List.drop_eq_getElem_cons h,peL,walkL] at hR
  refine ⟨fun h0=>?_,fun h0=>?_⟩
  · rw [if_pos h0] at hR; exact hR
  · rw [if_neg h0] at hR; exact hR
theorem walk_end {ks : List ED} {d k b : Nat} {R : Int × Nat} (h : ¬ k < ks.length) (hR : walkL (peL (ks.drop k)) d b = R) : R = (0,b):=by
  rw [List.drop_eq_nil_of_le (by omega),peL,walkL] at hR
  exact hR.symm
theorem but_other {g : Nat} {w u : World} (hg : w.grownBy u (some g)) {m : Mem} (h : Sub m (but g w)) : Sub m u.cell?:=(sub_but_grown h hg).trans (but_sub g u)
set_option maxRecDepth 100000 in
set_option maxHeartbeats 4000000 in
theorem expr_step (m : Mem) (op : Int) (kind name : ByteArray) (vals : List VD) (kids : List ED) (vs ks : Value) (rows : List (List Value)) (hv : RowsAt m 4 vs (vals.map VD.row)) (hk : RowsAt m 5 ks rows) (hl : rows.length = kids.length) (hL : ∀ v∈vals,LAt m v)
    (hE : ∀ (i : Nat) (r : List Value) (k : ED),rows[i]? = some r→kids[i]? = some k→EAt m k r)
    (ih : ∀ (j : Nat) (r : List Value) (k : ED),rows[j]? = some r→kids[j]? = some k→WalkOk 46 0 m k r) :
    WalkOk 46 0 m (.mk op kind name vals kids) [.int .i64 op,.string kind,.string name,vs,ks]:=by
  intro dep b g w hd hs hO hT
  rw [Nat.add_zero]
  obtain ⟨va,vn,vc,rfl⟩ : ∃ a n c,vs = .slice a n c:=by obtain ⟨a,c,h,-⟩:=hv; exact ⟨_,_,_,h⟩
  obtain ⟨ka,kn,kc,rfl⟩ : ∃ a n c,ks = .slice a n c:=by obtain ⟨a,c,h,-⟩:=hk; exact ⟨_,_,_,h⟩
  have hgl:=hO.lt
  have hQ:=Lib.hid (show walkS (pe (.mk op kind name vals kids)) dep b = if 60≤b then (5,b) else if 10≤dep then (18,b + 1) else if partS op kind.data.toList name.data.toList (vals.map vv) (kids.map opE) ≠ 0 then (partS op kind.data.toList name.data.toList (vals.map vv) (kids.map opE),b + 1) else walkL (peL kids) (dep + 1) (b + 1) by rw [pe,walkS,ops_pe])
  generalize walkS (pe (.mk op kind name vals kids)) dep b = R at hQ ⊢
  have hO1:=hO.alloc (.cells #[.int .i64 op,.string kind,.string name,.slice va vn vc,.slice ka kn kc] 31)
  have hX1:=Own.new w #[.int .i64 op,.string kind,.string name,.slice va vn vc,.slice ka kn kc] 31
  have hg1:=World.grownBy_alloc w (.cells #[.int .i64 op,.string kind,.string name,.slice va vn vc,.slice ka kn kc] 31) (some g)
  go_enter Tryz.func46,Tryz.ntmps46
  go_upto_region 1 with fail
  generalize w.alloc (.cells #[.int .i64 op,.string kind,.string name,.slice va vn vc,.slice ka kn kc] 31) = w1 at hO1 hX1 hg1 ⊢
  obtain ⟨eb,heb⟩ : ∃ z : Nat,Hid (z = w.heap.size):=⟨_,Lib.hid rfl⟩
  rw [← heb.out] at hX1 ⊢
  have hge : g < eb:=by have:=heb.out; omega
  have hT1:=Lib.hid (hT.on hg1)
  replace hs:=Lib.hid hs
  replace hv:=Lib.hid hv
  replace hk:=Lib.hid hk
  replace hL:=Lib.hid hL
  replace hE:=Lib.hid hE
  replace ih:=Lib.hid ih
  clear hT hO
  have c0:=hO1.cell 0
  have f0:=hO1.free 0
  have hl1:=hO1.lt
  simp only [List.getElem?_toArray,List.getElem?_cons_zero] at c0
  by_cases h60 : 60≤b
  · have h60i : (60 : Int)≤(b : Int):=by omega
    have hR:=Lib.hid (show R = (5,b) by rw [hQ.out,if_pos h60])
    replace hg1:=Lib.hid hg1
    replace hO1:=Lib.hid hO1
    clear h60
    go_wp2
    go_ret
    exact ⟨by rw [hR.out]; rfl,hg1.out,by rw [hR.out]; exact hO1.out⟩
  have h60i : ¬ (60 : Int)≤(b : Int):=by omega
  have hw : IntKind.i64.wrap ((b : Int) + 1) = ((b : Int) + 1):=by rw [IntKind.wrap_i64]; omega
  have hO2:=Lib.hid (show Own (w1.setCell ⟨g,0,none⟩ (.int .i64 ((b : Int) + 1))) g #[.int .i64 ((b : Int) + 1)] 3 from hO1.set 0 _)
  have hX2:=Lib.hid (hX1.setOther (p:=⟨g,0,none⟩) (by simp; omega) (.int .i64 ((b : Int) + 1)))
  have hg2:=Lib.hid (g_call hg1 (grown_setCell w1 g 0 (.int .i64 ((b : Int) + 1))))
  have hT2:=Lib.hid (hT1.out.on (grown_setCell w1 g 0 (.int .i64 ((b : Int) + 1))))
  go_upto_region 4 with fail
  generalize w1.setCell ⟨g,0,none⟩ (.int .i64 ((b : Int) + 1)) = w2 at hO2 hX2 hg2 hT2 ⊢
  clear hO1 hX1 hg1 hT1 c0 f0 hl1
  obtain ⟨x0,x1,x2,x3,x4,-⟩:=own5z hX2.out
  go_wp2_with fail
  refine (part_any op kind name vals kids va ka vn vc kn kc rows m hv.out hk.out hl hL.out hE.out dep w2 (but_other hg2.out hs.out) hT2.out.now.1 hT2.out.now.2).mono ?_
  rintro e w3 ⟨rfl,hb⟩
  have hO3:=Lib.hid (hO2.out.below hb hO2.out.lt)
  replace hO3:=Lib.hid (show Own w3 g #[.int .i64 ((b + 1 : Nat) : Int)] 3 from hO3.out)
  have hX3:=Lib.hid (hX2.out.below hb hX2.out.lt)
  have hg3:=Lib.hid (g_below hg2.out hb)
  have hT3:=Lib.hid (hT2.out.on (grown_of_below hb (some g)))
  clear hb hO2 hX2 hg2 hT2 x0 x1 x2 x3 x4
  obtain ⟨X,hX⟩ : ∃ X : Int,Hid (X = if 10≤dep then 18 else partS op kind.data.toList name.data.toList (vals.map vv) (kids.map opE)):=⟨_,Lib.hid rfl⟩
  rw [← hX.out]
  by_cases hX0 : X = 0
  case neg =>
    have hR:=Lib.hid (show R = (X,b + 1) by
      rw [hQ.out,if_neg h60]
      have h1:=hX.out
      by_cases h10 : 10≤dep
      · rw [if_pos h10] at h1 ⊢; rw [h1]
      · rw [if_neg h10] at h1 ⊢; rw [← h1,if_pos hX0])
    have hXb : (X != 0) = true:=by simpa using hX0
    clear hX0
    go_wp2
    go_ret
    exact ⟨by rw [hR.out]; rfl,hg3.out,by rw [hR.out]; exact hO3.out⟩
  have hdep : dep < 10:=by
    rcases Nat.lt_or_ge dep 10 with h | h
    · exact h
    · have h1:=hX.out; rw [if_pos h] at h1; omega
  have hR:=Lib.hid (show walkL (peL (kids.drop 0)) (dep + 1) (b + 1) = R by
    have h1:=hX.out
    rw [if_neg (by omega)] at h1
    rw [hQ.out,if_neg h60,if_neg (by omega),if_neg (fun h=>h (by rw [← h1]; exact hX0))]
    rfl)
  subst hX0
  have hwd : IntKind.i64.wrap ((dep : Int) + 1) = (dep : Int) + 1:=by rw [IntKind.wrap_i64]; omega
  clear hX hQ
  obtain ⟨x0,x1,x2,x3,x4,-⟩:=own5z hX3.out
  have hkn:=(len_of hk.out).1
  rw [hl] at hkn
  subst hkn
  have hkm:=(len_of hk.out).2
  replace hl:=Lib.hid hl
  have hsm : eb < w3.heap.size:=hX3.out.lt
  go_wp2_with fail
  go_loopw [29] (fun i wr=>∃ k bk : Nat,k≤kids.length∧i = .int .i64 k∧Hid (w.grownBy wr (some g))∧Hid (Own wr g #[.int .i64 bk] 3)∧Hid (TabsBut g wr)∧Hid (walkL (peL (kids.drop k)) (dep + 1) bk = R)) (fun i _=>kids.length - (intOf i).toNat)
  case atStart=>exact ⟨0,b + 1,Nat.zero_le _,rfl,hg3,hO3,hT3,hR⟩
  case round =>
    clear x0 x1 x2 x3 x4 hg3 hO3 hT3 hR hX3
    obtain ⟨k,bk,hk1,rfl,hg,hO,hT,hR⟩:=hrel
    by_cases hlt : k < kids.length
    case neg =>
      have hR2:=Lib.hid (walk_end hlt hR.out)
      have n1 : ¬ (k : Int) < (kids.length : Int):=by omega
      go_wp2
      go_ret
      exact ⟨by rw [hR2.out]; rfl,hg.out,by rw [hR2.out]; exact hO.out⟩
    obtain ⟨blk,off,op1,kind1,name1,va1,vn1,vc1,ka1,kn1,kc1,rfl,c0,c1,c2,c3,c4,hr⟩:=kid_at (hk.out.mono (but_other hg.out hs.out)) hl.out (fun j r k h1 h2=>hE.out j r k h1 h2) hlt
    have n0 : (0 : Int)≤(k : Int):=by omega
    have n1 : (k : Int) < (kids.length : Int):=by omega
    have hstep:=Lib.hid (walk_kid hlt hR.out)
    have hcall:=Lib.hid (ih.out k _ kids[k] hr (List.getElem?_eq_getElem hlt))
    generalize kids[k] = kd at hstep hcall
    have hbl : blk < wr.heap.size:=World.block_lt_of_cell? wr _ c0
    have hOx:=Lib.hid (hO.out.alloc (.cells #[.int .i64 op1,.string kind1,.string name1,.slice va1 vn1 vc1,.slice ka1 kn1 kc1] 31))
    have hgx:=Lib.hid (g_call hg.out (World.grownBy_alloc wr (.cells #[.int .i64 op1,.string kind1,.string name1,.slice va1 vn1 vc1,.slice ka1 kn1 kc1] 31) (some g)))
    have hTx:=Lib.hid (hT.out.on (World.grownBy_alloc wr (.cells #[.int .i64 op1,.string kind1,.string name1,.slice va1 vn1 vc1,.slice ka1 kn1 kc1] 31) (some g)))
    have hsx:=Lib.hid (sub_but_grown hs.out hgx.out)
    have hcx:=hcall.out (dep + 1) bk g _ (by omega) hsx.out hOx.out hTx.out
    rw [show ((dep + 1 + 0 : Nat) : Int) = (dep : Int) + 1 from rfl] at hcx
    replace hcx:=Lib.hid hcx
    go_wp2_with fail
    refine hcx.out.mono ?_
    rintro e w5 ⟨rfl,hg5,hO5⟩
    have hg6:=Lib.hid (g_call hgx.out hg5)
    have hT6:=Lib.hid (hTx.out.on hg5)
    replace hO5:=Lib.hid hO5
    clear hg5 c0 c1 c2 c3 c4 hr hOx hTx hsx hcall hcx hgx
    generalize walkS (pe kd) (dep + 1) bk = S at hstep hO5 ⊢
    obtain ⟨s1,s2⟩:=S
    simp only at hstep hO5 ⊢
    by_cases hS : s1 = 0
    case pos =>
      have hR6:=Lib.hid (hstep.out.1 hS)
      subst hS
      clear hstep
      go_wp2
      go_roundw
      case rel=>exact ⟨k + 1,s2,by omega,by go_num,hg6,hO5,hT6,hR6⟩
      case measure=>simp [intOf]; omega
    case neg =>
      have hR6:=Lib.hid (hstep.out.2 hS)
      have hSb : (s1 != 0) = true:=by simpa using hS
      clear hstep hS
      go_wp2
      go_ret
      exact ⟨by rw [← hR6.out]; rfl,hg6.out,by rw [← hR6.out]; exact hO5.out⟩
theorem expr_walk (m : Mem) (d : ED) (r : List Value) (h : EAt m d r) : WalkOk 46 0 m d r:=by
  induction h with
  | mk rows hv hk hl hL hE ih=>exact expr_step m _ _ _ _ _ _ _ rows hv hk hl hL hE ih
set_option maxRecDepth 100000 in
set_option maxHeartbeats 4000000 in
theorem shape_any (m : Mem) (d : ED) (r : List Value) (h : EAt m d r) (w : World) (hs : Sub m w.cell?) (hT : Tabs w) (hsp : SpaceTab w) :
    Calls Tryz.prog 22 #[.agg r.toArray] w fun e w'=>e = .returned (.int .i64 (formS (pe d)))∧Below w.heap.size w w':=by
  obtain ⟨op,kind,name,va,vn,vc,ka,kn,kc,rfl⟩:=eat_five h
  have hB1 : Below w.heap.size w (w.alloc (.cells #[.int .i64 op,.string kind,.string name,.slice va vn vc,.slice ka kn kc] 31)):=(Below.refl _ _).alloc (Nat.le_refl _) _
  have hX1:=Own.new w #[.int .i64 op,.string kind,.string name,.slice va vn vc,.slice ka kn kc] 31
  have hT1:=Lib.hid (hT.below hB1)
  have hsp1:=Lib.hid (show SpaceTab _ from var_below hB1 hsp)
  have hs1:=Lib.hid (hs.trans (sub_of_below hB1))
  replace hB1:=Lib.hid hB1
  have hgo:=Lib.hid (expr_walk m d _ h)
  go_enter Tryz.func22,Tryz.ntmps22
  go_upto_region 1 with fail
  generalize w.alloc (.cells #[.int .i64 op,.string kind,.string name,.slice va vn vc,.slice ka kn kc] 31) = w1 at hB1 hX1 hT1 hsp1 hs1 ⊢
  obtain ⟨eb,heb⟩ : ∃ z : Nat,Hid (z = w.heap.size):=⟨_,Lib.hid rfl⟩
  rw [← heb.out] at hX1 ⊢
  have hO2:=Lib.hid (Own.new w1 #[.int .i64 0] 3)
  have hX2:=Lib.hid (hX1.alloc (.cells #[.int .i64 0] 3))
  have hT2:=Lib.hid (TabsBut.new hT1.out hsp1.out (.cells #[.int .i64 0] 3))
  have hs2 : Sub m (but w1.heap.size (w1.alloc (.cells #[.int .i64 0] 3))):=fun p v h=>by
    have h1:=hs1.out _ _ h
    have hl:=World.block_lt_of_cell? w1 p h1
    unfold but
    rw [if_neg (by omega)]
    exact (World.cell?_of_block (Below.heap_alloc w1 _ _ hl)).trans h1
  replace hs2:=Lib.hid hs2
  have hg2:=Lib.hid (World.grownBy_alloc w1 (.cells #[.int .i64 0] 3) none)
  go_upto_region 2 with fail
  generalize w1.alloc (.cells #[.int .i64 0] 3) = w2 at hO2 hX2 hT2 hs2 hg2 ⊢
  obtain ⟨g,hg⟩ : ∃ z : Nat,Hid (z = w1.heap.size):=⟨_,Lib.hid rfl⟩
  rw [← hg.out] at hO2 hT2 hs2 ⊢
  obtain ⟨x0,x1,x2,x3,x4,-⟩:=own5z hX2.out
  go_wp2_with fail
  refine (show Calls _ _ _ _ _ from hgo.out 0 0 g w2 (by decide) hs2.out hO2.out hT2.out).mono ?_
  rintro e w3 ⟨rfl,hg3,-⟩
  have hF:=Lib.hid (show Below w.heap.size w w3 from (hB1.out.grown hg2.out hB1.out.size (fun k e=>by cases e)).grown hg3 (by have:=hg2.out.size; have:=hB1.out.size; omega) (fun k e=>by cases e; have:=hg.out; have:=hB1.out.size; omega))
  clear hg3 x0 x1 x2 x3 x4
  go_wp2
  go_ret
  exact ⟨rfl,hF.out⟩
end Go.Proofs.YtfffpflflggonaaGreatDoor.src
namespace Go.Proofs.YtfffpflflggonaaGreatDoor.src
open Go.RowKit lex value text schema draw clause
def ParseIs (l : List UInt8) (w : World) (e : Ending) (w' : World) : Prop:=Below w.heap.size w w'∧match readS l with
  | .ok x=>∃ r,e = .returned (.tuple #[.agg r.toArray,.int .i64 0,.int .i64 0])∧ExAt w'.cell? x r
  | .error (q,L)=>e = .returned (.tuple #[.agg #[.int .i64 0,.string ⟨#[]⟩,.string ⟨#[]⟩,.slice none 0 0,.slice none 0 0],.int .i64 L,.int .i64 q])
def endS (x : PE) : R Tok→Except (Int × Int) PE
  | .error e=>.error e
  | .ok _=>if formS x = 0 then .ok x else .error (formS x,0)
theorem read_end (l : List UInt8) (x : PE) (hx : ∀ b q,runS (startS l) (orF (lenP (startS l)) 0) = .ok (b,q)→x = b) : readS l = endS x (runS (aft (runS (startS l) (orF (lenP (startS l)) 0))) (takeS 6)):=by
  unfold readS
  unfold startS at hx ⊢
  cases ht : toksS l with
  | error e=>rfl
  | ok ts =>
    rw [ht] at hx
    simp only
    unfold condS
    show _ = endS x (runS (aft (orF ts.length 0 ts)) (takeS 6))
    have hx' : ∀ b q,orF ts.length 0 ts = .ok (b,q)→x = b:=hx
    cases ho : orF ts.length 0 ts with
    | error e=>rfl
    | ok v =>
      have e1 : x = v.1:=hx' v.1 v.2 ho
      subst e1
      show _ = endS v.1 (takeS 6 v.2)
      rw [show (Except.ok v : R PE) = .ok (v.1,v.2) from rfl,bnd_ok]
      cases takeS 6 v.2 <;> rfl
theorem len_start (l : List UInt8) : lenP (startS l)≤30001:=by
  unfold startS
  cases ht : toksS l with
  | error e=>exact Nat.zero_le _
  | ok ts=>exact toks_many ht
set_option maxRecDepth 100000 in
set_option maxHeartbeats 8000000 in
theorem parse_any (s : ByteArray) (w : World) (hs : s.size≤140737488355328) (hT : Tabs w) (hsp : SpaceTab w) :
    Calls Tryz.prog 9 #[.string s] w (ParseIs s.data.toList w):=by
  have hz:=Lib.hid (Own.new w #[.int .i64 0,.string ⟨#[]⟩,.string ⟨#[]⟩,.slice none 0 0,.slice none 0 0] 31)
  have hB0:=(Below.refl w.heap.size w).alloc (Nat.le_refl _) (.cells #[.int .i64 0,.string ⟨#[]⟩,.string ⟨#[]⟩,.slice none 0 0,.slice none 0 0] 31)
  have hT0:=Lib.hid (hT.below hB0)
  replace hB0:=Lib.hid hB0
  replace hT:=Lib.hid hT
  replace hsp:=Lib.hid hsp
  go_enter Tryz.func9,Tryz.ntmps9
  go_wp2_with fail
  generalize w.alloc (.cells #[.int .i64 0,.string ⟨#[]⟩,.string ⟨#[]⟩,.slice none 0 0,.slice none 0 0] 31) = w0 at hz hB0 hT0 ⊢
  obtain ⟨gz,hgz⟩ : ∃ z : Nat,Hid (z = w.heap.size):=⟨_,Lib.hid rfl⟩
  rw [← hgz.out] at hz ⊢
  refine (start_any s w0 hs hT0.out).mono ?_
  rintro e w1 ⟨g,M,T,tb,to',tc,rfl,hK,hM,hP,hg,hb⟩
  have hzl0:=hz.out.lt
  have hwg : w.heap.size < g:=by have:=hgz.out; omega
  have hz1:=Lib.hid (hz.out.below hb hzl0)
  have hB1:=Lib.hid (hB0.out.trans (hb.mono hB0.out.size))
  replace hK:=Lib.hid hK
  replace hM:=Lib.hid hM
  have hgz2 : gz < g:=by omega
  clear hb hB0 hT0 hz
  obtain ⟨s0,hs0⟩ : ∃ s0,Hid (s0 = startS s.data.toList):=⟨_,Lib.hid rfl⟩
  rw [← hs0.out] at hP
  have hlen : lenP s0≤30001:=by rw [hs0.out]; exact len_start _
  go_wp2_with fail
  refine (condition_any hK.out g 0 (lenP s0) hlen w1 s0 hM.out hP (Nat.le_refl _)).mono ?_
  rintro e w2 hr
  obtain ⟨x,o1,kd,nm,va,vn,vc,ka,kn,kc,rfl,hX,-,hxb⟩:=hr.ex
  have hz2:=hz1.out.kept hr.1 (by simp; omega)
  have hB2:=hB1.out.grown hr.1 hB1.out.size (fun k e=>by cases e; omega)
  have hP2 : PrP T tb to' tc g w2 0 (aft (runS s0 (orF (lenP s0) 0))):=hr.2.1
  have hend:=Lib.hid (show readS s.data.toList = endS x (runS (aft (runS s0 (orF (lenP s0) 0))) (takeS 6)) by
    rw [hs0.out] at hxb ⊢
    exact read_end _ x hxb)
  have hx3:=Lib.hid (Own.new w2 #[.int .i64 o1,.string kd,.string nm,.slice va vn vc,.slice ka kn kc] 31)
  have hz3:=Lib.hid (hz2.alloc (.cells #[.int .i64 o1,.string kd,.string nm,.slice va vn vc,.slice ka kn kc] 31))
  have hP3:=Lib.hid (hP2.alloc (.cells #[.int .i64 o1,.string kd,.string nm,.slice va vn vc,.slice ka kn kc] 31))
  have hB3:=Lib.hid (hB2.alloc hB2.size (.cells #[.int .i64 o1,.string kd,.string nm,.slice va vn vc,.slice ka kn kc] 31))
  have hX3:=Lib.hid (hX.mono (nex_grown (World.grownBy_alloc w2 (.cells #[.int .i64 o1,.string kd,.string nm,.slice va vn vc,.slice ka kn kc] 31) none) (fun k e=>by cases e)))
  have hM3:=Lib.hid ((sub_but_grown hM.out hr.1).trans (sub_of_grown (World.grownBy_alloc w2 (.cells #[.int .i64 o1,.string kd,.string nm,.slice va vn vc,.slice ka kn kc] 31) (some g))))
  have hzx : gz < w2.heap.size:=hz2.lt
  have hz11 : gz < w1.heap.size:=hz1.out.lt
  have hgx2 : g < w2.heap.size:=hP2.lt
  clear hr hX hxb hz2 hB2 hP2 hP hs0 hz1 hB1 hM
  generalize aft (runS s0 (orF (lenP s0) 0)) = s2 at hend hP3
  go_upto_region 3 with fail
  generalize w2.alloc (.cells #[.int .i64 o1,.string kd,.string nm,.slice va vn vc,.slice ka kn kc] 31) = w3 at hx3 hz3 hP3 hB3 hX3 hM3 ⊢
  obtain ⟨gx,hgx⟩ : ∃ z : Nat,Hid (z = w2.heap.size):=⟨_,Lib.hid rfl⟩
  rw [← hgx.out] at hx3 hzx hgx2 ⊢
  go_wp2_with fail
  refine (take_end hK.out g 0 w3 s2 hM3.out hP3.out).mono ?_
  rintro e w4 ⟨⟨v4,rfl⟩,hg4,hE⟩
  have hz4:=Lib.hid (hz3.out.kept hg4 (by simp; omega))
  have hx4:=Lib.hid (hx3.out.kept hg4 (by simp; omega))
  have hB4:=Lib.hid (hB3.out.grown hg4 hB3.out.size (fun k e=>by cases e; omega))
  have hX4:=Lib.hid (hX3.out.mono (nex_grown hg4 (fun k e=>by cases e; exact Or.inl (by simp))))
  clear hz3 hx3 hB3 hX3 hM3 hP3 hg4
  obtain ⟨tv,p,o',L,q,hO,hLq⟩:=hE
  have c3:=hO.cell 3
  have c4:=hO.cell 4
  have hgl:=hO.lt
  simp only [List.getElem?_toArray,List.getElem?_cons_succ,List.getElem?_cons_zero] at c3 c4
  replace hO:=Lib.hid hO
  obtain ⟨z0,z1,z2,z3,z4,f0,f1,f2,f3,f4⟩:=own5z hz4.out
  have hzl4:=hz4.out.lt
  cases hE : runS s2 (takeS 6) with
  | error e =>
    rw [hE] at hLq
    obtain ⟨rfl,hq⟩:=hLq
    have hqb : (q != 0) = true:=by simpa using hq
    have hF : ∀ u,w4.grownBy u (some gz)→ParseIs s.data.toList w (.returned (.tuple #[.agg #[.int .i64 0,.string ⟨#[]⟩,.string ⟨#[]⟩,.slice none 0 0,.slice none 0 0],.int .i64 L,.int .i64 q])) u:=fun u hu=>by
      refine ⟨hB4.out.grown hu hB4.out.size (fun k e=>by cases e; have:=hgz.out; omega),?_⟩
      rw [hend.out,hE]
      rfl
    replace hF:=Lib.hid hF
    clear hend hE hq
    go_wp2_with fail
    go_region
    all_goals
      go_wp2
      refine bodyPost_ret (v:=.tuple #[.agg #[.int .i64 0,.string ⟨#[]⟩,.string ⟨#[]⟩,.slice none 0 0,.slice none 0 0],.int .i64 L,.int .i64 q]) (by simp [results,Tryz.results9,go_sem, *]) rfl ?_
      exact hF.out _ (g_call (grown5 w4 gz _ _ _ _ _) (grown_drew _ _))
  | ok v5 =>
    rw [hE] at hLq
    obtain ⟨rfl,rfl⟩:=hLq
    rw [hE] at hend
    clear hE
    obtain ⟨d,hd,hdx⟩:=hX4.out.mono (nex_in _ _ _)
    have hT4:=Lib.hid (hT.out.below hB4.out)
    have hsp4:=Lib.hid (show SpaceTab w4 from var_below hB4.out hsp.out)
    obtain ⟨x0,x1,x2,x3,x4,-⟩:=own5z hx4.out
    go_wp2_with fail
    refine (shape_any w4.cell? d _ hd w4 (Sub.refl _) hT4.out hsp4.out).mono ?_
    rintro e w5 ⟨rfl,hb5⟩
    rw [hdx]
    have hz5:=hz4.out.below hb5 hzl4
    have hx5:=hx4.out.below hb5 hx4.out.lt
    have hB5:=Lib.hid (hB4.out.trans (hb5.mono hB4.out.size))
    have hX5:=Lib.hid (hX4.out.mono (nex_grown (grown_of_below hb5 none) (fun k e=>by cases e)))
    clear z0 z1 z2 z3 z4 f0 f1 f2 f3 f4 x0 x1 x2 x3 x4 hd hdx hb5 c3 c4
    obtain ⟨z0,z1,z2,z3,z4,f0,f1,f2,f3,f4⟩:=own5z hz5
    obtain ⟨x0,x1,x2,x3,x4,-⟩:=own5z hx5
    have hzl5:=hz5.lt
    by_cases h0 : formS x = 0
    · have hF:=Lib.hid (show ParseIs s.data.toList w (.returned (.tuple #[.agg #[.int .i64 o1,.string kd,.string nm,.slice va vn vc,.slice ka kn kc],.int .i64 0,.int .i64 0])) (((((w5.setCell ⟨gz,0,none⟩ (.int .i64 o1)).setCell ⟨gz,1,none⟩ (.string kd)).setCell ⟨gz,2,none⟩ (.string nm)).setCell ⟨gz,3,none⟩ (.slice va vn vc)).setCell ⟨gz,4,none⟩ (.slice ka kn kc)) from by
        refine ⟨hB5.out.grown (grown5 w5 gz _ _ _ _ _) hB5.out.size (fun k e=>by cases e; have:=hgz.out; omega),?_⟩
        rw [hend.out,show endS x (.ok v5) = .ok x from if_pos h0]
        exact ⟨_,rfl,hX5.out.mono ((nex_set5 (q:=gz) hz11 _ _ _ _ _).trans (nex_in _ _ _))⟩)
      rw [h0]
      clear hend h0
      go_wp2
      refine bodyPost_ret (v:=.tuple #[.agg #[.int .i64 o1,.string kd,.string nm,.slice va vn vc,.slice ka kn kc],.int .i64 0,.int .i64 0]) (by simp [results,Tryz.results9,go_sem, *]) rfl ?_
      exact hF.out
    · have hF:=Lib.hid (show ParseIs s.data.toList w (.returned (.tuple #[.agg #[.int .i64 0,.string ⟨#[]⟩,.string ⟨#[]⟩,.slice none 0 0,.slice none 0 0],.int .i64 0,.int .i64 (formS x)])) (((((w5.setCell ⟨gz,0,none⟩ (.int .i64 0)).setCell ⟨gz,1,none⟩ (.string ⟨#[]⟩)).setCell ⟨gz,2,none⟩ (.string ⟨#[]⟩)).setCell ⟨gz,3,none⟩ (.slice none 0 0)).setCell ⟨gz,4,none⟩ (.slice none 0 0)) from by
        refine ⟨hB5.out.grown (grown5 w5 gz _ _ _ _ _) hB5.out.size (fun k e=>by cases e; have:=hgz.out; omega),?_⟩
        rw [hend.out,show endS x (.ok v5) = .error (formS x,0) from if_neg h0])
      have hfb : (formS x != 0) = true:=by simpa using h0
      clear hend h0
      generalize formS x = fx at hF hfb ⊢
      go_wp2
      refine bodyPost_ret (v:=.tuple #[.agg #[.int .i64 0,.string ⟨#[]⟩,.string ⟨#[]⟩,.slice none 0 0,.slice none 0 0],.int .i64 0,.int .i64 fx]) (by simp [results,Tryz.results9,go_sem, *]) rfl ?_
      exact hF.out
end Go.Proofs.YtfffpflflggonaaGreatDoor.src
