/- SourcePrints: the walk of the law. -/
import Derived.Test.YtfffpflflggonaaGreatDoorKS32
import Derived.Test.YtfffpflflggonaaGreatDoorKS32
import Derived.Test.YtfffpflflggonaaGreatDoorKS34
import Derived.Test.YtfffpflflggonaaGreatDoorKS43
import Derived.Test.YtfffpflflggonaaGreatDoorKS43
import Derived.Test.YtfffpflflggonaaGreatDoorKS44
import Derived.Test.YtfffpflflggonaaGreatDoorKDraw7
import Derived.Test.YtfffpflflggonaaGreatDoorKDrawA
namespace Go.Proofs.YtfffpflflggonaaGreatDoor.src
open Go.RowKit Go.Sort lex value text schema draw clause
attribute [local go_sem ↓] Go.wp_at_zero Go.wp_at_succ
theorem newM_offS (B b : Nat) (w : World) : Off b (newM B b w):=by
  intro p v hp
  unfold newM at hp
  split at hp
  · cases hp
  · rename_i h
    exact fun e=>h (Or.inr e)
def segsS : List ByteArray:=[⟨#[97,108,112,104,97]⟩,⟨#[98,101,116,97]⟩]
def CndAt (m : Mem) (A : Array Value) (j : Nat) : Prop:=∃ (d : ED) (op : Int) (kind name : ByteArray) (va : Option Addr) (vn vc : Nat) (ka : Option Addr) (kn kc : Nat),
  A[j * 5]? = some (.int .i64 op)∧A[j * 5 + 1]? = some (.string kind)∧A[j * 5 + 2]? = some (.string name)∧A[j * 5 + 3]? = some (.slice va vn vc)∧A[j * 5 + 4]? = some (.slice ka kn kc)∧EAt m d [.int .i64 op,.string kind,.string name,.slice va vn vc,.slice ka kn kc]∧NmD d
def ThreeR (w : World) (v : Value) (u : World) : Prop:=∃ (g : Nat) (A : Array Value),v = .slice (some ⟨g,0,none⟩) 3 3∧Own u g A 31∧(∀ j,j < 3→CndAt u.cell? A j)∧Below w.heap.size w u
theorem three_of {w u : World} {g : Nat} {d1 d2 d3 : ED} {o1 o2 o3 : Int} {k1 k2 k3 n1 n2 n3 : ByteArray} {a1 a2 a3 b1 b2 b3 : Option Addr} {p1 p2 p3 q1 q2 q3 r1 r2 r3 s1 s2 s3 : Nat}
    (hA : Own u g #[.int .i64 o1,.string k1,.string n1,.slice a1 p1 q1,.slice b1 r1 s1,.int .i64 o2,.string k2,.string n2,.slice a2 p2 q2,.slice b2 r2 s2,.int .i64 o3,.string k3,.string n3,.slice a3 p3 q3,.slice b3 r3 s3] 31)
    (h1 : EAt u.cell? d1 [.int .i64 o1,.string k1,.string n1,.slice a1 p1 q1,.slice b1 r1 s1]) (h2 : EAt u.cell? d2 [.int .i64 o2,.string k2,.string n2,.slice a2 p2 q2,.slice b2 r2 s2]) (h3 : EAt u.cell? d3 [.int .i64 o3,.string k3,.string n3,.slice a3 p3 q3,.slice b3 r3 s3])
    (m1 : NmD d1) (m2 : NmD d2) (m3 : NmD d3) (hB : Below w.heap.size w u) : ThreeR w (.slice (some ⟨g,0,none⟩) 3 3) u:=by
  refine ⟨g,_,rfl,hA,fun j hj=>?_,hB⟩
  match j,hj with
  | 0,_=>exact ⟨d1,o1,k1,n1,a1,p1,q1,b1,r1,s1,rfl,rfl,rfl,rfl,rfl,h1,m1⟩
  | 1,_=>exact ⟨d2,o2,k2,n2,a2,p2,q2,b2,r2,s2,rfl,rfl,rfl,rfl,rfl,h2,m2⟩
  | 2,_=>exact ⟨d3,o3,k3,n3,a3,p3,q3,b3,r3,s3,rfl,rfl,rfl,rfl,rfl,h3,m3⟩
set_option maxRecDepth 100000 in
set_option maxHeartbeats 16000000 in
theorem prints_walk (a : Option Addr) (n c : Nat) (de : ED) (re : List Value) (w : World) (h : BytesAt w.cell? a n c) (hEe : EAt w.cell? de re) (hNe : NmD de)
    (hg : ∀ b,w.heap.size≤b→Glob (but b w)) (ht : TestsAt w.cell?) (hT : Tabs w) (hsp : SpaceTab w) :
    Calls Tryz.prog 4 #[.slice a n c,.agg re.toArray] w fun e w'=>e = .returned (.bool true)∧Below w.heap.size w w':=by
  obtain ⟨eop,ekd,enm,eva,evn,evc,eka,ekn,ekc,rfl⟩:=eat_five hEe
  have hB0 : Below w.heap.size w (w.alloc (.cells #[.int .i64 eop,.string ekd,.string enm,.slice eva evn evc,.slice eka ekn ekc] 31)):=(Below.refl _ _).alloc (Nat.le_refl _) _
  have hOe:=Lib.hid (Own.new w #[.int .i64 eop,.string ekd,.string enm,.slice eva evn evc,.slice eka ekn ekc] 31)
  have hA:=Lib.hid h
  have hg0:=Lib.hid hg
  have hT0:=Lib.hid hT
  have ht0:=Lib.hid ht
  have hsp0:=Lib.hid hsp
  replace hEe:=Lib.hid hEe
  replace hNe:=Lib.hid hNe
  replace hB0:=Lib.hid hB0
  clear h hg hT ht hsp
  go_enter Tryz.func4,Tryz.ntmps4
  go_wp2_with fail
  generalize w.alloc (.cells #[.int .i64 eop,.string ekd,.string enm,.slice eva evn evc,.slice eka ekn ekc] 31) = w0 at hB0 hOe ⊢
  obtain ⟨ge,hge⟩ : ∃ g : Nat,Hid (g = w.heap.size):=⟨_,Lib.hid rfl⟩
  rw [← hge.out] at hOe ⊢
  refine (src.awake_any _ (hT0.out.below hB0.out) (show SpaceTab _ from var_below hB0.out hsp0.out)).mono ?_
  rintro e w1 ⟨rfl,hb1⟩
  have hB1:=Lib.hid (hB0.out.trans (hb1.mono hB0.out.size))
  have hOe1:=hOe.out.below hb1 hOe.out.lt
  obtain ⟨x0,x1,x2,x3,x4,-⟩:=own5z hOe1
  have hel:=hOe1.lt
  replace hOe1:=Lib.hid hOe1
  clear hb1 hB0 hOe
  by_cases hbig : 20 < ekn∨30 < evn
  · by_cases hk20 : 20 < ekn
    · have i1 : (20 : Int) < (ekn : Int):=by omega
      clear hbig
      go_wp2
      go_ret
      exact ⟨rfl,hB1.out⟩
    · have i1 : ¬ (20 : Int) < (ekn : Int):=by omega
      have i2 : (30 : Int) < (evn : Int):=by omega
      clear hbig hk20
      go_wp2
      go_ret
      exact ⟨rfl,hB1.out⟩
  have i1 : ¬ (20 : Int) < (ekn : Int):=by omega
  have i2 : ¬ (30 : Int) < (evn : Int):=by omega
  clear hbig
  go_wp2_with fail
  refine (new_any a n c 100 _ (by omega) (by omega) (hA.out.mono (sub_of_below hB1.out))).mono ?_
  rintro e w3 ⟨rfl,⟨a',n',c',hC⟩,hb3⟩
  have hsz : w.heap.size≤w1.heap.size:=hB1.out.size
  have hlt:=hC.lt
  have hge1 : ge < w1.heap.size:=hOe1.out.lt
  have hB3:=hB1.out.trans (hb3.mono hsz)
  have hOe3:=hOe1.out.below hb3 hOe1.out.lt
  have hg3:=(hg0.out w1.heap.size hsz).mono (sub_of_grown (grown_of_below ((hB1.out.trans (hb3.mono hsz)).mono (Nat.le_refl _)) _))
  have hG5 : w3.grownBy (w3.alloc (.cells #[.string ⟨#[97,108,112,104,97]⟩,.string ⟨#[98,101,116,97]⟩] 9)) (some w1.heap.size):=g_alloc (grown_refl _ _) _
  have hC5:=Lib.hid (hC.still hG5 (hC.1.alloc _))
  have hg5:=Lib.hid (hg3.mono (sub_of_grown hG5))
  have hB5:=Lib.hid (hB3.trans (below_of_grown hG5 hB3.size hsz))
  have hOe5:=Lib.hid (hOe3.kept hG5 (by simp; omega))
  have hAB:=Lib.hid (rows_of_own_but (b:=w1.heap.size) (Own.new w3 #[.string ⟨#[97,108,112,104,97]⟩,.string ⟨#[98,101,116,97]⟩] 9) (by omega) 1 (segsS.map strRow) (by simp [strRow]) rfl 2 (by simp [segsS]) (by decide))
  clear hG5 hC hb3 hB1 hOe1 hg3 hB3 hOe3 x0 x1 x2 x3 x4 i1 i2 hel
  go_wp2_with fail
  generalize w3.alloc (.cells #[.string ⟨#[97,108,112,104,97]⟩,.string ⟨#[98,101,116,97]⟩] 9) = w5 at hC5 hg5 hB5 hOe5 hAB ⊢
  refine (dexpr_any w1.heap.size a' n' c' _ segsS ⟨by decide,by decide⟩ 3 3 w5 (by omega) (by omega) (by omega) hC5.out hg5.out hAB.out).mono ?_
  rintro e w6 ⟨⟨d,op,kd,nm,xa,xn,xc,ka,kn,kc,rfl,hE6,hF6⟩,hH6,hG6⟩
  have hG7 : w5.grownBy (w6.alloc (.cells #[.int .i64 op,.string kd,.string nm,.slice xa xn xc,.slice ka kn kc] 31)) (some w1.heap.size):=g_alloc hG6 _
  have hC7:=Lib.hid (hC5.out.still hG7 (hH6.alloc _))
  have hg7:=Lib.hid (hg5.out.mono (sub_of_grown hG7))
  have hB7:=Lib.hid (hB5.out.trans (below_of_grown hG7 hB5.out.size hsz))
  have hOe7:=Lib.hid (hOe5.out.kept hG7 (by simp; omega))
  have hOt7:=Lib.hid (Own.new w6 #[.int .i64 op,.string kd,.string nm,.slice xa xn xc,.slice ka kn kc] 31)
  have hEt7:=Lib.hid (hE6.mono (newM_grown (g_alloc (grown_refl w6 (some w1.heap.size)) (.cells #[.int .i64 op,.string kd,.string nm,.slice xa xn xc,.slice ka kn kc] 31))))
  have hsm7:=Lib.hid hF6.2.1
  have hx6 : w1.heap.size < w6.heap.size:=hH6.lt
  clear hG7 hG6 hH6 hE6 hF6 hC5 hg5 hB5 hOe5 hAB
  obtain ⟨t0,t1,t2,t3,t4,-⟩:=own5z hOt7.out
  obtain ⟨x0,x1,x2,x3,x4,-⟩:=own5z hOe7.out
  have htl:=hOt7.out.lt
  go_upto_region 7 with fail
  generalize w6.alloc (.cells #[.int .i64 op,.string kd,.string nm,.slice xa xn xc,.slice ka kn kc] 31) = w7 at hC7 hg7 hB7 hOe7 hOt7 hEt7 t0 t1 t2 t3 t4 x0 x1 x2 x3 x4 htl ⊢
  obtain ⟨gt,hgt⟩ : ∃ g : Nat,g = w6.heap.size:=⟨_,rfl⟩
  rw [← hgt] at hOt7 hx6 t0 t1 t2 t3 t4 htl ⊢
  clear hgt
  go_cut [38,39,40] (fun s38 s39 s40 wy=>s39 = .int .i64 3∧s40 = .int .i64 0∧Hid (ThreeR w s38 wy))
  case first =>
    have hGd:=grown_drew w7 (some w1.heap.size)
    have hH_w8:=hC7.out.1.drew
    have hO_w8:=hOt7.out.drew
    have hE_w8:=hOe7.out.drew
    refine wp_region_held_drew (S:=(fun W=>(W.cell? ⟨gt,0,none⟩ = some (.int .i64 op)∧W.cell? ⟨gt,1,none⟩ = some (.string kd)∧W.cell? ⟨gt,2,none⟩ = some (.string nm)∧W.cell? ⟨gt,3,none⟩ = some (.slice xa xn xc)∧W.cell? ⟨gt,4,none⟩ = some (.slice ka kn kc))∧W.cell? ⟨ge,0,none⟩ = some (.int .i64 eop)∧W.cell? ⟨ge,1,none⟩ = some (.string ekd)∧W.cell? ⟨ge,2,none⟩ = some (.string enm)∧W.cell? ⟨ge,3,none⟩ = some (.slice eva evn evc)∧W.cell? ⟨ge,4,none⟩ = some (.slice eka ekn ekc))) (by kernel_rfl) ⟨⟨t0,t1,t2,t3,t4⟩,x0,x1,x2,x3,x4⟩ (fun hHeld=>?_)
    clear t0 t1 t2 t3 t4 x0 x1 x2 x3 x4 htl
    generalize w7.drew = w8 at hGd hH_w8 hO_w8 hE_w8 hHeld ⊢
    have hEt8:=Lib.hid (hEt7.out.mono (newM_grown hGd))
    have hB8:=Lib.hid (hB7.out.trans (below_of_grown hGd hB7.out.size hsz))
    have hcall:=Lib.hid (cond_grow w1.heap.size a' n' c' 4 (by omega) (newM w5.heap.size w1.heap.size w8) (newM_offS _ _ _) hEt8.out hsm7.out w8 (hC7.out.still hGd hH_w8) (hg7.out.mono (sub_of_grown hGd)) ((newM_but _ _ _).trans (but_sub _ _)))
    clear hGd
    refine wpAnyH_take (i:=0) (oi:=?oi1) (v:=?v1) ?ho1 (by kernel_rfl) (by kernel_rfl) (by kernel_rfl) ?hp1 (Or.inl ⟨?hw1,?hy1⟩) (by assumption) ?rest1
    case ho1=>simp only [List.getElem?_toArray,List.getElem?_cons_zero]; rfl
    case hp1=>exact fun _ _ _ h=>h
    case hw1=>rfl
    case hy1 =>
      intro W hSw
      obtain ⟨⟨t0,t1,t2,t3,t4⟩,x0,x1,x2,x3,x4⟩:=hSw
      go_simp
      try exact rfl
    simp only [Act.put,List.setIfInBounds_toArray,List.set_cons_zero,List.set_cons_succ]
    refine wpAnyH_take (i:=1) (oi:=?oi2) (v:=?v2) ?ho2 (by kernel_rfl) (by kernel_rfl) (by kernel_rfl) ?hp2 (Or.inl ⟨?hw2,?hy2⟩) (by assumption) ?rest2
    case ho2=>simp only [List.getElem?_toArray,List.getElem?_cons_succ,List.getElem?_cons_zero]; rfl
    case hp2=>exact fun _ _ _ h=>h
    case hw2=>rfl
    case hy2 =>
      intro W hSw
      obtain ⟨⟨t0,t1,t2,t3,t4⟩,x0,x1,x2,x3,x4⟩:=hSw
      go_simp
      try exact rfl
    simp only [Act.put,List.setIfInBounds_toArray,List.set_cons_zero,List.set_cons_succ]
    refine wpAnyH_take (i:=2) (oi:=?oi3) (v:=?v3) ?ho3 (by kernel_rfl) (by kernel_rfl) (by kernel_rfl) ?hp3 (Or.inl ⟨?hw3,?hy3⟩) (by assumption) ?rest3
    case ho3=>simp only [List.getElem?_toArray,List.getElem?_cons_succ,List.getElem?_cons_zero]; rfl
    case hp3=>exact fun _ _ _ h=>h
    case hw3=>rfl
    case hy3 =>
      intro W hSw
      obtain ⟨⟨t0,t1,t2,t3,t4⟩,x0,x1,x2,x3,x4⟩:=hSw
      go_simp
      try exact rfl
    simp only [Act.put,List.setIfInBounds_toArray,List.set_cons_zero,List.set_cons_succ]
    refine wpAnyH_take (i:=4) (oi:=?oi4) (v:=?v4) ?ho4 (by kernel_rfl) (by kernel_rfl) (by kernel_rfl) ?hp4 (Or.inl ⟨?hw4,?hy4⟩) (by assumption) ?rest4
    case ho4=>simp only [List.getElem?_toArray,List.getElem?_cons_succ,List.getElem?_cons_zero]; rfl
    case hp4=>exact fun _ _ _ h=>h
    case hw4=>rfl
    case hy4 =>
      intro W hSw
      obtain ⟨⟨t0,t1,t2,t3,t4⟩,x0,x1,x2,x3,x4⟩:=hSw
      go_simp
      try exact rfl
    simp only [Act.put,List.setIfInBounds_toArray,List.set_cons_zero,List.set_cons_succ]
    refine wpAnyH_take (i:=7) (oi:=?oi5) (v:=?v5) ?ho5 (by kernel_rfl) (by kernel_rfl) (by kernel_rfl) ?hp5 (Or.inl ⟨?hw5,?hy5⟩) (by assumption) ?rest5
    case ho5=>simp only [List.getElem?_toArray,List.getElem?_cons_succ,List.getElem?_cons_zero]; rfl
    case hp5=>exact fun _ _ _ h=>h
    case hw5=>rfl
    case hy5 =>
      intro W hSw
      obtain ⟨⟨t0,t1,t2,t3,t4⟩,x0,x1,x2,x3,x4⟩:=hSw
      go_simp
      try exact rfl
    simp only [Act.put,List.setIfInBounds_toArray,List.set_cons_zero,List.set_cons_succ]
    refine wpAnyH_ready (rs:=[3]) (by kernel_rfl) (by simp) ?_
    refine AllReadyH.cons rfl (fun K hK=>?_) AllReadyH.nil
    go_simp
    refine hcall.out.mono ?_
    rintro e w9 ⟨⟨M2,dw,wop,wkd,wnm,wva,wvn,wvc,wka,wkn,wkc,rfl,hext,hsub,-,hEw,hGr⟩,hH9,hG9⟩
    have hB9:=Lib.hid (hB8.out.trans (below_of_grown hG9 hB8.out.size hsz))
    have hE9:=hE_w8.kept hG9 (by simp; omega)
    have hO9:=hO_w8.kept hG9 (by simp; omega)
    have hX9:=Lib.hid ((hEt8.out.mono hext.sub).mono hsub)
    have hW9:=Lib.hid (hEw.mono hsub)
    have hNw:=Lib.hid (nm_few dw hGr.2)
    obtain ⟨t0,t1,t2,t3,t4,-⟩:=own5z hO9
    obtain ⟨x0,x1,x2,x3,x4,-⟩:=own5z hE9
    refine hK.out _ _ ⟨⟨t0,t1,t2,t3,t4⟩,x0,x1,x2,x3,x4⟩ (fun hHeld=>?_)
    clear hK K hG9 hH9 hext hsub hEw hGr t0 t1 t2 t3 t4 x0 x1 x2 x3 x4 hcall hEt8 hB8
    refine wpAnyH_ready (rs:=[5]) (by kernel_rfl) (by simp) ?_
    refine AllReadyH.cons rfl (fun K hK=>?_) AllReadyH.nil
    go_simp
    have hA_a : Own (w9.alloc (.cells #[.int .i64 op,.string kd,.string nm,.slice xa xn xc,.slice ka kn kc,.int .i64 wop,.string wkd,.string wnm,.slice wva wvn wvc,.slice wka wkn wkc,.int .i64 eop,.string ekd,.string enm,.slice eva evn evc,.slice eka ekn ekc] 31)) w9.heap.size #[.int .i64 op,.string kd,.string nm,.slice xa xn xc,.slice ka kn kc,.int .i64 wop,.string wkd,.string wnm,.slice wva wvn wvc,.slice wka wkn wkc,.int .i64 eop,.string ekd,.string enm,.slice eva evn evc,.slice eka ekn ekc] 31:=Own.new _ _ _
    have hs_a:=sub_alloc (fun _ _ h=>h : Sub w9.cell? w9.cell?) (.cells #[.int .i64 op,.string kd,.string nm,.slice xa xn xc,.slice ka kn kc,.int .i64 wop,.string wkd,.string wnm,.slice wva wvn wvc,.slice wka wkn wkc,.int .i64 eop,.string ekd,.string enm,.slice eva evn evc,.slice eka ekn ekc] 31)
    have hB_a:=hB9.out.alloc hB9.out.size (.cells #[.int .i64 op,.string kd,.string nm,.slice xa xn xc,.slice ka kn kc,.int .i64 wop,.string wkd,.string wnm,.slice wva wvn wvc,.slice wka wkn wkc,.int .i64 eop,.string ekd,.string enm,.slice eva evn evc,.slice eka ekn ekc] 31)
    have hfin:=Lib.hid (three_of hA_a (hX9.out.mono hs_a) (hW9.out.mono hs_a) (hEe.out.mono (sub_of_below hB_a)) (nm_few d (fewE_of_small (Nat.le_refl _) d hsm7.out)) hNw.out hNe.out hB_a)
    have hO_a:=hO9.alloc (.cells #[.int .i64 op,.string kd,.string nm,.slice xa xn xc,.slice ka kn kc,.int .i64 wop,.string wkd,.string wnm,.slice wva wvn wvc,.slice wka wkn wkc,.int .i64 eop,.string ekd,.string enm,.slice eva evn evc,.slice eka ekn ekc] 31)
    have hE_a:=hE9.alloc (.cells #[.int .i64 op,.string kd,.string nm,.slice xa xn xc,.slice ka kn kc,.int .i64 wop,.string wkd,.string wnm,.slice wva wvn wvc,.slice wka wkn wkc,.int .i64 eop,.string ekd,.string enm,.slice eva evn evc,.slice eka ekn ekc] 31)
    obtain ⟨t0,t1,t2,t3,t4,-⟩:=own5z hO_a
    obtain ⟨x0,x1,x2,x3,x4,-⟩:=own5z hE_a
    refine hK.out _ _ ⟨⟨t0,t1,t2,t3,t4⟩,x0,x1,x2,x3,x4⟩ (fun hHeld=>?_)
    clear hK K t0 t1 t2 t3 t4 x0 x1 x2 x3 x4
    refine wpAnyH_take (i:=6) (oi:=?oi6) (v:=?v6) ?ho6 (by kernel_rfl) (by kernel_rfl) (by kernel_rfl) ?hp6 (Or.inl ⟨?hw6,?hy6⟩) (by assumption) ?rest6
    case ho6=>simp only [List.getElem?_toArray,List.getElem?_cons_succ,List.getElem?_cons_zero]; rfl
    case hp6=>exact fun _ _ _ h=>h
    case hw6=>rfl
    case hy6 =>
      intro W hSw
      obtain ⟨⟨t0,t1,t2,t3,t4⟩,x0,x1,x2,x3,x4⟩:=hSw
      go_simp
      try exact rfl
    simp only [Act.put,List.setIfInBounds_toArray,List.set_cons_zero,List.set_cons_succ]
    refine wpAnyH_done (by kernel_rfl) ?_ _
    go_wp2
    go_meet
    exact ⟨rfl,rfl,hfin⟩
  case rest =>
  clear hC7 hg7 hB7 hOe7 hOt7 hEt7 hsm7
  obtain ⟨rfl,rfl,h3⟩:=hcut
  obtain ⟨g,A,rfl,hA3,hc3,hB3⟩:=h3.out
  replace hA3:=Lib.hid hA3
  replace hc3:=Lib.hid hc3
  replace hB3:=Lib.hid hB3
  have ht3:=Lib.hid (ht0.out.mono (sub_of_below hB3.out))
  have hT3:=Lib.hid (hT0.out.below hB3.out)
  have hsp3:=Lib.hid (show SpaceTab wc from var_below hB3.out hsp0.out)
  clear h3 hx6 hsz hlt hge1
  go_wp2
  go_loopw [40] (fun s wr=>∃ k : Nat,k≤3∧s = .int .i64 k∧Hid (Below wc.heap.size wc wr)) (fun s _=>3 - (intOf s).toNat)
  case atStart=>exact ⟨0,by omega,rfl,Lib.hid (Below.refl _ _)⟩
  case round =>
    obtain ⟨k,hk,rfl,hBr⟩:=hrel
    by_cases hk3 : k < 3
    · obtain ⟨d,op,kd,nm,va,vn,vc,ka,kn,kc,c0,c1,c2,c3,c4,hE,hN⟩:=hc3.out k hk3
      have hAr:=hA3.out.below hBr.out hA3.out.lt
      have y0 : wr.cell? ⟨g,k * 5,none⟩ = _:=(hAr.cell (k * 5)).trans c0
      have y1 : wr.cell? ⟨g,k * 5 + 1,none⟩ = _:=(hAr.cell (k * 5 + 1)).trans c1
      have y2 : wr.cell? ⟨g,k * 5 + 2,none⟩ = _:=(hAr.cell (k * 5 + 2)).trans c2
      have y3 : wr.cell? ⟨g,k * 5 + 3,none⟩ = _:=(hAr.cell (k * 5 + 3)).trans c3
      have y4 : wr.cell? ⟨g,k * 5 + 4,none⟩ = _:=(hAr.cell (k * 5 + 4)).trans c4
      have k0 : (0 : Int)≤(k : Int):=Int.natCast_nonneg _
      have kI : (k : Int) < 3:=by omega
      have hO1:=Lib.hid (Own.new wr #[.int .i64 op,.string kd,.string nm,.slice va vn vc,.slice ka kn kc] 31)
      have hb1:=(Below.refl wr.heap.size wr).alloc (Nat.le_refl _) (.cells #[.int .i64 op,.string kd,.string nm,.slice va vn vc,.slice ka kn kc] 31)
      have hB1:=Lib.hid (hBr.out.trans (hb1.mono hBr.out.size))
      replace hE:=Lib.hid hE
      replace hN:=Lib.hid hN
      clear c0 c1 c2 c3 c4 hAr hb1
      go_upto_region 10 with fail
      clear y0 y1 y2 y3 y4
      generalize wr.alloc (.cells #[.int .i64 op,.string kd,.string nm,.slice va vn vc,.slice ka kn kc] 31) = w1' at hO1 hB1 ⊢
      obtain ⟨gy,hgy⟩ : ∃ z : Nat,Hid (z = wr.heap.size):=⟨_,Lib.hid rfl⟩
      rw [← hgy.out] at hO1 ⊢
      obtain ⟨z0,z1,z2,z3,z4,-⟩:=own5z hO1.out
      have hzl:=hO1.out.lt
      have hfs:=Lib.hid (form_short (pe d))
      go_wp2_with fail
      refine (print_any wc.cell? d _ hE.out ht3.out hfs.out w1' (sub_of_below hB1.out) (hT3.out.below hB1.out) (show SpaceTab _ from var_below hB1.out hsp3.out)).mono ?_
      rintro e w2' ⟨rfl,hb2⟩
      have hO2:=Lib.hid (hO1.out.below hb2 hO1.out.lt)
      have hB2:=Lib.hid (hB1.out.trans (hb2.mono hB1.out.size))
      clear hb2 z0 z1 z2 z3 z4 hzl hO1 hB1
      obtain ⟨z0,z1,z2,z3,z4,-⟩:=own5z hO2.out
      have hzl:=hO2.out.lt
      have hpr:=Lib.hid (print_ref wc.cell? d _ hE.out hN.out hfs.out w2' (sub_of_below hB2.out) (hT3.out.below hB2.out) (show SpaceTab _ from var_below hB2.out hsp3.out))
      by_cases h0 : formS (pe d) = 0
      · have hlen:=form_short (pe d) h0
        have hrd:=Lib.hid (print_read (pe d) h0)
        have hR : printR2 (pe d) = .tuple #[.string ⟨(printE (pe d)).toArray⟩,.int .i64 0]:=if_pos h0
        rw [hR] at hpr ⊢
        obtain ⟨str,hstr⟩ : ∃ z : ByteArray,Hid (z = ⟨(printE (pe d)).toArray⟩):=⟨_,Lib.hid rfl⟩
        rw [← hstr.out] at hpr ⊢
        have hsd:=Lib.hid (show str.data.toList = printE (pe d) by rw [hstr.out])
        have hss : str.size = (printE (pe d)).length:=by rw [size_list,hsd.out]
        clear h0 hR hfs
        go_wp2_with fail
        refine hpr.out.mono ?_
        rintro e w3' ⟨rfl,hb3⟩
        have hO3:=Lib.hid (hO2.out.below hb3 hO2.out.lt)
        have hB3':=Lib.hid (hB2.out.trans (hb3.mono hB2.out.size))
        clear hb3 z0 z1 z2 z3 z4 hzl hO2 hB2 hpr
        obtain ⟨z0,z1,z2,z3,z4,-⟩:=own5z hO3.out
        have hzl:=hO3.out.lt
        by_cases hl : str.size≤30000
        · have il : (str.size : Int)≤30000:=by omega
          have hrd2:=Lib.hid (show outS (readS str.data.toList) = (pe d,0,0) by rw [hsd.out,hrd.out (by omega)]; rfl)
          go_wp2_with fail
          refine (parse_any str w3' (by omega) (hT3.out.below hB3'.out) (show SpaceTab _ from var_below hB3'.out hsp3.out)).mono ?_
          rintro e w4' h4
          obtain ⟨hb4,r,rfl,hX⟩:=parse_out h4 hrd2.out
          obtain ⟨op',kd',nm',va',ka',vn',vc',kn',kc',rfl⟩:=ex_row hX
          have hO4:=hO3.out.below hb4 hO3.out.lt
          have hb5:=(Below.refl w4'.heap.size w4').alloc (Nat.le_refl _) (.cells #[.int .i64 op',.string kd',.string nm',.slice va' vn' vc',.slice ka' kn' kc'] 31)
          have hB4:=hB3'.out.trans (hb4.mono hB3'.out.size)
          have hB5:=Lib.hid (hB4.trans (hb5.mono hB4.size))
          have hX5:=Lib.hid (hX.mono (sub_of_below hb5))
          have hO5:=Lib.hid (hO4.alloc (.cells #[.int .i64 op',.string kd',.string nm',.slice va' vn' vc',.slice ka' kn' kc'] 31))
          have hP5:=Lib.hid (Own.new w4' #[.int .i64 op',.string kd',.string nm',.slice va' vn' vc',.slice ka' kn' kc'] 31)
          clear h4 hb4 hX hb5 hB4 hO4 z0 z1 z2 z3 z4 hzl hO3 hB3'
          go_upto_region 16 with fail
          generalize w4'.alloc (.cells #[.int .i64 op',.string kd',.string nm',.slice va' vn' vc',.slice ka' kn' kc'] 31) = w5' at hO5 hP5 hB5 hX5 ⊢
          obtain ⟨gp,hgp⟩ : ∃ z : Nat,Hid (z = w4'.heap.size):=⟨_,Lib.hid rfl⟩
          rw [← hgp.out] at hP5 ⊢
          obtain ⟨z0,z1,z2,z3,z4,-⟩:=own5z hO5.out
          obtain ⟨q0,q1,q2,q3,q4,-⟩:=own5z hP5.out
          have hzl:=hO5.out.lt
          have hql:=hP5.out.lt
          have hsame:=Lib.hid (show Calls Tryz.prog 11 #[.agg #[.int .i64 op,.string kd,.string nm,.slice va vn vc,.slice ka kn kc],.agg #[.int .i64 op',.string kd',.string nm',.slice va' vn' vc',.slice ka' kn' kc']] w5' fun e w'=>e = .returned (.bool true)∧Below w5'.heap.size w5' w' from by
            obtain ⟨d',hd',e2⟩:=hX5.out
            have:=rsame_any _ d _ (hE.out.mono (sub_of_below hB5.out)) _ d' _ hd' w5' (fun _ _ h=>h) (fun _ _ h=>h)
            rw [pe_B e2.symm] at this
            exact this)
          go_wp2_with fail
          refine hsame.out.mono ?_
          rintro e w6' ⟨rfl,hb6⟩
          have hF:=Lib.hid (hB5.out.trans (hb6.mono hB5.out.size))
          clear hb6 hsame
          go_wp2
          go_roundw
          case rel=>exact ⟨k + 1,by omega,by go_num,hF⟩
          case measure=>simp [intOf]; omega
        · have il : ¬ (str.size : Int)≤30000:=by omega
          go_wp2
          go_roundw
          case rel=>exact ⟨k + 1,by omega,by go_num,hB3'⟩
          case measure=>simp [intOf]; omega
      · have hR : printR2 (pe d) = .tuple #[.string ⟨#[]⟩,.int .i64 (formS (pe d))]:=if_neg h0
        rw [hR] at hpr ⊢
        obtain ⟨f,hf⟩ : ∃ z : Int,Hid (z = formS (pe d)):=⟨_,Lib.hid rfl⟩
        rw [← hf.out] at hpr ⊢
        have hf0 : (f == 0) = false:=by have:=hf.out; simpa [this] using h0
        clear h0 hR hfs
        go_wp2_with fail
        refine hpr.out.mono ?_
        rintro e w3' ⟨rfl,hb3⟩
        have hB3':=Lib.hid (hB2.out.trans (hb3.mono hB2.out.size))
        clear hb3 z0 z1 z2 z3 z4 hzl hO2 hB2 hpr
        go_wp2
        go_roundw
        case rel=>exact ⟨k + 1,by omega,by go_num,hB3'⟩
        case measure=>simp [intOf]; omega
    · have hk' : k = 3:=by omega
      subst hk'
      go_wp2
      go_ret
      exact ⟨rfl,hB3.out.trans (hBr.out.mono hB3.out.size)⟩
end Go.Proofs.YtfffpflflggonaaGreatDoor.src
