/- The drawing function Condition: a changed condition. -/
import Derived.Test.YtfffpflflggonaaGreatDoorKS34
import Derived.Test.YtfffpflflggonaaGreatDoorKS34
import Derived.Deep.DeepCutAuto
import Derived.Deep.CutBlock
import Derived.Deep.RegionHeld
namespace Go.Proofs.YtfffpflflggonaaGreatDoor.draw
open Go.RowKit schema
attribute [local go_sem ↓] Go.wp_at_zero Go.wp_at_succ
def CondR (w : World) (b : Nat) (a : Option Addr) (n c : Nat) (M : Mem) (N K k : Nat) (u : World) : Prop :=
  ∃ (M' : Mem) (d : ED) (op : Int) (kind name : ByteArray) (va : Option Addr) (vn vc : Nat) (ka : Option Addr) (kn kc : Nat),
    CX w u b a n c #[.int .i64 op,.string kind,.string name,.slice va vn vc,.slice ka kn kc] M M'∧EAt M' d [.int .i64 op,.string kind,.string name,.slice va vn vc,.slice ka kn kc]∧Gr N K k d
section
variable {w u : World} {b : Nat} {a : Option Addr} {n c : Nat} {v0 v1 v2 v3 v4 : Value} {M0 M : Mem}
theorem CX.set0 (h : CX w u b a n c #[v0,v1,v2,v3,v4] M0 M) (x : Value) : CX w (u.setCell ⟨w.heap.size,0,none⟩ x) b a n c #[x,v1,v2,v3,v4] M0 M:=by
  have h1:=h.set 0 x
  simpa only [List.setIfInBounds_toArray,List.set_cons_zero,List.set_cons_succ] using h1
theorem CX.set1 (h : CX w u b a n c #[v0,v1,v2,v3,v4] M0 M) (x : Value) : CX w (u.setCell ⟨w.heap.size,1,none⟩ x) b a n c #[v0,x,v2,v3,v4] M0 M:=by
  have h1:=h.set 1 x
  simpa only [List.setIfInBounds_toArray,List.set_cons_zero,List.set_cons_succ] using h1
theorem CX.set2 (h : CX w u b a n c #[v0,v1,v2,v3,v4] M0 M) (x : Value) : CX w (u.setCell ⟨w.heap.size,2,none⟩ x) b a n c #[v0,v1,x,v3,v4] M0 M:=by
  have h1:=h.set 2 x
  simpa only [List.setIfInBounds_toArray,List.set_cons_zero,List.set_cons_succ] using h1
theorem CX.set3 (h : CX w u b a n c #[v0,v1,v2,v3,v4] M0 M) (x : Value) : CX w (u.setCell ⟨w.heap.size,3,none⟩ x) b a n c #[v0,v1,v2,x,v4] M0 M:=by
  have h1:=h.set 3 x
  simpa only [List.setIfInBounds_toArray,List.set_cons_zero,List.set_cons_succ] using h1
theorem CX.set4 (h : CX w u b a n c #[v0,v1,v2,v3,v4] M0 M) (x : Value) : CX w (u.setCell ⟨w.heap.size,4,none⟩ x) b a n c #[v0,v1,v2,v3,x] M0 M:=by
  have h1:=h.set 4 x
  simpa only [List.setIfInBounds_toArray,List.set_cons_zero,List.set_cons_succ] using h1
end
theorem own_row {u : World} {base n sz : Nat} {e : TypeId} {v : Value} {xs : List Value} (h : u.ownsRow base e sz v n xs) (hn : 0 < n) : ∃ g cap,v = .slice (some ⟨g,0,none⟩) n cap∧base≤g:=by
  rcases h.2 with ⟨-,h2⟩ | ⟨g,cap,cur,h1,h2,-⟩
  · omega
  · exact ⟨g,cap,h1,h2⟩
theorem addB_rows {M : Mem} {u : World} {g o sz m k : Nat} {rows : List (List Value)} (h : RowsAt u.cell? sz (.slice (some ⟨g,o,none⟩) m k) rows) : RowsAt (addB M g u) sz (.slice (some ⟨g,o,none⟩) m k) rows :=
  rows_in h (fun n hn p hp=>by
    have e : g = n:=by simpa [Value.ownBlock] using hn
    unfold addB
    rw [if_pos (by rw [hp,e])])
theorem CX.far {w u : World} {b : Nat} {a : Option Addr} {n c : Nat} {A : Array Value} {M0 M : Mem} (h : CX w u b a n c A M0 M) {p : Addr} (hp : w.heap.size + 2≤p.block) (ho : Off p.block M) (v : Value) : CX w (u.setCell p v) b a n c A M0 M :=
  ⟨h.head.set (by have:=h.br; omega) _,g_setCell h.grown (by omega) _,h.br,h.box.setOther (by omega) _,h.res.setOther (by omega) _,h.sub0,h.ext,sub_setCell h.sub ho _,h.off⟩
theorem small_get {N : Nat} : ∀ (l : List ED) (k : Nat) (d : ED),l[k]? = some d→smallL N l→smallE N d
  | [],k,d,h,_=>by simp at h
  | x :: r,0,d,h,hs=>by simp at h; subst h; exact hs.1
  | x :: r,k + 1,d,h,hs=>small_get r k d (by simpa using h) hs.2
theorem row_cell {u : World} {base g n cap : Nat} {e : TypeId} {rows : List (List Value)} (h : u.ownsRow base e 5 (.slice (some ⟨g,0,none⟩) n cap) n rows.flatten) (hn : rows.length = n) (hs : ∀ r∈rows,r.length = 5) {k : Nat} {r : List Value} (hk : rows[k]? = some r) {j : Nat} {x : Value} (hj : r[j]? = some x) : u.cell? ⟨g,k * 5 + j,none⟩ = some x:=by
  have hkn : k < rows.length:=(List.getElem?_eq_some_iff.1 hk).1
  have hj5 : j < 5:=by have:=(List.getElem?_eq_some_iff.1 hj).1; rw [hs r (List.mem_of_getElem? hk)] at this; exact this
  rw [h.cellAt (k * 5 + j) (by omega)]
  exact flat_get 5 rows hs k r hk j x hj
def C8 (w : World) (b : Nat) (a : Option Addr) (n c : Nat) (M : Mem) (A : Array Value) (op : Int) (kind name : ByteArray) (vs : Value) (e2 j N : Nat) (N1 K : Nat) (u : World) : Prop :=
  ∃ (M' : Mem) (d : ED) (ka : Option Addr) (kn kc : Nat),CX w u b a n c A M M'∧Own u e2 #[.int .i64 op,.string kind,.string name,vs,.slice ka kn kc] 31∧EAt M' d [.int .i64 op,.string kind,.string name,vs,.slice ka kn kc]∧kn≤N + j∧Off e2 M'∧Gr N1 K j d
set_option maxRecDepth 100000 in
set_option maxHeartbeats 16000000 in
theorem cond_grow (b : Nat) (a : Option Addr) (n c : Nat) (N : Nat) (hN : N≤200) (M : Mem) (hoff : Off b M) {d : ED} {r : List Value} (h : EAt M d r) :
    smallE N d→∀ w : World,Codes b a n c w→Glob (but b w)→Sub M w.cell?→Calls Tryz.prog 13 #[.pointer (some ⟨b,0,none⟩),.agg r.toArray] w (Drawn b a n c w fun e w'=>CondG M N d b w e w'):=by
  induction h with
  | @mk op kind name vals kids vs ks rows hv hk hl hL hE ih =>
  intro hs w hC hg hM
  have hGr0:=Lib.hid (gr_start hs)
  obtain ⟨hsv,hsk,-,hsl⟩:=hs
  replace hL:=Lib.hid hL
  obtain ⟨va,vn,vc,rfl⟩ : ∃ a n c,vs = .slice a n c:=by obtain ⟨a,c,h,-⟩:=hv; exact ⟨_,_,_,h⟩
  obtain ⟨ka,kn,kc,rfl⟩ : ∃ a n c,ks = .slice a n c:=by obtain ⟨a,c,h,-⟩:=hk; exact ⟨_,_,_,h⟩
  have hvn:=(rows_len hv).1
  have hkn:=(rows_len hk).1
  rw [List.length_map] at hvn
  have hX:=Lib.hid (CX.start hC hM hoff #[.int .i64 op,.string kind,.string name,.slice va vn vc,.slice ka kn kc])
  replace hC:=Lib.hid hC
  replace hg:=Lib.hid hg
  replace hv:=Lib.hid hv
  replace hk:=Lib.hid hk
  replace hE:=Lib.hid hE
  replace ih:=Lib.hid ih
  replace hsl:=Lib.hid hsl
  replace hM:=Lib.hid hM
  have hE0:=Lib.hid (show EAt M (.mk op kind name vals kids) [.int .i64 op,.string kind,.string name,.slice va vn vc,.slice ka kn kc] from .mk rows hv.out hk.out hl hL.out hE.out)
  go_enter Tryz.func13,Tryz.ntmps13
  go_upto_region 1 with fail
  unfold zeroE at hX
  generalize (w.alloc (.cells _ 31)).alloc (.cells _ 31) = w0 at hX ⊢
  go_cut [17] (fun s17 wy=>∃ y : Bool,s17 = .bool y∧(y = true→0 < kn)∧Hid (CX w wy b a n c #[.int .i64 op,.string kind,.string name,.slice va vn vc,.slice ka kn kc] M M))
  case first =>
    have p4:=(own5 hX.out.box).2.2.2.2.1
    by_cases hk0 : 0 < kn
    · have hkI : (0 : Int) < (kn : Int):=by omega
      go_wp2_with fail
      refine (next_any b a n c _ 3 (by omega) (by omega) (hX.out.codes hC.out)).mono ?_
      rintro e w2 ⟨⟨m,rfl,hm0,hm1⟩,hH,hG⟩
      have hX2:=Lib.hid (hX.out.call hG hH)
      clear hH hG hX p4
      go_wp2
      go_meet
      exact ⟨_,rfl,fun _=>hk0,hX2⟩
    · have hkI : ¬ (0 : Int) < (kn : Int):=by omega
      go_wp2
      go_meet
      exact ⟨false,rfl,fun h=>(by cases h),hX⟩
  case rest =>
  clear hX
  obtain ⟨y,rfl,hy,hX⟩:=hcut
  obtain ⟨p0,p1,p2,p3,p4,f0,f1,f2,f3,f4⟩:=own5 hX.out.box
  have hXs:=hX.out.size
  cases y
  case true =>
    have hk0:=hy rfl
    obtain ⟨i0,hi,hz0,hz1,hz2⟩:=info_parts info26
    have hkb : kn≤200:=by omega
    have hnil:=Lib.hid (World.ownsRow_nil wc (w.heap.size + 2) 31 5)
    clear p0 p1 p2 p3 f0 f1 f2 f3
    go_wp2_with (at_builtin; refine wpList_append_rows rfl _ _ 29 rfl (w.heap.size + 2) 31 i0 (.agg #[.int .i64 0,.string ⟨#[]⟩,.string ⟨#[]⟩,.slice none 0 0,.slice none 0 0]) 5 88 Tryz.underlying29 hi hz0 hz1 hz2 rfl (by decide) (.slice none 0 0) 0 [] rfl hnil.out ka kn kc rows M rfl hk.out hX.out.sub (rows5 hl hE.out) (flat5_one hl hE.out) (by unfold maxLen; omega) (by omega) hXs ?_; intro v3 w3 hown hgrow; rw [Nat.zero_add,List.nil_append] at hown; have hX3:=Lib.hid (hX.out.grow hgrow (fun k e=>by cases e)); obtain ⟨g,cap,rfl,hgb⟩:=own_row hown hk0; replace hown:=Lib.hid hown; clear hgrow hX hnil p4 f4; obtain ⟨p0,p1,p2,p3,p4,f0,f1,f2,f3,f4⟩:=own5 hX3.out.box)
    have hX4:=Lib.hid (hX3.out.set4 (.slice (some ⟨g,0,none⟩) kn cap))
    have hown4:=Lib.hid (ownsRow_setCell_below hown.out (a:=⟨w.heap.size,4,none⟩) (by show w.heap.size < w.heap.size + 2; omega) (.slice (some ⟨g,0,none⟩) kn cap))
    refine (next_any b a n c _ kn (by omega) (by omega) (hX4.out.codes hC.out)).mono ?_
    rintro e w5 ⟨⟨q,rfl,hq0,hq1⟩,hH,hG⟩
    have hX5:=Lib.hid (hX4.out.call hG hH)
    have hown5:=Lib.hid (owns_kept hown4.out hG (by have:=hX5.out.br; omega))
    clear hH hG hX3 hX4 hown hown4 p0 p1 p2 p3 p4 f0 f1 f2 f3 f4
    obtain ⟨k,rfl⟩ : ∃ k : Nat,q = (k : Int):=⟨q.toNat,by omega⟩
    have hkk : k < kn:=by omega
    go_upto_region 4 with fail
    have hcell4:=(own5 hX5.out.box).2.2.2.2.1
    have hX6:=hX5.out.call (grown_drew w5 _) hX5.out.head.drew
    have hown6:=owns_drew hown5.out
    have hsm:=small_get kids k kids[k] (List.getElem?_eq_getElem (by omega)) hsl.out
    have hrk : rows[k]? = some rows[k]:=List.getElem?_eq_getElem (by omega)
    have hEk:=hE.out k rows[k] kids[k] hrk (List.getElem?_eq_getElem (by omega))
    have hik:=ih.out k rows[k] kids[k] hrk (List.getElem?_eq_getElem (by omega)) hsm
    obtain ⟨kop,kki,kna,kva,kvn,kvc,kka,kkn,kkc,hr⟩:=eat_five hEk
    rw [hr] at hrk hik
    have k0 : (0 : Int)≤(k : Int):=Int.natCast_nonneg _
    have hkI : (k : Int) < (kn : Int):=by omega
    clear hsm hEk hr hX5 hown5
    refine wp_region_held_drew (S:=fun W=>W.cell? ⟨w.heap.size,4,none⟩ = some (.slice (some ⟨g,0,none⟩) kn cap)) (by kernel_rfl) hcell4 (fun hHeld=>?_)
    clear hcell4
    generalize w5.drew = wd at hHeld hX6 hown6 ⊢
    refine wpAnyH_take (i:=0) (oi:=?oi701) (v:=?v701) ?ho701 (by kernel_rfl) (by kernel_rfl) (by kernel_rfl) ?hp701 (Or.inl ⟨?hw701,?hy701⟩) (by assumption) ?rest701
    case ho701=>simp only [List.getElem?_toArray,List.getElem?_cons_zero]; rfl
    case hp701=>exact fun _ _ _ h=>h
    case hw701=>rfl
    case hy701 =>
      intro W hSw
      go_simp
      try exact rfl
    simp only [Act.put]
    refine wpAnyH_take (i:=1) (oi:=?oi702) (v:=?v702) ?ho702 (by kernel_rfl) (by kernel_rfl) (by kernel_rfl) ?hp702 (Or.inl ⟨?hw702,?hy702⟩) (by assumption) ?rest702
    case ho702=>simp only [List.getElem?_toArray,List.getElem?_cons_succ,List.getElem?_cons_zero]; rfl
    case hp702=>exact fun _ _ _ h=>h
    case hw702=>rfl
    case hy702 =>
      intro W hSw
      have h4 : W.cell? ⟨w.heap.size,4,none⟩ = some (.slice (some ⟨g,0,none⟩) kn cap):=hSw
      go_simp
      try exact rfl
    simp only [Act.put]
    refine wpAnyH_take (i:=2) (oi:=?oi703) (v:=?v703) ?ho703 (by kernel_rfl) (by kernel_rfl) (by kernel_rfl) ?hp703 (Or.inl ⟨?hw703,?hy703⟩) (by assumption) ?rest703
    case ho703=>simp only [List.getElem?_toArray,List.getElem?_cons_succ,List.getElem?_cons_zero]; rfl
    case hp703=>exact fun _ _ _ h=>h
    case hw703=>rfl
    case hy703 =>
      intro W hSw
      go_simp
      try exact rfl
    simp only [Act.put]
    refine wpAnyH_take (i:=3) (oi:=?oi704) (v:=?v704) ?ho704 (by kernel_rfl) (by kernel_rfl) (by kernel_rfl) ?hp704 (Or.inl ⟨?hw704,?hy704⟩) (by assumption) ?rest704
    case ho704=>simp only [List.getElem?_toArray,List.getElem?_cons_succ,List.getElem?_cons_zero]; rfl
    case hp704=>exact fun _ _ _ h=>h
    case hw704=>rfl
    case hy704 =>
      intro W hSw
      go_simp
      try exact rfl
    simp only [Act.put]
    refine wpAnyH_take (i:=4) (oi:=?oi705) (v:=?v705) ?ho705 (by kernel_rfl) (by kernel_rfl) (by kernel_rfl) ?hp705 (Or.inl ⟨?hw705,?hy705⟩) (by assumption) ?rest705
    case ho705=>simp only [List.getElem?_toArray,List.getElem?_cons_succ,List.getElem?_cons_zero]; rfl
    case hp705=>exact fun _ _ _ h=>h
    case hw705=>rfl
    case hy705 =>
      intro W hSw
      go_simp
      try exact rfl
    simp only [Act.put]
    refine wpAnyH_take (i:=5) (oi:=?oi706) (v:=?v706) ?ho706 (by kernel_rfl) (by kernel_rfl) (by kernel_rfl) ?hp706 (Or.inl ⟨?hw706,?hy706⟩) (by assumption) ?rest706
    case ho706=>simp only [List.getElem?_toArray,List.getElem?_cons_succ,List.getElem?_cons_zero]; rfl
    case hp706=>exact fun _ _ _ h=>h
    case hw706=>rfl
    case hy706 =>
      intro W hSw
      have h4 : W.cell? ⟨w.heap.size,4,none⟩ = some (.slice (some ⟨g,0,none⟩) kn cap):=hSw
      go_simp
      try exact rfl
    simp only [Act.put]
    refine wpAnyH_take (i:=6) (oi:=?oi707) (v:=?v707) ?ho707 (by kernel_rfl) (by kernel_rfl) (by kernel_rfl) ?hp707 (Or.inl ⟨?hw707,?hy707⟩) (by assumption) ?rest707
    case ho707=>simp only [List.getElem?_toArray,List.getElem?_cons_succ,List.getElem?_cons_zero]; rfl
    case hp707=>exact fun _ _ _ h=>h
    case hw707=>rfl
    case hy707 =>
      intro W hSw
      go_simp
      try exact rfl
    simp only [Act.put]
    refine wpAnyH_take (i:=7) (oi:=?oi708) (v:=?v708) ?ho708 (by kernel_rfl) (by kernel_rfl) (by kernel_rfl) ?hp708 (Or.inl ⟨?hw708,?hy708⟩) (by assumption) ?rest708
    case ho708=>simp only [List.getElem?_toArray,List.getElem?_cons_succ,List.getElem?_cons_zero]; rfl
    case hp708=>exact fun _ _ _ h=>h
    case hw708=>rfl
    case hy708 =>
      intro W hSw
      go_simp
      try exact rfl
    simp only [Act.put]
    refine wpAnyH_ready (rs:=[8]) (by kernel_rfl) (by simp) ?_
    refine AllReadyH.cons rfl (fun K hK=>?_) AllReadyH.nil
    have c0 : wd.cell? ⟨g,k * 5,none⟩ = _:=row_cell hown6 hkn (rows5 hl hE.out) hrk (j:=0) rfl
    have c1 : wd.cell? ⟨g,k * 5 + 1,none⟩ = _:=row_cell hown6 hkn (rows5 hl hE.out) hrk (j:=1) rfl
    have c2 : wd.cell? ⟨g,k * 5 + 2,none⟩ = _:=row_cell hown6 hkn (rows5 hl hE.out) hrk (j:=2) rfl
    have c3 : wd.cell? ⟨g,k * 5 + 3,none⟩ = _:=row_cell hown6 hkn (rows5 hl hE.out) hrk (j:=3) rfl
    have c4 : wd.cell? ⟨g,k * 5 + 4,none⟩ = _:=row_cell hown6 hkn (rows5 hl hE.out) hrk (j:=4) rfl
    go_simp
    refine hK.out _ _ hHeld (fun hHeld=>?_)
    clear hK K c0 c1 c2 c3 c4
    refine wpAnyH_ready (rs:=[9]) (by kernel_rfl) (by simp) ?_
    refine AllReadyH.cons rfl (fun K hK=>?_) AllReadyH.nil
    go_simp
    refine (hik wd (hX6.codes hC.out) (hX6.glob hg.out) hX6.sub).mono ?_
    rintro e w7 ⟨⟨M2,dk,op2,kind2,name2,va2,vn2,vc2,ka2,kn2,kc2,rfl,hext,hsub,hob,hE2,hGk⟩,hH,hG⟩
    have hX7:=hX6.extend hG hH hext hsub hob
    have hown7:=owns_kept hown6 hG (by have:=hX6.br; omega)
    have hlt6:=(hown6.lt g rfl).2
    have hof : Off g M2:=(off_new hM.out (by omega)).ext hext hlt6
    refine hK.out _ _ (hG.cell hHeld (by have:=hX6.br; simp; omega)) (fun hHeld=>?_)
    clear hK K hG hH hX6 hown6 hlt6 hsub hob
    refine wpAnyH_take (i:=10) (oi:=?oi709) (v:=?v709) ?ho709 (by kernel_rfl) (by kernel_rfl) (by kernel_rfl) ?hp709 (Or.inl ⟨?hw709,?hy709⟩) (by assumption) ?rest709
    case ho709=>simp only [List.getElem?_toArray,List.getElem?_cons_succ,List.getElem?_cons_zero]; rfl
    case hp709=>exact fun _ _ _ h=>h
    case hw709=>rfl
    case hy709 =>
      intro W hSw
      go_simp
      try exact rfl
    simp only [Act.put]
    refine wpAnyH_ready (rs:=[11]) (by kernel_rfl) (by simp) ?_
    refine AllReadyH.cons rfl (fun K hK=>?_) AllReadyH.nil
    have c0 : w7.cell? ⟨g,k * 5,none⟩ = _:=row_cell hown7 hkn (rows5 hl hE.out) hrk (j:=0) rfl
    have c1 : w7.cell? ⟨g,k * 5 + 1,none⟩ = _:=row_cell hown7 hkn (rows5 hl hE.out) hrk (j:=1) rfl
    have c2 : w7.cell? ⟨g,k * 5 + 2,none⟩ = _:=row_cell hown7 hkn (rows5 hl hE.out) hrk (j:=2) rfl
    have c3 : w7.cell? ⟨g,k * 5 + 3,none⟩ = _:=row_cell hown7 hkn (rows5 hl hE.out) hrk (j:=3) rfl
    have c4 : w7.cell? ⟨g,k * 5 + 4,none⟩ = _:=row_cell hown7 hkn (rows5 hl hE.out) hrk (j:=4) rfl
    have e0:=hown7.frozenAt (k * 5)
    have e1:=hown7.frozenAt (k * 5 + 1)
    have e2:=hown7.frozenAt (k * 5 + 2)
    have e3:=hown7.frozenAt (k * 5 + 3)
    have e4:=hown7.frozenAt (k * 5 + 4)
    go_simp
    have hX8:=(((((hX7.far (p:=⟨g,k * 5,none⟩) hgb hof (.int .i64 op2)).far (p:=⟨g,k * 5 + 1,none⟩) hgb hof (.string kind2)).far (p:=⟨g,k * 5 + 2,none⟩) hgb hof (.string name2)).far (p:=⟨g,k * 5 + 3,none⟩) hgb hof (.slice va2 vn2 vc2)).far (p:=⟨g,k * 5 + 4,none⟩) hgb hof (.slice ka2 kn2 kc2))
    have hRW:=rows_put (rows_of_owns hown7 rows hkn.symm (rows5 hl hE.out) rfl) (rows5 hl hE.out) hkk (.int .i64 op2) (.string kind2) (.string name2) (.slice va2 vn2 vc2) (.slice ka2 kn2 kc2)
    have hX9:=hX8.block hgb hof
    have hs7:=(addB_ext (u:=w7.setCells g (k * 5) [.int .i64 op2,.string kind2,.string name2,.slice va2 vn2 vc2,.slice ka2 kn2 kc2]) hof hgb).sub
    have hE9:=eat_put (op:=op) (kind:=kind) (name:=name) (hv.out.mono (hext.sub.trans hs7)) (addB_rows (M:=M2) hRW) hl (fun v hv=>(hL.out v hv).mono (hext.sub.trans hs7)) (fun i r k hi hk=>(hE.out i r k hi hk).mono (hext.sub.trans hs7)) (hE2.mono hs7)
    have hb4:=(own5 hX9.box).2.2.2.2.1
    have hG9:=Lib.hid (gr_set (op:=op) (kind:=kind) (name:=name) hGr0.out (List.getElem?_eq_getElem (l:=kids) (i:=k) (by omega)) hGk)
    replace hX9:=Lib.hid hX9
    replace hE9:=Lib.hid hE9
    refine hK.out _ _ hb4 (fun hHeld=>?_)
    clear hK K c0 c1 c2 c3 c4 e0 e1 e2 e3 e4 hX7 hX8 hRW hs7 hHeld hb4
    obtain ⟨p0,p1,p2,p3,p4,f0,f1,f2,f3,f4⟩:=own5 hX9.out.box
    obtain ⟨d0,d1,d2,d3,d4,g0,g1,g2,g3,g4⟩:=own5 hX9.out.res
    refine wpAnyH_done (by kernel_rfl) ?_ _
    go_wp2
    refine bodyPost_ret (v:=.agg #[.int .i64 op,.string kind,.string name,.slice va vn vc,.slice (some ⟨g,0,none⟩) kn cap]) (by simp [results,Tryz.results13,go_sem,d0,d1,d2,d3,d4]) rfl ?_
    exact hX9.out.doneG hE9.out hG9.out _ _ _ _ _
  case false =>
    go_wp2_with fail
    refine (next_any b a n c _ 10 (by omega) (by omega) (hX.out.codes hC.out)).mono ?_
    rintro e w2 ⟨⟨m,rfl,hm0,hm1⟩,hH,hG⟩
    have hX2:=Lib.hid (hX.out.call hG hH)
    clear hH hG hX p0 p1 p2 p3 p4 f0 f1 f2 f3 f4
    go_upto_block 0 with fail
    go_cut [] (fun wy=>CondR w b a n c M N (cntE (.mk op kind name vals kids)) 20 wy)
    case first =>
      obtain ⟨p0,p1,p2,p3,p4,f0,f1,f2,f3,f4⟩:=own5 hX2.out.box
      rcases (show m = 0∨m = 1∨m = 2∨m = 3∨m = 4∨m = 5∨m = 6∨m = 7∨m = 8∨m = 9 by omega) with rfl | rfl | rfl | rfl | rfl | rfl | rfl | rfl | rfl | rfl
      · clear p0 p1 p2 p3 p4 f0 f1 f2 f3 f4
        go_wp2_with fail
        refine (next_any b a n c _ 18 (by omega) (by omega) (hX2.out.codes hC.out)).mono ?_
        rintro e w3 ⟨⟨q,rfl,hq0,hq1⟩,hH,hG⟩
        have hX3:=Lib.hid (hX2.out.call hG hH)
        clear hH hG hX2
        obtain ⟨p0,p1,p2,p3,p4,f0,f1,f2,f3,f4⟩:=own5 hX3.out.box
        go_wp2
        go_meet
        exact ⟨M,_,_,kind,name,va,vn,vc,ka,kn,kc,hX3.out.set0 _,eat_head hE0.out _ _ _,(gr_head hGr0.out _ _ _ hGr0.out.nm).up (by omega)⟩
      · clear p0 p1 p2 p3 p4 f0 f1 f2 f3 f4
        go_wp2_with fail
        refine (name_few b a n c _ (hX2.out.codes hC.out)).mono ?_
        rintro e w3 ⟨⟨q,rfl,hq⟩,hH,hG⟩
        replace hq:=Lib.hid hq
        have hX3:=Lib.hid (hX2.out.call hG hH)
        clear hH hG hX2
        obtain ⟨p0,p1,p2,p3,p4,f0,f1,f2,f3,f4⟩:=own5 hX3.out.box
        go_wp2
        go_meet
        exact ⟨M,_,op,q,name,va,vn,vc,ka,kn,kc,hX3.out.set1 _,eat_head hE0.out _ _ _,(gr_head hGr0.out _ _ _ ⟨hq.out,hGr0.out.nm.2⟩).up (by omega)⟩
      · clear p0 p1 p2 p3 p4 f0 f1 f2 f3 f4
        go_wp2_with fail
        refine (name_few b a n c _ (hX2.out.codes hC.out)).mono ?_
        rintro e w3 ⟨⟨q,rfl,hq⟩,hH,hG⟩
        replace hq:=Lib.hid hq
        have hX3:=Lib.hid (hX2.out.call hG hH)
        clear hH hG hX2
        obtain ⟨p0,p1,p2,p3,p4,f0,f1,f2,f3,f4⟩:=own5 hX3.out.box
        go_wp2
        go_meet
        exact ⟨M,_,op,kind,q,va,vn,vc,ka,kn,kc,hX3.out.set2 _,eat_head hE0.out _ _ _,(gr_head hGr0.out _ _ _ ⟨hGr0.out.nm.1,hq.out⟩).up (by omega)⟩
      · clear p0 p1 p2 p4 f0 f1 f2 f4
        obtain ⟨i0,hi,hz0,hz1,hz2⟩:=info_parts info44
        have hxs:=hX2.out.size
        have hvb : vn≤200:=by omega
        have hnil:=Lib.hid (World.ownsRow_nil w2 (w.heap.size + 2) 76 4)
        go_wp2_with (at_builtin; refine wpList_append_rows rfl _ _ 28 rfl (w.heap.size + 2) 76 i0 (.agg #[.int .i64 0,.int .i64 0,.string ⟨#[]⟩,.slice none 0 0]) 4 56 Tryz.underlying28 hi hz0 hz1 hz2 rfl (by decide) (.slice none 0 0) 0 [] rfl hnil.out va vn vc (vals.map VD.row) M rfl hv.out hX2.out.sub (rows4 _) (flat4_one _) (by unfold maxLen; omega) (by omega) hxs ?_; intro v3 w3 hown hgrow; rw [Nat.zero_add,List.nil_append] at hown; have hX3:=Lib.hid (hX2.out.grow hgrow (fun k e=>by cases e)); replace hown:=Lib.hid hown; clear hgrow hX2 hnil p3 f3)
        refine (any_any b a n c _ (hX3.out.codes hC.out) (hX3.out.glob hg.out)).mono ?_
        rintro e w4 ⟨⟨kd,⟨dk,dn,dt,dp,dl,dc,ds⟩,rfl,-,hLd⟩,hH,hG⟩
        rw [show (VD.row ⟨dk,dn,dt,dp,dl,dc,ds⟩).toArray = #[.int .i64 dk,.int .i64 dn,.string dt,.slice dp dl dc] from rfl]
        have hX4:=Lib.hid (hX3.out.join hG hH)
        have hEx:=Lib.hid (joinN_ext (M:=M) (B:=w3.heap.size) (b:=b) (hX3.out.call hG hH).sub)
        have hLd2:=Lib.hid (hLd.mono (joinN_new M w3.heap.size b w4))
        have hlt3:=Lib.hid hown.out.lt
        have hown5:=Lib.hid ((owns_kept hown.out hG (by have:=hX3.out.br; omega)).alloc (.cells #[.int .i64 dk,.int .i64 dn,.string dt,.slice dp dl dc] 76))
        have hX5:=Lib.hid (hX4.out.alloc (.cells #[.int .i64 dk,.int .i64 dn,.string dt,.slice dp dl dc] 76))
        have hxs4:=hX4.out.size
        have hxs3:=hX3.out.size
        have hof4:=Lib.hid (fun k (hk : w4.heap.size≤k)=>off_new hX4.out.sub hk)
        clear hH hG hX3 hown hX4 hLd
        generalize joinN M w3.heap.size b w4 = M2 at hX5 hEx hLd2 hof4
        have hofk:=Lib.hid (fun k (hk : w.heap.size≤k) (hk2 : k < w3.heap.size)=>(off_new hM.out hk).ext hEx.out hk2)
        go_wp2_with (at_builtin; refine wpList_append_lies _ rfl _ _ 28 rfl (w.heap.size + 2) 76 i0 (.agg #[.int .i64 0,.int .i64 0,.string ⟨#[]⟩,.slice none 0 0]) 4 56 Tryz.underlying28 hi hz0 hz1 hz2 rfl (by decide) v3 vn (vals.map VD.row).flatten rfl hown5.out ⟨w4.heap.size,0,none⟩ 1 1 [.int .i64 dk,.int .i64 dn,.string dt,.slice dp dl dc] rfl rfl (World.news_of_block (cs:=#[.int .i64 dk,.int .i64 dn,.string dt,.slice dp dl dc]) (t:=76) (fr:=(0,0)) (Own.new' rfl)) (vd_one ⟨dk,dn,dt,dp,dl,dc,ds⟩) (by omega) (by unfold maxLen; omega) (by omega) (by simp; omega) (w4.heap.size + 1) (by simp) ?_; intro g cap w6 hown6 hgrow6 hat6 hgl6; have hX6:=Lib.hid (hX5.out.grow hgrow6 (fun k hk=>⟨(hlt3.out k hk).1,hofk.out k (by have:=(hlt3.out k hk).1; omega) (hlt3.out k hk).2⟩)); replace hown6:=Lib.hid hown6; replace hat6:=Lib.hid hat6; clear hgrow6 hX5 hown5; obtain ⟨p0,p1,p2,p3,p4,f0,f1,f2,f3,f4⟩:=own5 hX6.out.box)
        have hgb : w.heap.size + 2≤g:=by
          rcases hat6.out with h6 | h6
          · exact (hlt3.out g h6).1
          · omega
        have hof : Off g M2:=by
          rcases hat6.out with h6 | h6
          · exact hofk.out g (by omega) (hlt3.out g h6).2
          · exact hof4.out g (by omega)
        have hX7:=hX6.out.block hgb hof
        have hs7 : Sub M2 (addB M2 g w6):=(addB_ext (u:=w6) hof hgb).sub
        have hR : RowsAt (addB M2 g w6) 4 (.slice (some ⟨g,0,none⟩) (vn + 1) cap) ((vals ++ [(⟨dk,dn,dt,dp,dl,dc,ds⟩ : VD)]).map VD.row) :=
          addB_rows (rows_of_owns hown6.out ((vals ++ [(⟨dk,dn,dt,dp,dl,dc,ds⟩ : VD)]).map VD.row) (by simp; omega) (rows4 _) (by simp [VD.row]))
        have hE7:=eat_vals (hE0.out.mono (hEx.out.sub.trans hs7)) hR (fun v hv=>by
          rcases List.mem_append.1 hv with hv | hv
          · exact (hL.out v hv).mono (hEx.out.sub.trans hs7)
          · obtain rfl:=List.mem_singleton.1 hv
            exact hLd2.out.mono hs7)
        replace hX7:=Lib.hid hX7
        replace hE7:=Lib.hid hE7
        clear hR hof hX6 hown6 hs7
        go_wp2
        go_meet
        exact ⟨_,_,op,kind,name,some ⟨g,0,none⟩,vn + 1,cap,ka,kn,kc,hX7.out.set3 _,hE7.out,(gr_vals hGr0.out (by simp; omega)).up (by omega)⟩
      · go_wp2
        go_meet
        exact ⟨M,_,op,kind,name,none,0,0,ka,kn,kc,hX2.out.set3 _,eat_vals (vals':=[]) hE0.out (rows_nil _ _) (fun v hv=>by cases hv),(gr_vals hGr0.out (by simp)).up (by omega)⟩
      · clear p0 p1 p2 p3 p4 f0 f1 f2 f3 f4
        go_wp2_with fail
        refine (next_any b a n c _ 7 (by omega) (by omega) (hX2.out.codes hC.out)).mono ?_
        rintro e w3 ⟨⟨q,rfl,hq0,hq1⟩,hH,hG⟩
        have hX3:=Lib.hid (hX2.out.call hG hH)
        clear hH hG hX2
        go_wp2_with fail
        refine (number_any b a n c _ (hX3.out.codes hC.out)).mono ?_
        rintro e w4 ⟨⟨z,rfl⟩,hH,hG⟩
        have hX4:=Lib.hid (hX3.out.call hG hH)
        clear hH hG hX3
        obtain ⟨p0,p1,p2,p3,p4,f0,f1,f2,f3,f4⟩:=own5 hX4.out.box
        have hgz:=hX4.out.size
        have hxl : w.heap.size < w4.heap.size:=by omega
        have hof : Off w4.heap.size M:=off_new hX4.out.sub (Nat.le_refl _)
        have hO:=Own.new (w4.setCell ⟨w.heap.size,3,none⟩ (.slice (some ⟨w4.heap.size,0,none⟩) 1 1)) #[.int .i64 q,.int .i64 z,.string ⟨#[]⟩,.slice none 0 0] 76
        rw [show (w4.setCell ⟨w.heap.size,3,none⟩ (.slice (some ⟨w4.heap.size,0,none⟩) 1 1)).heap.size = w4.heap.size by simp [World.setCell]] at hO
        have hX6:=Lib.hid (((hX4.out.set3 (.slice (some ⟨w4.heap.size,0,none⟩) 1 1)).alloc (.cells #[.int .i64 q,.int .i64 z,.string ⟨#[]⟩,.slice none 0 0] 76)).block (g:=w4.heap.size) hgz hof)
        have hR:=addB_rows (M:=M) (rows_of_own hO 4 (([⟨q,z,⟨#[]⟩,none,0,0,[]⟩] : List VD).map VD.row) (rows4 _) rfl 1 (by simp) (by decide))
        have hE6:=Lib.hid (eat_vals (hE0.out.mono (addB_ext (u:=(w4.setCell ⟨w.heap.size,3,none⟩ (.slice (some ⟨w4.heap.size,0,none⟩) 1 1)).alloc (.cells #[.int .i64 q,.int .i64 z,.string ⟨#[]⟩,.slice none 0 0] 76)) hof hgz).sub) hR (fun v hv=>by obtain rfl:=List.mem_singleton.1 hv; exact LAt.flat _ _ _ _ (by decide)))
        clear hR hof hO
        go_wp2
        go_meet
        exact ⟨_,_,op,kind,name,some ⟨w4.heap.size,0,none⟩,1,1,ka,kn,kc,hX6.out,hE6.out,(gr_vals hGr0.out (by simp)).up (by omega)⟩
      · clear p0 p1 p2 p3 f0 f1 f2 f3
        obtain ⟨i0,hi,hz0,hz1,hz2⟩:=info_parts info26
        have hxs:=hX2.out.size
        have hkb : kn≤200:=by omega
        have hnil:=Lib.hid (World.ownsRow_nil w2 (w.heap.size + 2) 31 5)
        go_wp2_with (at_builtin; refine wpList_append_rows rfl _ _ 29 rfl (w.heap.size + 2) 31 i0 (.agg #[.int .i64 0,.string ⟨#[]⟩,.string ⟨#[]⟩,.slice none 0 0,.slice none 0 0]) 5 88 Tryz.underlying29 hi hz0 hz1 hz2 rfl (by decide) (.slice none 0 0) 0 [] rfl hnil.out ka kn kc rows M rfl hk.out hX2.out.sub (rows5 hl hE.out) (flat5_one hl hE.out) (by unfold maxLen; omega) (by omega) hxs ?_; intro v3 w3 hown hgrow; rw [Nat.zero_add,List.nil_append] at hown; have hX3:=Lib.hid (hX2.out.grow hgrow (fun k e=>by cases e)); replace hown:=Lib.hid hown; clear hgrow hX2 hnil p4 f4)
        refine (test_any b a n c _ (hX3.out.codes hC.out) (hX3.out.glob hg.out)).mono ?_
        rintro e w4 ⟨⟨top,tk,tn,tl,ta,tm,tc,rfl,hTR,hTL,hTF⟩,hH,hG⟩
        have hT4:=hTF.2.2.2
        have hTn:=Lib.hid hTF.2.1.2
        clear hTF
        have hX4:=Lib.hid (hX3.out.join hG hH)
        have hEx:=Lib.hid (joinN_ext (M:=M) (B:=w3.heap.size) (b:=b) (hX3.out.call hG hH).sub)
        have hET:=Lib.hid (EAt.mono (joinN_new M w3.heap.size b w4) (eat_test (op:=top) (kind:=tk) (name:=tn) hTR hTL))
        have hlt3:=Lib.hid hown.out.lt
        have hown5:=Lib.hid ((owns_kept hown.out hG (by have:=hX3.out.br; omega)).alloc (.cells #[.int .i64 top,.string tk,.string tn,.slice ta tm tc,.slice none 0 0] 31))
        have hX5:=Lib.hid (hX4.out.alloc (.cells #[.int .i64 top,.string tk,.string tn,.slice ta tm tc,.slice none 0 0] 31))
        have hxs4:=hX4.out.size
        have hxs3:=hX3.out.size
        have hof4:=Lib.hid (fun k (hk : w4.heap.size≤k)=>off_new hX4.out.sub hk)
        clear hH hG hX3 hown hX4 hTR hTL
        generalize joinN M w3.heap.size b w4 = M2 at hX5 hEx hET hof4
        have hofk:=Lib.hid (fun k (hk : w.heap.size≤k) (hk2 : k < w3.heap.size)=>(off_new hM.out hk).ext hEx.out hk2)
        go_wp2_with (at_builtin; refine wpList_append_lies _ rfl _ _ 29 rfl (w.heap.size + 2) 31 i0 (.agg #[.int .i64 0,.string ⟨#[]⟩,.string ⟨#[]⟩,.slice none 0 0,.slice none 0 0]) 5 88 Tryz.underlying29 hi hz0 hz1 hz2 rfl (by decide) v3 kn rows.flatten rfl hown5.out ⟨w4.heap.size,0,none⟩ 1 1 [.int .i64 top,.string tk,.string tn,.slice ta tm tc,.slice none 0 0] rfl rfl (World.news_of_block (cs:=#[.int .i64 top,.string tk,.string tn,.slice ta tm tc,.slice none 0 0]) (t:=31) (fr:=(0,0)) (Own.new' rfl)) (by simp [Value.oneCell']) (by omega) (by unfold maxLen; omega) (by omega) (by simp; omega) (w4.heap.size + 1) (by simp) ?_; intro g cap w6 hown6 hgrow6 hat6 hgl6; have hX6:=Lib.hid (hX5.out.grow hgrow6 (fun k hk=>⟨(hlt3.out k hk).1,hofk.out k (by have:=(hlt3.out k hk).1; omega) (hlt3.out k hk).2⟩)); replace hown6:=Lib.hid hown6; replace hat6:=Lib.hid hat6; clear hgrow6 hX5 hown5; obtain ⟨p0,p1,p2,p3,p4,f0,f1,f2,f3,f4⟩:=own5 hX6.out.box)
        have hgb : w.heap.size + 2≤g:=by
          rcases hat6.out with h6 | h6
          · exact (hlt3.out g h6).1
          · omega
        have hof : Off g M2:=by
          rcases hat6.out with h6 | h6
          · exact hofk.out g (by omega) (hlt3.out g h6).2
          · exact hof4.out g (by omega)
        have hX7:=hX6.out.block hgb hof
        have hs7 : Sub M2 (addB M2 g w6):=(addB_ext (u:=w6) hof hgb).sub
        have hR : RowsAt (addB M2 g w6) 5 (.slice (some ⟨g,0,none⟩) (kn + 1) cap) (rows ++ [[.int .i64 top,.string tk,.string tn,.slice ta tm tc,.slice none 0 0]]) :=
          addB_rows (rows_of_owns hown6.out (rows ++ [[.int .i64 top,.string tk,.string tn,.slice ta tm tc,.slice none 0 0]]) (by simp; omega) (fun r hr=>by rcases List.mem_append.1 hr with h9 | h9; exact rows5 hl hE.out r h9; rw [List.mem_singleton.1 h9]; rfl) (by simp))
        have hE7:=eat_snoc (op:=op) (kind:=kind) (name:=name) (hv.out.mono (hEx.out.sub.trans hs7)) hR hl (fun v hv=>(hL.out v hv).mono (hEx.out.sub.trans hs7)) (fun i r k hi hk=>(hE.out i r k hi hk).mono (hEx.out.sub.trans hs7)) (hET.out.mono hs7)
        replace hX7:=Lib.hid hX7
        replace hE7:=Lib.hid hE7
        clear hR hof hX6 hown6 hs7
        go_wp2
        go_meet
        exact ⟨_,_,op,kind,name,va,vn,vc,some ⟨g,0,none⟩,kn + 1,cap,hX7.out.set4 _,hE7.out,(gr_snoc hGr0.out hT4 hTn.out).up (by omega)⟩
      · clear p0 p1 p2 p3 p4 f0 f1 f2 f3 f4
        have hR0 : CondR w b a n c M N (cntE (.mk op kind name vals kids)) 0 w2:=⟨M,_,op,kind,name,va,vn,vc,ka,kn,kc,hX2.out,hE0.out,hGr0.out⟩
        replace hR0:=Lib.hid hR0
        clear hX2
        go_wp2_with fail
        go_loopw [6] (fun s6 wr=>∃ j : Nat,j≤11∧s6 = .int .i64 j∧Hid (CondR w b a n c M N (cntE (.mk op kind name vals kids)) j wr)) (fun s6 _=>12 - (intOf s6).toNat)
        case atStart=>exact ⟨0,by omega,rfl,hR0⟩
        case round =>
          clear hR0
          obtain ⟨j,hj,rfl,hR1⟩:=hrel
          obtain ⟨M',d',op',kind',name',va',vn',vc',ka',kn',kc',hX3,hE3,hG3⟩:=hR1.out
          replace hG3:=Lib.hid hG3
          clear hR1
          replace hX3:=Lib.hid hX3
          replace hE3:=Lib.hid hE3
          have hj0 : (0 : Int)≤(j : Int):=Int.natCast_nonneg _
          go_wp2_with fail
          refine (next_any b a n c _ 3 (by omega) (by omega) (hX3.out.codes hC.out)).mono ?_
          rintro e w4 ⟨⟨q,rfl,hq0,hq1⟩,hH,hG⟩
          have hX4:=Lib.hid (hX3.out.call hG hH)
          clear hH hG hX3
          obtain ⟨p0,p1,p2,p3,p4,f0,f1,f2,f3,f4⟩:=own5 hX4.out.box
          have hgz:=hX4.out.size
          have hxl : w.heap.size < w4.heap.size:=by omega
          by_cases hlt : (j : Int) < 9 + q
          · have hof : Off w4.heap.size M':=off_new hX4.out.sub (Nat.le_refl _)
            have hO:=Own.new (((((w4.setCell ⟨w.heap.size,0,none⟩ (.int .i64 4)).setCell ⟨w.heap.size,1,none⟩ (.string ⟨#[]⟩)).setCell ⟨w.heap.size,2,none⟩ (.string ⟨#[]⟩)).setCell ⟨w.heap.size,3,none⟩ (.slice none 0 0)).setCell ⟨w.heap.size,4,none⟩ (.slice (some ⟨w4.heap.size,0,none⟩) 1 1)) #[.int .i64 op',.string kind',.string name',.slice va' vn' vc',.slice ka' kn' kc'] 31
            rw [show (((((w4.setCell ⟨w.heap.size,0,none⟩ (.int .i64 4)).setCell ⟨w.heap.size,1,none⟩ (.string ⟨#[]⟩)).setCell ⟨w.heap.size,2,none⟩ (.string ⟨#[]⟩)).setCell ⟨w.heap.size,3,none⟩ (.slice none 0 0)).setCell ⟨w.heap.size,4,none⟩ (.slice (some ⟨w4.heap.size,0,none⟩) 1 1)).heap.size = w4.heap.size by simp [World.setCell]] at hO
            have hX6:=((((((hX4.out.set0 (.int .i64 4)).set1 (.string ⟨#[]⟩)).set2 (.string ⟨#[]⟩)).set3 (.slice none 0 0)).set4 (.slice (some ⟨w4.heap.size,0,none⟩) 1 1)).alloc (.cells #[.int .i64 op',.string kind',.string name',.slice va' vn' vc',.slice ka' kn' kc'] 31)).block (g:=w4.heap.size) hgz hof
            have hR:=addB_rows (M:=M') (rows_of_own hO 5 [#[.int .i64 op',.string kind',.string name',.slice va' vn' vc',.slice ka' kn' kc'].toList] (by simp) rfl 1 (by simp) (by decide))
            have hE6:=eat_not hR (hE3.out.mono (addB_ext (u:=(((((w4.setCell ⟨w.heap.size,0,none⟩ (.int .i64 4)).setCell ⟨w.heap.size,1,none⟩ (.string ⟨#[]⟩)).setCell ⟨w.heap.size,2,none⟩ (.string ⟨#[]⟩)).setCell ⟨w.heap.size,3,none⟩ (.slice none 0 0)).setCell ⟨w.heap.size,4,none⟩ (.slice (some ⟨w4.heap.size,0,none⟩) 1 1)).alloc (.cells #[.int .i64 op',.string kind',.string name',.slice va' vn' vc',.slice ka' kn' kc'] 31)) hof hgz).sub)
            replace hX6:=Lib.hid hX6
            replace hE6:=Lib.hid hE6
            clear hR hof hO
            go_wp2
            go_roundw
            case rel=>exact ⟨j + 1,by omega,by go_num,Lib.hid ⟨_,_,4,⟨#[]⟩,⟨#[]⟩,none,0,0,some ⟨w4.heap.size,0,none⟩,1,1,hX6.out,hE6.out,gr_not hG3.out⟩⟩
            case measure=>(first | (simp [intOf]; omega) | simp [intOf])
          · go_wp2
            go_meet
            exact ⟨M',d',op',kind',name',va',vn',vc',ka',kn',kc',hX4.out,hE3.out,hG3.out.up (by omega)⟩
      · have hxs2:=hX2.out.size
        have hof2 : Off w2.heap.size M:=off_new hX2.out.sub (Nat.le_refl _)
        have hR0:=Lib.hid (show C8 w b a n c M #[.int .i64 op,.string kind,.string name,.slice va vn vc,.slice ka kn kc] op kind name (.slice va vn vc) w2.heap.size 0 200 N (cntE (.mk op kind name vals kids)) (w2.alloc (.cells #[.int .i64 op,.string kind,.string name,.slice va vn vc,.slice ka kn kc] 31)) from ⟨M,_,ka,kn,kc,hX2.out.alloc _,Own.new w2 _ _,hE0.out,by omega,hof2,hGr0.out⟩)
        clear hX2 hof2
        go_wp2_with fail
        clear p0 p1 p2 p3 p4 f0 f1 f2 f3 f4
        generalize w2.alloc (.cells _ 31) = w9 at hR0 ⊢
        generalize w2.heap.size = e2 at hR0 hxs2 ⊢
        go_loopw [8] (fun s8 wr=>∃ j : Nat,j≤11∧s8 = .int .i64 j∧Hid (C8 w b a n c M #[.int .i64 op,.string kind,.string name,.slice va vn vc,.slice ka kn kc] op kind name (.slice va vn vc) e2 j 200 N (cntE (.mk op kind name vals kids)) wr)) (fun s8 _=>11 - (intOf s8).toNat)
        case atStart=>exact ⟨0,by omega,rfl,hR0⟩
        case round =>
          clear hR0
          obtain ⟨j,hj,rfl,hR1⟩:=hrel
          obtain ⟨M1,d1,ka1,kn1,kc1,hX2,hO2,hE1,hkn1,hof1,hG1⟩:=hR1.out
          replace hG1:=Lib.hid hG1
          clear hR1
          have hj0 : (0 : Int)≤(j : Int):=Int.natCast_nonneg _
          obtain ⟨p0,p1,p2,p3,p4,f0,f1,f2,f3,f4⟩:=own5 hO2
          by_cases hlt : j < 11
          · have hltI : (j : Int) < 11:=by omega
            obtain ⟨vals1,kids1,rows1,rfl,hv1,hk1,hl1,hL1,hE1'⟩:=eat_parts hE1
            replace hL1:=Lib.hid hL1
            replace hX2:=Lib.hid hX2
            replace hO2:=Lib.hid hO2
            replace hE1':=Lib.hid hE1'
            replace hv1:=Lib.hid hv1
            have hkl1:=(rows_len hk1).1
            replace hk1:=Lib.hid hk1
            replace hof1:=Lib.hid hof1
            clear hE1 p0 p1 p2 p3 f0 f1 f2 f3
            obtain ⟨i0,hi,hz0,hz1,hz2⟩:=info_parts info26
            have he2 : e2 < wr.heap.size:=hO2.out.lt
            have hnil:=Lib.hid (World.ownsRow_nil wr wr.heap.size 31 5)
            have hsub1:=Lib.hid (fun k (hk : wr.heap.size≤k)=>off_new hX2.out.sub hk)
            go_wp2_with (at_builtin; refine wpList_append_rows rfl _ _ 29 rfl wr.heap.size 31 i0 (.agg #[.int .i64 0,.string ⟨#[]⟩,.string ⟨#[]⟩,.slice none 0 0,.slice none 0 0]) 5 88 Tryz.underlying29 hi hz0 hz1 hz2 rfl (by decide) (.slice none 0 0) 0 [] rfl hnil.out ka1 kn1 kc1 rows1 M1 rfl hk1.out hX2.out.sub (rows5 hl1 hE1'.out) (flat5_one hl1 hE1'.out) (by unfold maxLen; omega) (by omega) (by omega) ?_; intro v3 w3 hown hgrow; rw [Nat.zero_add,List.nil_append] at hown; have hX3:=Lib.hid (hX2.out.grow hgrow (fun k e=>by cases e)); have hO3:=Lib.hid (hO2.out.kept hgrow (by intro e; cases e)); have hsz3:=hgrow.size; replace hown:=Lib.hid hown; clear hgrow hX2 hO2 hnil p4 f4)
            refine (test_any b a n c _ (hX3.out.codes hC.out) (hX3.out.glob hg.out)).mono ?_
            rintro e w4 ⟨⟨top,tk,tn,tl,ta,tm,tc,rfl,hTR,hTL,hTF⟩,hH,hG⟩
            have hT4:=hTF.2.2.2
            have hTn:=Lib.hid hTF.2.1.2
            clear hTF
            have hbr:=hX3.out.br
            have hsz4:=hG.size
            have hxs1:=hX3.out.size
            have hbe : b < wr.heap.size:=by omega
            have hX4:=Lib.hid (hX3.out.join hG hH)
            have hO4:=Lib.hid (hO3.out.kept hG (by simp; omega))
            have hEx:=Lib.hid (joinN_ext (M:=M1) (B:=w3.heap.size) (b:=b) (hX3.out.call hG hH).sub)
            have hET:=Lib.hid (EAt.mono (joinN_new M1 w3.heap.size b w4) (eat_test (op:=top) (kind:=tk) (name:=tn) hTR hTL))
            have hlt3:=Lib.hid hown.out.lt
            have hown5:=Lib.hid ((owns_kept hown.out hG (by omega)).alloc (.cells #[.int .i64 top,.string tk,.string tn,.slice ta tm tc,.slice none 0 0] 31))
            have hX5:=Lib.hid (hX4.out.alloc (.cells #[.int .i64 top,.string tk,.string tn,.slice ta tm tc,.slice none 0 0] 31))
            have hO5:=Lib.hid (hO4.out.alloc (.cells #[.int .i64 top,.string tk,.string tn,.slice ta tm tc,.slice none 0 0] 31))
            have he4 : e2 < w4.heap.size:=hO4.out.lt
            have he3 : e2 < w3.heap.size:=hO3.out.lt
            have hof4:=Lib.hid (fun k (hk : w4.heap.size≤k)=>off_new hX4.out.sub hk)
            have hofk:=Lib.hid (fun k (hk : wr.heap.size≤k) (hk2 : k < w3.heap.size)=>(hsub1.out k hk).ext hEx.out hk2)
            have hofe:=Lib.hid (hof1.out.ext hEx.out he3)
            clear hH hG hX3 hown hX4 hTR hTL hO3 hO4 hsub1
            generalize joinN M1 w3.heap.size b w4 = M2 at hX5 hEx hET hof4 hofk hofe
            go_wp2_with (at_builtin; refine wpList_append_lies _ rfl _ _ 29 rfl wr.heap.size 31 i0 (.agg #[.int .i64 0,.string ⟨#[]⟩,.string ⟨#[]⟩,.slice none 0 0,.slice none 0 0]) 5 88 Tryz.underlying29 hi hz0 hz1 hz2 rfl (by decide) v3 kn1 rows1.flatten rfl hown5.out ⟨w4.heap.size,0,none⟩ 1 1 [.int .i64 top,.string tk,.string tn,.slice ta tm tc,.slice none 0 0] rfl rfl (World.news_of_block (cs:=#[.int .i64 top,.string tk,.string tn,.slice ta tm tc,.slice none 0 0]) (t:=31) (fr:=(0,0)) (Own.new' rfl)) (by simp [Value.oneCell']) (by omega) (by unfold maxLen; omega) (by omega) (by simp; omega) (w4.heap.size + 1) (by simp) ?_; intro g cap w6 hown6 hgrow6 hat6 hgl6; have hX6:=Lib.hid (hX5.out.grow hgrow6 (fun k hk=>⟨by have:=(hlt3.out k hk).1; omega,hofk.out k (hlt3.out k hk).1 (hlt3.out k hk).2⟩)); have hO6:=Lib.hid (hO5.out.kept hgrow6 (by intro e; have:=(hlt3.out e2 e).1; omega)); replace hown6:=Lib.hid hown6; replace hat6:=Lib.hid hat6; clear hgrow6 hX5 hown5 hO5; obtain ⟨p0,p1,p2,p3,p4,f0,f1,f2,f3,f4⟩:=own5 hO6.out)
            have hge : wr.heap.size≤g:=by
              rcases hat6.out with h6 | h6
              · exact (hlt3.out g h6).1
              · omega
            have hof : Off g M2:=by
              rcases hat6.out with h6 | h6
              · exact hofk.out g hge (hlt3.out g h6).2
              · exact hof4.out g (by omega)
            have hX7:=(hX6.out.far (p:=⟨e2,4,none⟩) (by show w.heap.size + 2≤e2; omega) hofe.out (.slice (some ⟨g,0,none⟩) (kn1 + 1) cap)).block (g:=g) (by omega) hof
            have hown7:=ownsRow_setCell_below hown6.out (a:=⟨e2,4,none⟩) (by show e2 < wr.heap.size; omega) (.slice (some ⟨g,0,none⟩) (kn1 + 1) cap)
            have hO7 : Own (w6.setCell ⟨e2,4,none⟩ (.slice (some ⟨g,0,none⟩) (kn1 + 1) cap)) e2 #[.int .i64 op,.string kind,.string name,.slice va vn vc,(.slice (some ⟨g,0,none⟩) (kn1 + 1) cap)] 31:=by
              have h9:=hO6.out.set 4 (.slice (some ⟨g,0,none⟩) (kn1 + 1) cap)
              simpa only [List.setIfInBounds_toArray,List.set_cons_zero,List.set_cons_succ] using h9
            have hs7 : Sub M2 (addB M2 g (w6.setCell ⟨e2,4,none⟩ (.slice (some ⟨g,0,none⟩) (kn1 + 1) cap))):=(addB_ext (B:=g) hof (Nat.le_refl _)).sub
            have hR : RowsAt (addB M2 g (w6.setCell ⟨e2,4,none⟩ (.slice (some ⟨g,0,none⟩) (kn1 + 1) cap))) 5 (.slice (some ⟨g,0,none⟩) (kn1 + 1) cap) (rows1 ++ [[.int .i64 top,.string tk,.string tn,.slice ta tm tc,.slice none 0 0]]) :=
              addB_rows (rows_of_owns hown7 (rows1 ++ [[.int .i64 top,.string tk,.string tn,.slice ta tm tc,.slice none 0 0]]) (by simp; omega) (fun r hr=>by rcases List.mem_append.1 hr with h9 | h9; exact rows5 hl1 hE1'.out r h9; rw [List.mem_singleton.1 h9]; rfl) (by simp))
            have hE7:=eat_snoc (op:=op) (kind:=kind) (name:=name) (hv1.out.mono (hEx.out.sub.trans hs7)) hR hl1 (fun v hv=>(hL1.out v hv).mono (hEx.out.sub.trans hs7)) (fun i r k hi hk=>(hE1'.out i r k hi hk).mono (hEx.out.sub.trans hs7)) (hET.out.mono hs7)
            have hofE:=Lib.hid (addB_off (u:=w6.setCell ⟨e2,4,none⟩ (.slice (some ⟨g,0,none⟩) (kn1 + 1) cap)) hofe.out (show e2 ≠ g by omega))
            replace hX7:=Lib.hid hX7
            replace hO7:=Lib.hid hO7
            replace hE7:=Lib.hid hE7
            clear hR hof hX6 hown6 hs7 hown7 hO6
            go_wp2
            go_roundw
            case rel=>exact ⟨j + 1,by omega,by go_num,Lib.hid ⟨_,_,some ⟨g,0,none⟩,kn1 + 1,cap,hX7.out,hO7.out,hE7.out,by omega,hofE.out,gr_snoc hG1.out hT4 hTn.out⟩⟩
            case measure=>(first | (simp [intOf]; omega) | simp [intOf])
          · obtain rfl : j = 11:=by omega
            obtain ⟨q0,q1,q2,q3,q4,g0,g1,g2,g3,g4⟩:=own5 hX2.box
            have hX9:=Lib.hid (((((hX2.set0 (.int .i64 op)).set1 (.string kind)).set2 (.string name)).set3 (.slice va vn vc)).set4 (.slice ka1 kn1 kc1))
            replace hE1:=Lib.hid hE1
            have hne : ¬ e2 = w.heap.size:=by omega
            go_wp2
            go_meet
            exact ⟨M1,d1,op,kind,name,va,vn,vc,ka1,kn1,kc1,hX9.out,hE1.out,hG1.out.up (by omega)⟩
      · clear p0 p1 p2 p3 p4 f0 f1 f2 f3 f4
        go_upto_region 34 with fail
        refine wp_region_held_drew (S:=fun _=>True) (by kernel_rfl) trivial (fun _=>?_)
        have hX3:=hX2.out.call (grown_drew w2 _) hX2.out.head.drew
        clear hX2
        generalize w2.drew = wd at hX3 ⊢
        refine wpAnyH_take (i:=1) (oi:=?oi901) (v:=?v901) ?ho901 (by kernel_rfl) (by kernel_rfl) (by kernel_rfl) ?hp901 (Or.inl ⟨?hw901,?hy901⟩) trivial ?rest901
        case ho901=>simp only [List.getElem?_toArray,List.getElem?_cons_succ,List.getElem?_cons_zero]; rfl
        case hp901=>exact fun _ _ _ h=>h
        case hw901=>rfl
        case hy901 =>
          intro W hSw
          go_simp
          try exact rfl
        simp only [Act.put]
        refine wpAnyH_ready (rs:=[0,2]) (by kernel_rfl) (by simp) ?_
        refine AllReadyH.cons rfl (fun K hK=>?_) (AllReadyH.cons rfl (fun K hK=>?_) AllReadyH.nil)
        · obtain ⟨p0,p1,p2,p3,p4,f0,f1,f2,f3,f4⟩:=own5 hX3.box
          go_simp
          refine hK.out _ _ trivial (fun _=>?_)
          clear hK K p0 p1 p2 p3 p4 f0 f1 f2 f3 f4
          refine wpAnyH_ready (rs:=[2]) (by kernel_rfl) (by simp) ?_
          refine AllReadyH.cons rfl (fun K hK=>?_) AllReadyH.nil
          go_simp
          refine (test_any b a n c _ (hX3.codes hC.out) (hX3.glob hg.out)).mono ?_
          rintro e w4 ⟨⟨top,tk,tn,tl,ta,tm,tc,rfl,hTR,hTL,hTF⟩,hH,hG⟩
          have hT4:=hTF.2.2.2
          have hTn:=Lib.hid hTF.2.1.2
          clear hTF
          have hEx:=joinN_ext (M:=M) (B:=wd.heap.size) (b:=b) (hX3.call hG hH).sub
          have hET:=EAt.mono (joinN_new M wd.heap.size b w4) (eat_test (op:=top) (kind:=tk) (name:=tn) hTR hTL)
          replace hX3:=hX3.join hG hH
          refine hK.out _ _ trivial (fun _=>?_)
          clear hK K hG hH hTR hTL
          generalize joinN M wd.heap.size b w4 = M2 at hX3 hEx hET
          refine wpAnyH_ready (rs:=[3]) (by kernel_rfl) (by simp) ?_
          refine AllReadyH.cons rfl (fun K hK=>?_) AllReadyH.nil
          go_simp
          have hgb:=hX3.size
          have hof : Off w4.heap.size M2:=off_new hX3.sub (Nat.le_refl _)
          have hs7 : Sub M2 (addB M2 w4.heap.size (w4.alloc (.cells #[.int .i64 op,.string kind,.string name,.slice va vn vc,.slice ka kn kc,.int .i64 top,.string tk,.string tn,.slice ta tm tc,.slice none 0 0] 31))):=(addB_ext hof hgb).sub
          have hR : RowsAt (addB M2 w4.heap.size (w4.alloc (.cells #[.int .i64 op,.string kind,.string name,.slice va vn vc,.slice ka kn kc,.int .i64 top,.string tk,.string tn,.slice ta tm tc,.slice none 0 0] 31))) 5 (.slice (some ⟨w4.heap.size,0,none⟩) 2 2) [[.int .i64 op,.string kind,.string name,.slice va vn vc,.slice ka kn kc],[.int .i64 top,.string tk,.string tn,.slice ta tm tc,.slice none 0 0]] :=
            addB_rows (rows_of_own (Own.new w4 #[.int .i64 op,.string kind,.string name,.slice va vn vc,.slice ka kn kc,.int .i64 top,.string tk,.string tn,.slice ta tm tc,.slice none 0 0] 31) 5 [[.int .i64 op,.string kind,.string name,.slice va vn vc,.slice ka kn kc],[.int .i64 top,.string tk,.string tn,.slice ta tm tc,.slice none 0 0]] (by simp) rfl 2 (by simp) (by decide))
          have hE7:=eat_list (op:=2) (kids:=[.mk op kind name vals kids,.mk top tk tn tl []]) hR rfl (fun i r k hi hk=>by
            match i with
            | 0=>simp at hi hk; subst hi; subst hk; exact hE0.out.mono (hEx.sub.trans hs7)
            | 1=>simp at hi hk; subst hi; subst hk; exact hET.mono hs7
            | i + 2=>simp at hi)
          have hX7:=(hX3.alloc (.cells #[.int .i64 op,.string kind,.string name,.slice va vn vc,.slice ka kn kc,.int .i64 top,.string tk,.string tn,.slice ta tm tc,.slice none 0 0] 31)).block hgb hof
          refine hK.out _ _ trivial (fun _=>?_)
          clear hK K hR hs7 hof hX3 hEx hET
          generalize addB M2 w4.heap.size (w4.alloc (.cells #[.int .i64 op,.string kind,.string name,.slice va vn vc,.slice ka kn kc,.int .i64 top,.string tk,.string tn,.slice ta tm tc,.slice none 0 0] 31)) = M3 at hX7 hE7
          generalize w4.alloc (.cells _ 31) = w5 at hX7 ⊢
          generalize w4.heap.size = g at hE7 ⊢
          refine wpAnyH_take (i:=4) (oi:=?oi902) (v:=?v902) ?ho902 (by kernel_rfl) (by kernel_rfl) (by kernel_rfl) ?hp902 (Or.inl ⟨?hw902,?hy902⟩) trivial ?rest902
          case ho902=>simp only [List.getElem?_toArray,List.getElem?_cons_succ,List.getElem?_cons_zero]; rfl
          case hp902=>exact fun _ _ _ h=>h
          case hw902=>rfl
          case hy902 =>
            intro W hSw
            go_simp
            try exact rfl
          simp only [Act.put]
          refine wpAnyH_ready (rs:=[5]) (by kernel_rfl) (by simp) ?_
          refine AllReadyH.cons rfl (fun K hK=>?_) AllReadyH.nil
          obtain ⟨p0,p1,p2,p3,p4,f0,f1,f2,f3,f4⟩:=own5 hX7.box
          go_simp
          have hX8:=Lib.hid (((((hX7.set0 (.int .i64 2)).set1 (.string ⟨#[]⟩)).set2 (.string ⟨#[]⟩)).set3 (.slice none 0 0)).set4 (.slice (some ⟨g,0,none⟩) 2 2))
          replace hE7:=Lib.hid hE7
          refine hK.out _ _ trivial (fun _=>?_)
          clear hK K p0 p1 p2 p3 p4 f0 f1 f2 f3 f4 hX7
          refine wpAnyH_done (by kernel_rfl) ?_ _
          go_wp2
          go_meet
          exact ⟨_,_,2,⟨#[]⟩,⟨#[]⟩,none,0,0,some ⟨g,0,none⟩,2,2,hX8.out,hE7.out,(gr_list hGr0.out hT4 hTn.out).up (by omega)⟩
        · go_simp
          refine (test_any b a n c _ (hX3.codes hC.out) (hX3.glob hg.out)).mono ?_
          rintro e w4 ⟨⟨top,tk,tn,tl,ta,tm,tc,rfl,hTR,hTL,hTF⟩,hH,hG⟩
          have hT4:=hTF.2.2.2
          have hTn:=Lib.hid hTF.2.1.2
          clear hTF
          have hEx:=joinN_ext (M:=M) (B:=wd.heap.size) (b:=b) (hX3.call hG hH).sub
          have hET:=EAt.mono (joinN_new M wd.heap.size b w4) (eat_test (op:=top) (kind:=tk) (name:=tn) hTR hTL)
          replace hX3:=hX3.join hG hH
          refine hK.out _ _ trivial (fun _=>?_)
          clear hK K hG hH hTR hTL
          generalize joinN M wd.heap.size b w4 = M2 at hX3 hEx hET
          refine wpAnyH_ready (rs:=[0]) (by kernel_rfl) (by simp) ?_
          refine AllReadyH.cons rfl (fun K hK=>?_) AllReadyH.nil
          obtain ⟨p0,p1,p2,p3,p4,f0,f1,f2,f3,f4⟩:=own5 hX3.box
          go_simp
          refine hK.out _ _ trivial (fun _=>?_)
          clear hK K p0 p1 p2 p3 p4 f0 f1 f2 f3 f4
          refine wpAnyH_ready (rs:=[3]) (by kernel_rfl) (by simp) ?_
          refine AllReadyH.cons rfl (fun K hK=>?_) AllReadyH.nil
          go_simp
          have hgb:=hX3.size
          have hof : Off w4.heap.size M2:=off_new hX3.sub (Nat.le_refl _)
          have hs7 : Sub M2 (addB M2 w4.heap.size (w4.alloc (.cells #[.int .i64 op,.string kind,.string name,.slice va vn vc,.slice ka kn kc,.int .i64 top,.string tk,.string tn,.slice ta tm tc,.slice none 0 0] 31))):=(addB_ext hof hgb).sub
          have hR : RowsAt (addB M2 w4.heap.size (w4.alloc (.cells #[.int .i64 op,.string kind,.string name,.slice va vn vc,.slice ka kn kc,.int .i64 top,.string tk,.string tn,.slice ta tm tc,.slice none 0 0] 31))) 5 (.slice (some ⟨w4.heap.size,0,none⟩) 2 2) [[.int .i64 op,.string kind,.string name,.slice va vn vc,.slice ka kn kc],[.int .i64 top,.string tk,.string tn,.slice ta tm tc,.slice none 0 0]] :=
            addB_rows (rows_of_own (Own.new w4 #[.int .i64 op,.string kind,.string name,.slice va vn vc,.slice ka kn kc,.int .i64 top,.string tk,.string tn,.slice ta tm tc,.slice none 0 0] 31) 5 [[.int .i64 op,.string kind,.string name,.slice va vn vc,.slice ka kn kc],[.int .i64 top,.string tk,.string tn,.slice ta tm tc,.slice none 0 0]] (by simp) rfl 2 (by simp) (by decide))
          have hE7:=eat_list (op:=2) (kids:=[.mk op kind name vals kids,.mk top tk tn tl []]) hR rfl (fun i r k hi hk=>by
            match i with
            | 0=>simp at hi hk; subst hi; subst hk; exact hE0.out.mono (hEx.sub.trans hs7)
            | 1=>simp at hi hk; subst hi; subst hk; exact hET.mono hs7
            | i + 2=>simp at hi)
          have hX7:=(hX3.alloc (.cells #[.int .i64 op,.string kind,.string name,.slice va vn vc,.slice ka kn kc,.int .i64 top,.string tk,.string tn,.slice ta tm tc,.slice none 0 0] 31)).block hgb hof
          refine hK.out _ _ trivial (fun _=>?_)
          clear hK K hR hs7 hof hX3 hEx hET
          generalize addB M2 w4.heap.size (w4.alloc (.cells #[.int .i64 op,.string kind,.string name,.slice va vn vc,.slice ka kn kc,.int .i64 top,.string tk,.string tn,.slice ta tm tc,.slice none 0 0] 31)) = M3 at hX7 hE7
          generalize w4.alloc (.cells _ 31) = w5 at hX7 ⊢
          generalize w4.heap.size = g at hE7 ⊢
          refine wpAnyH_take (i:=4) (oi:=?oi903) (v:=?v903) ?ho903 (by kernel_rfl) (by kernel_rfl) (by kernel_rfl) ?hp903 (Or.inl ⟨?hw903,?hy903⟩) trivial ?rest903
          case ho903=>simp only [List.getElem?_toArray,List.getElem?_cons_succ,List.getElem?_cons_zero]; rfl
          case hp903=>exact fun _ _ _ h=>h
          case hw903=>rfl
          case hy903 =>
            intro W hSw
            go_simp
            try exact rfl
          simp only [Act.put]
          refine wpAnyH_ready (rs:=[5]) (by kernel_rfl) (by simp) ?_
          refine AllReadyH.cons rfl (fun K hK=>?_) AllReadyH.nil
          obtain ⟨p0,p1,p2,p3,p4,f0,f1,f2,f3,f4⟩:=own5 hX7.box
          go_simp
          have hX8:=Lib.hid (((((hX7.set0 (.int .i64 2)).set1 (.string ⟨#[]⟩)).set2 (.string ⟨#[]⟩)).set3 (.slice none 0 0)).set4 (.slice (some ⟨g,0,none⟩) 2 2))
          replace hE7:=Lib.hid hE7
          refine hK.out _ _ trivial (fun _=>?_)
          clear hK K p0 p1 p2 p3 p4 f0 f1 f2 f3 f4 hX7
          refine wpAnyH_done (by kernel_rfl) ?_ _
          go_wp2
          go_meet
          exact ⟨_,_,2,⟨#[]⟩,⟨#[]⟩,none,0,0,some ⟨g,0,none⟩,2,2,hX8.out,hE7.out,(gr_list hGr0.out hT4 hTn.out).up (by omega)⟩
    case rest =>
    clear hX2
    obtain ⟨M',d',op',kind',name',va',vn',vc',ka',kn',kc',hX3,hE3,hG3⟩:=hcut
    replace hG3:=Lib.hid hG3
    replace hX3:=Lib.hid hX3
    replace hE3:=Lib.hid hE3
    obtain ⟨p0,p1,p2,p3,p4,f0,f1,f2,f3,f4⟩:=own5 hX3.out.box
    obtain ⟨d0,d1,d2,d3,d4,g0,g1,g2,g3,g4⟩:=own5 hX3.out.res
    go_wp2
    refine bodyPost_ret (v:=.agg #[.int .i64 op',.string kind',.string name',.slice va' vn' vc',.slice ka' kn' kc']) (by simp [results,Tryz.results13,go_sem,d0,d1,d2,d3,d4]) rfl ?_
    exact hX3.out.doneG hE3.out hG3.out _ _ _ _ _
end Go.Proofs.YtfffpflflggonaaGreatDoor.draw
