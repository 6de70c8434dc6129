/- The drawing function Test: a test that fits the declared attributes. -/
import Derived.Test.YtfffpflflggonaaGreatDoorKS27
namespace Go.Proofs.YtfffpflflggonaaGreatDoor.draw
open Go.RowKit schema
attribute [local go_sem ↓] Go.wp_at_zero Go.wp_at_succ
def exprE (op : Int) (kind name : ByteArray) (v : Value) : Array Value:=#[.int .i64 op,.string kind,.string name,v,.slice none 0 0]
def zeroE : Array Value:=#[.int .i64 0,.string ⟨#[]⟩,.string ⟨#[]⟩,.slice none 0 0,.slice none 0 0]
theorem own5 {w : World} {n : Nat} {x0 x1 x2 x3 x4 : Value} {t : TypeId} (h : Own w n #[x0,x1,x2,x3,x4] t) :
    w.cell? ⟨n,0,none⟩ = some x0∧w.cell? ⟨n,1,none⟩ = some x1∧w.cell? ⟨n,2,none⟩ = some x2∧w.cell? ⟨n,3,none⟩ = some x3∧w.cell? ⟨n,4,none⟩ = some x4 ∧
    w.frozen? ⟨n,0,none⟩ = false∧w.frozen? ⟨n,1,none⟩ = false∧w.frozen? ⟨n,2,none⟩ = false∧w.frozen? ⟨n,3,none⟩ = false∧w.frozen? ⟨n,4,none⟩ = false :=
  ⟨h.cell 0,h.cell 1,h.cell 2,h.cell 3,h.cell 4,h.free 0,h.free 1,h.free 2,h.free 3,h.free 4⟩
theorem own3 {w : World} {n : Nat} {x0 x1 x2 : Value} {t : TypeId} (h : Own w n #[x0,x1,x2] t) :
    w.cell? ⟨n,0,none⟩ = some x0∧w.cell? ⟨n,1,none⟩ = some x1∧w.cell? ⟨n,2,none⟩ = some x2 :=
  ⟨h.cell 0,h.cell 1,h.cell 2⟩
def TestFits (op : Int) (kind name : ByteArray) (l : List VD) : Prop:=6≤op∧(op≤15∧kind.size≤1048576∧name.size≤1048576)∧(∀ segs,hereS declD segs op kind name l = 0)∧l.length≤4
def TestIs (B b : Nat) (e : Ending) (w' : World) : Prop :=
  ∃ (op : Int) (kind name : ByteArray) (l : List VD) (va : Option Addr) (vn vc : Nat),e = .returned (.agg #[.int .i64 op,.string kind,.string name,.slice va vn vc,.slice none 0 0])∧RowsAt (newM B b w') 4 (.slice va vn vc) (l.map VD.row)∧(∀ v∈l,LAt (newM B b w') v)∧TestFits op kind name l
theorem decl_short : ∀ j,(h : j < 8)→(declD[j]'h).kind.size≤1048576∧(declD[j]'h).name.size≤1048576:=by
  intro j h
  have : ∀ j : Fin 8,(declD[j.val]'j.isLt).kind.size≤1048576∧(declD[j.val]'j.isLt).name.size≤1048576:=by decide +kernel
  exact this ⟨j,h⟩
theorem fits_here {op t : Int} {kind name : ByteArray} {l : List VD} (hTn : typeOf kind.toList name.toList declD = t∧kind.size≤1048576∧name.size≤1048576) (ht : 1≤t) (h1 : 6≤op) (h2 : op≤15) (hlen : l.length≤4) (hf : fitsS op t l = true) : TestFits op kind name l:=by
  have hT:=hTn.1
  refine ⟨h1,⟨h2,hTn.2⟩,fun segs=>?_,hlen⟩
  unfold hereS
  rw [if_neg (by omega),if_pos ⟨h1,h2⟩,hT,if_neg (by omega),if_pos hf]
theorem kindOf_self {t : Int} (h1 : 1≤t) (h2 : t≤5) : kindOf t = t:=by unfold kindOf; split <;> omega
theorem declArr_cell (j : Nat) (h : j < 8) : declArr[j * 3]? = some (.string (declD[j]'h).kind)∧declArr[j * 3 + 1]? = some (.string (declD[j]'h).name)∧declArr[j * 3 + 2]? = some (.int .i64 (declD[j]'h).type):=by
  have h1:=flat_get 3 (declD.map DD.row) (by intro r hr; obtain ⟨d,-,rfl⟩:=List.mem_map.1 hr; rfl) j ((declD[j]'h).row) (by rw [List.getElem?_map,List.getElem?_eq_getElem (show j < declD.length from h)]; rfl)
  exact ⟨by simpa [declArr] using h1 0 _ rfl,by simpa [declArr] using h1 1 _ rfl,by simpa [declArr] using h1 2 _ rfl⟩
structure TI (w u : World) (b : Nat) (a : Option Addr) (n c r e d : Nat) (kind name : ByteArray) (t op : Int) (v : Value) : Prop where
  head : Head b a n c u
  grown : w.grownBy u (some b)
  ownR : Own u r zeroE 31
  ownD : Own u d #[.string kind,.string name,.int .i64 t] 100
  ownE : Own u e (exprE op kind name v) 31
  br : b < w.heap.size
  rw : w.heap.size≤r
  de : d = e - 1
  re : r + 1 < e
theorem TI.call {w u x : World} {b : Nat} {a : Option Addr} {n c r e d : Nat} {kind name : ByteArray} {t op : Int} {v : Value} (h : TI w u b a n c r e d kind name t op v) (hG : u.grownBy x (some b)) (hH : Head b a n c x) : TI w x b a n c r e d kind name t op v:=by
  obtain ⟨h1,h2,h3,h4,h5,h6,h7,h8,h9⟩:=h
  exact ⟨hH,g_call h2 hG,h3.kept hG (by simp; omega),h4.kept hG (by simp; omega),h5.kept hG (by simp; omega),h6,h7,h8,h9⟩
theorem TI.drew {w u : World} {b : Nat} {a : Option Addr} {n c r e d : Nat} {kind name : ByteArray} {t op : Int} {v : Value} (h : TI w u b a n c r e d kind name t op v) : TI w u.drew b a n c r e d kind name t op v:=by
  obtain ⟨h1,h2,h3,h4,h5,h6,h7,h8,h9⟩:=h
  exact ⟨h1,g_drew h2,h3,h4,h5,h6,h7,h8,h9⟩
theorem TI.setOp {w u : World} {b : Nat} {a : Option Addr} {n c r e d : Nat} {kind name : ByteArray} {t op : Int} {v : Value} (h : TI w u b a n c r e d kind name t op v) (op' : Int) : TI w (u.setCell ⟨e,0,none⟩ (.int .i64 op')) b a n c r e d kind name t op' v:=by
  obtain ⟨h1,h2,h3,h4,h5,h6,h7,h8,h9⟩:=h
  exact ⟨h1.set (by simp; omega) _,g_setCell h2 (by simp; omega) _,h3.setOther (by simp; omega) _,h4.setOther (by simp; omega) _,h5.set 0 _,h6,h7,h8,h9⟩
theorem TI.codes {w u : World} {b : Nat} {a : Option Addr} {n c r e d : Nat} {kind name : ByteArray} {t op : Int} {v : Value} (h : TI w u b a n c r e d kind name t op v) (hC : Codes b a n c w) : Codes b a n c u:=hC.still h.grown h.head
theorem TI.glob {w u : World} {b : Nat} {a : Option Addr} {n c r e d : Nat} {kind name : ByteArray} {t op : Int} {v : Value} (h : TI w u b a n c r e d kind name t op v) (hg : Glob (but b w)) : Glob (but b u):=hg.mono (sub_of_grown h.grown)
theorem fits_eq {t : Int} {d : VD} (h : d.kind = t) : fitsS 7 t [d] = true:=by simp [fitsS,fitsK,h]
theorem fits_contains {t : Int} {d : VD} (ht : t = 3∨t = 5) (h : d.kind = kindOf 3) : fitsS 11 t [d] = true:=by
  rw [kindOf_self (by omega) (by omega)] at h
  rcases ht with rfl | rfl <;> simp [fitsS,fitsK,h]
theorem fits_starts {op t : Int} {d : VD} (ho : op = 9∨op = 10) (ht : t = 3) (h : d.kind = kindOf 3) : fitsS op t [d] = true:=by
  rw [kindOf_self (by omega) (by omega)] at h
  rcases ho with rfl | rfl <;> simp [fitsS,fitsK,h,ht]
theorem fits_cmp {op t : Int} {d : VD} (ho : 12≤op) (ht : t = 2∨t = 3∨t = 4) (h : d.kind = t) : fitsS op t [d] = true:=by
  unfold fitsS fitsK
  rw [if_neg (by omega),if_neg (by omega)]
  simp only
  rw [if_neg (by omega),if_neg (by omega),if_neg (by omega),h]
  rcases ht with rfl | rfl | rfl <;> simp
theorem allKind_snoc (t : Int) (l : List VD) (d : VD) : allKind t (l ++ [d]) = (allKind t l && d.kind == t):=by
  induction l with
  | nil=>simp [allKind]
  | cons x r ih=>simp [allKind,ih,Bool.and_assoc]
theorem fits_in8 {t : Int} {l : List VD} (ht : t ≠ 5) (h : allKind t l = true) : fitsS 8 t l = true:=by simp [fitsS,ht,h]
theorem vals_more {B b : Nat} {g : Option Nat} {w4 w5 : World} {l : List VD} {dv : VD} (h : ∀ v∈l,LAt (newG B b g w4) v) (hg : ∀ j,g = some j→j < w4.heap.size) (hB : B≤w4.heap.size) (hG : w4.drew.grownBy w5 (some b)) (hd : LAt (newM w4.drew.heap.size b w5) dv) : ∀ v∈l ++ [dv],LAt (newG B b g w5) v:=by
  intro v hv
  rcases List.mem_append.1 hv with hv | hv
  · exact (h v hv).mono (newG_grown (w:=w4.drew) hG)
  · obtain rfl:=List.mem_singleton.1 hv
    exact hd.mono (newM_newG hB hg w5)
def RelI (w wr : World) (b : Nat) (a : Option Addr) (n c r e d : Nat) (kind name : ByteArray) (t : Int) (k : Nat) : Prop :=
  ∃ va vc,∃ l : List VD,l.length = k∧allKind t l = true∧(∀ v∈l,LAt (newG (e + 1) b (Value.slice va k vc).ownBlock wr) v)∧TI w wr b a n c r e d kind name t 8 (.slice va k vc)∧wr.ownsRow (e + 1) 76 4 (.slice va k vc) k (l.map VD.row).flatten
theorem TI.setV {w u : World} {b : Nat} {a : Option Addr} {n c r e d : Nat} {kind name : ByteArray} {t op : Int} {v : Value} (h : TI w u b a n c r e d kind name t op v) (v' : Value) : TI w (u.setCell ⟨e,3,none⟩ v') b a n c r e d kind name t op v':=by
  obtain ⟨h1,h2,h3,h4,h5,h6,h7,h8,h9⟩:=h
  exact ⟨h1.set (by simp; omega) _,g_setCell h2 (by simp; omega) _,h3.setOther (by simp; omega) _,h4.setOther (by simp; omega) _,h5.set 3 _,h6,h7,h8,h9⟩
theorem TI.alloc {w u : World} {b : Nat} {a : Option Addr} {n c r e d : Nat} {kind name : ByteArray} {t op : Int} {v : Value} (h : TI w u b a n c r e d kind name t op v) (o : Obj) : TI w (u.alloc o) b a n c r e d kind name t op v :=
  h.call (World.grownBy_alloc u o _) (h.head.alloc o)
theorem TI.app {w u x : World} {b : Nat} {a : Option Addr} {n c r e d : Nat} {kind name : ByteArray} {t op : Int} {v v2 : Value} {ty : TypeId} {sz m : Nat} {xs : List Value} (h : TI w u b a n c r e d kind name t op v)
    (ho : u.ownsRow (e + 1) ty sz v2 m xs) (hg : u.grownBy x v2.ownBlock) : TI w x b a n c r e d kind name t op v:=by
  obtain ⟨h1,h2,h3,h4,h5,h6,h7,h8,h9⟩:=h
  exact ⟨h1.kept hg (row_far ho (by omega)),g_own h2 hg (fun i e=>by have:=(ho.lt i e).1; omega),own_past ho h3 hg (by omega),own_past ho h4 hg (by omega),own_past ho h5 hg (by omega),h6,h7,h8,h9⟩
theorem relI_next {w w5 w6 : World} {b : Nat} {a : Option Addr} {n c r e d : Nat} {kind name : ByteArray} {t : Int} {k : Nat} {v : Value} {l : List VD} {dv : VD} {o : Obj} {gg cap : Nat} (hl : l.length = k) (ha : allKind t l = true) (hd : dv.kind = t)
    (hLs : ∀ u∈l ++ [dv],LAt (newG (e + 1) b v.ownBlock w5) u) (hat : v.ownBlock = some gg∨gg = w5.heap.size + 1)
    (hI : TI w w5 b a n c r e d kind name t 8 v) (hown : w5.ownsRow (e + 1) 76 4 v k (l.map VD.row).flatten) (hg : (w5.alloc o).grownBy w6 v.ownBlock)
    (hown6 : w6.ownsRow (e + 1) 76 4 (.slice (some ⟨gg,0,none⟩) (k + 1) cap) (k + 1) ((l.map VD.row).flatten ++ dv.row)) :
    RelI w (w6.setCell ⟨e,3,none⟩ (.slice (some ⟨gg,0,none⟩) (k + 1) cap)) b a n c r e d kind name t (k + 1):=by
  have mX : Sub (newG (e + 1) b v.ownBlock w5) (newG (e + 1) b (some gg) (w6.setCell ⟨e,3,none⟩ (.slice (some ⟨gg,0,none⟩) (k + 1) cap))) :=
    ((newG_grown (World.grownBy_alloc w5 o _)).trans (newG_app hg (hat.imp id (fun e=>by rw [e]; simp)))).trans (newG_set (by simp) _)
  refine ⟨some ⟨gg,0,none⟩,cap,l ++ [dv],by simp [hl],by rw [allKind_snoc,ha,hd]; simp,fun u hu=>(hLs u hu).mono mX,((hI.alloc o).app (hown.alloc o) hg).setV _,?_⟩
  have e1 : ((l ++ [dv]).map VD.row).flatten = (l.map VD.row).flatten ++ dv.row:=by simp
  rw [e1]
  exact ownsRow_setCell_below hown6 (by simp) _
theorem info44 : (Tryz.prog.info? 76).map (fun i=>(i.zero,i.size,i.bytes)) = some (some (.agg #[.int .i64 0,.int .i64 0,.string ⟨#[]⟩,.slice none 0 0]),4,56):=by kernel_rfl
theorem vd_one (d : VD) : ∀ u∈d.row,u.oneCell' = true:=by simp [VD.row,Value.oneCell']
set_option maxRecDepth 100000 in
set_option maxHeartbeats 8000000 in
theorem test_any (b : Nat) (a : Option Addr) (n c : Nat) (w : World) (h : Codes b a n c w) (hg : Glob (but b w)) :
    Calls Tryz.prog 29 #[.pointer (some ⟨b,0,none⟩)] w (Drawn b a n c w fun e w'=>TestIs w.heap.size b e w'):=by
  have hC:=Lib.hid h
  have hg0:=Lib.hid hg
  have hlt:=h.lt
  clear h hg
  go_enter Tryz.func29,Tryz.ntmps29
  go_wp2_with fail
  refine (declared_any _).mono ?_
  rintro e w1 ⟨rfl,hw1⟩
  have hR1:=Lib.hid (show Own w1 w.heap.size zeroE 31 from by rw [hw1]; exact (Own.new w zeroE _).alloc _)
  have hD1:=Lib.hid (show Own w1 (w.heap.size + 1) declArr 100 from by rw [hw1]; have:=Own.new (w.alloc (.cells zeroE 31)) declArr 100; rw [World.size_alloc] at this; exact this)
  have hG1:=Lib.hid (show w.grownBy w1 (some b) from by rw [hw1]; exact g_alloc (g_alloc (grown_refl _ _) _) _)
  have hH1:=Lib.hid (show Head b a n c w1 from by rw [hw1]; exact (hC.out.1.alloc _).alloc _)
  have hs1 : w1.heap.size = w.heap.size + 2:=by rw [hw1]; simp
  have hs1':=Lib.hid hs1
  clear hw1 hs1
  go_wp2_with fail
  refine (next_any b a n c _ 9 (by omega) (by omega) (hC.out.still hG1.out hH1.out)).mono ?_
  rintro e w2 ⟨⟨m,rfl,hm0,hm1⟩,hH,hG⟩
  obtain ⟨j,rfl⟩:=Int.eq_ofNat_of_zero_le hm0
  have hR2:=Lib.hid (hR1.out.kept hG (by simp; omega))
  have hD2:=Lib.hid (hD1.out.kept hG (by simp; omega))
  have hG2:=Lib.hid (g_call hG1.out hG)
  have hH2:=Lib.hid hH
  have hs2 : w.heap.size + 2≤w2.heap.size:=by have:=hG.size; rw [hs1'.out] at this; exact this
  clear hH hG
  by_cases hj : j = 8
  · subst hj
    go_wp2_with fail
    refine (key_any b a n c _ (hC.out.still hG2.out hH2.out)).mono ?_
    rintro e w5 ⟨⟨st,rfl,hst⟩,hH,hG⟩
    have hR5:=Lib.hid (hR2.out.kept hG (by simp; omega))
    have hG5:=Lib.hid (g_call hG2.out hG)
    have hH5:=Lib.hid hH
    have hlR : w.heap.size < w5.heap.size:=hR5.out.lt
    have hs5:=hG.size
    clear hH hG
    obtain ⟨d0,d1,d2,d3,d4,g0,g1,g2,g3,g4⟩:=own5 hR5.out
    go_wp2
    refine bodyPost_ret (v:=.agg #[.int .i64 7,.string sUser,.string sKey,.slice (some ⟨w5.heap.size,0,none⟩) 1 1,.slice none 0 0]) (by simp [results,Tryz.results29,go_sem,d0,d1,d2,d3,d4,hlR,sUser,sKey]) rfl ?_
    refine ⟨⟨7,sUser,sKey,[⟨3,0,st,none,0,0,[]⟩],some ⟨w5.heap.size,0,none⟩,1,1,rfl,?_,(fun v hv=>by obtain rfl:=List.mem_singleton.1 hv; exact LAt.flat _ _ _ _ (by omega)),fits_here ⟨key_type,by decide,by decide⟩ (by omega) (by omega) (by omega) (by simp) (fits_eq rfl)⟩,?_,?_⟩
    · exact rows_of_own_new (Own.new' (by simp)) (by omega) (by omega) 4 [VD.row ⟨3,0,st,none,0,0,[]⟩] (by simp [VD.row]) (by simp [VD.row]) 1 (by simp) (by decide)
    · exact Head.alloc (Head.set (Head.set (Head.set (Head.set (Head.set hH5.out (by simp <;> omega) _) (by simp <;> omega) _) (by simp <;> omega) _) (by simp <;> omega) _) (by simp <;> omega) _) _
    · exact g_alloc (g_setCell (g_setCell (g_setCell (g_setCell (g_setCell hG5.out (by simp <;> omega) _) (by simp <;> omega) _) (by simp <;> omega) _) (by simp <;> omega) _) (by simp <;> omega) _) _
  have hj8 : j < 8:=by omega
  have hjb : ((j : Int) == 8) = false:=by simp; omega
  clear hj
  obtain ⟨q0,q1,q2⟩:=declArr_cell j hj8
  have r0:=(hD2.out.cell (j * 3)).trans q0
  have r1:=(hD2.out.cell (j * 3 + 1)).trans q1
  have r2:=(hD2.out.cell (j * 3 + 2)).trans q2
  obtain ⟨ht0,ht1,ht2⟩:=decl_types j hj8
  clear q0 q1 q2
  have hn9:=decl_short j hj8
  generalize (declD[j]'hj8) = dd at r0 r1 r2 ht0 ht1 ht2 hn9
  obtain ⟨kind,name,t⟩:=dd
  simp only at r0 r1 r2 ht0 ht1 ht2 hn9
  have hT:=Lib.hid (And.intro ht0 hn9)
  clear ht0 hn9
  go_wp2_with fail
  refine (next_any b a n c _ 5 (by omega) (by omega) (((hC.out.still hG2.out hH2.out).alloc (.cells #[.string kind,.string name,.int .i64 t] 100)).alloc (.cells (exprE 0 kind name (.slice none 0 0)) 31))).mono ?_
  rintro e w3 ⟨⟨s,rfl,hs0,hs1⟩,hH,hG⟩
  have hsz:=hG.size
  simp only [World.size_alloc] at hsz
  have hE3:=((Own.new (w2.alloc (.cells #[.string kind,.string name,.int .i64 t] 100)) (exprE 0 kind name (.slice none 0 0)) 31).kept hG (by simp; omega))
  simp only [World.size_alloc] at hE3
  have hI:=Lib.hid (show TI w w3 b a n c w.heap.size (w2.heap.size + 1) w2.heap.size kind name t 0 (.slice none 0 0) from ⟨hH,g_call (g_alloc (g_alloc hG2.out _) _) hG,((hR2.out.alloc _).alloc _).kept hG (by simp; omega),((Own.new w2 #[.string kind,.string name,.int .i64 t] 100).alloc _).kept hG (by simp; omega),hE3,hlt,by omega,by omega,by omega⟩)
  clear hH hG r0 r1 r2 hE3 hR1 hD1 hG1 hH1 hs1' hR2 hD2 hG2 hH2
  have hsc : s = 0∨s = 1∨s = 2∨s = 3∨s = 4:=by omega
  rcases hsc with rfl | rfl | rfl | rfl | rfl
  · skip
    obtain ⟨c0,c1,c2,c3,c4,f0,f1,f2,f3,f4⟩:=own5 hI.out.ownE
    obtain ⟨d0,d1,d2,d3,d4,g0,g1,g2,g3,g4⟩:=own5 hI.out.ownR
    obtain ⟨b0,b1,b2⟩:=own3 hI.out.ownD
    go_wp2
    refine bodyPost_ret (v:=.agg #[.int .i64 6,.string kind,.string name,.slice none 0 0,.slice none 0 0]) (by simp [results,Tryz.results29,go_sem,d0,d1,d2,d3,d4]) rfl ?_
    refine ⟨⟨6,kind,name,[],none,0,0,rfl,rows_nil _ _,(fun v hv=>by cases hv),fits_here hT.out ht1 (by omega) (by omega) (by simp) (by simp [fitsS])⟩,?_,?_⟩
    · exact (Head.set (Head.set (Head.set (Head.set (Head.set (Head.set hI.out.head (by simp <;> omega) _) (by simp <;> omega) _) (by simp <;> omega) _) (by simp <;> omega) _) (by simp <;> omega) _) (by simp <;> omega) _)
    · exact (g_setCell (g_setCell (g_setCell (g_setCell (g_setCell (g_setCell hI.out.grown (by simp <;> omega) _) (by simp <;> omega) _) (by simp <;> omega) _) (by simp <;> omega) _) (by simp <;> omega) _) (by simp <;> omega) _)
  · by_cases hne5 : t = 5
    · subst hne5
      have hI4:=Lib.hid (hI.out.setOp 7)
      obtain ⟨c0,c1,c2,c3,c4,f0,f1,f2,f3,f4⟩:=own5 hI.out.ownE
      obtain ⟨d0,d1,d2,d3,d4,g0,g1,g2,g3,g4⟩:=own5 hI.out.ownR
      obtain ⟨b0,b1,b2⟩:=own3 hI.out.ownD
      go_wp2_with fail
      refine (value_any b a n c _ (hI4.out.codes hC.out) (hI4.out.glob hg0.out) _).mono ?_
      rintro e w5 ⟨⟨dv,rfl,hdk,hLd⟩,hH,hG⟩
      have hL5:=Lib.hid (LAtLow (B:=w2.heap.size + 2) hLd (show w2.heap.size + 2≤_ from hI4.out.ownE.lt))
      have hI5:=Lib.hid (hI4.out.call hG hH)
      have hs5 : w.heap.size + 2≤w5.heap.size:=by have h1:=hI5.out.ownE.lt; have h2:=hI5.out.re; omega
      have hlE : w2.heap.size + 1 < w5.heap.size:=hI5.out.ownE.lt
      have hlR : w.heap.size < w5.heap.size:=by omega
      have hdk1:=Lib.hid hdk
      clear hH hG hdk hLd
      clear c0 c1 c2 c3 c4 f0 f1 f2 f3 f4 d0 d1 d2 d3 d4 g0 g1 g2 g3 g4 b0 b1 b2
      obtain ⟨c0,c1,c2,c3,c4,f0,f1,f2,f3,f4⟩:=own5 hI5.out.ownE
      obtain ⟨d0,d1,d2,d3,d4,g0,g1,g2,g3,g4⟩:=own5 hI5.out.ownR
      obtain ⟨b0,b1,b2⟩:=own3 hI5.out.ownD
      unfold VD.row
      go_wp2
      refine bodyPost_ret (v:=.agg #[.int .i64 (7),.string kind,.string name,.slice (some ⟨w5.heap.size,0,none⟩) 1 1,.slice none 0 0]) (by simp [results,Tryz.results29,go_sem,d0,d1,d2,d3,d4,hlR]) rfl ?_
      refine ⟨⟨7,kind,name,[dv],some ⟨w5.heap.size,0,none⟩,1,1,rfl,?_,?_,fits_here hT.out (by omega) (by omega) (by omega) (by simp) (fits_eq (hdk1.out.trans (kindOf_self (by omega) (by omega))))⟩,?_,?_⟩
      · exact rows_of_own_new (Own.new' (by simp)) (by omega) (by omega) 4 [dv.row] (by simp [VD.row]) (by simp [VD.row]) 1 (by simp) (by decide)
      · intro v hv
        obtain rfl:=List.mem_singleton.1 hv
        exact LAtLow (LAtAlloc (LAtSet (LAtSet (LAtSet (LAtSet (LAtSet (LAtSet hL5.out (by simp <;> omega) _) (by simp <;> omega) _) (by simp <;> omega) _) (by simp <;> omega) _) (by simp <;> omega) _) (by simp <;> omega) _) _) (by omega)
      · exact Head.alloc (Head.set (Head.set (Head.set (Head.set (Head.set (Head.set hI5.out.head (by simp <;> omega) _) (by simp <;> omega) _) (by simp <;> omega) _) (by simp <;> omega) _) (by simp <;> omega) _) (by simp <;> omega) _) _
      · exact g_alloc (g_setCell (g_setCell (g_setCell (g_setCell (g_setCell (g_setCell hI5.out.grown (by simp <;> omega) _) (by simp <;> omega) _) (by simp <;> omega) _) (by simp <;> omega) _) (by simp <;> omega) _) (by simp <;> omega) _) _
    have hb5 : (t != 5) = true:=by simp [hne5]
    have hne5':=Lib.hid hne5
    clear hne5
    have hne5:=hne5'
    have hS:=Lib.hid (show RelI w (w3.setCell ⟨w2.heap.size + 1,0,none⟩ (.int .i64 8)) b a n c w.heap.size (w2.heap.size + 1) w2.heap.size kind name t 0 from ⟨none,0,[],rfl,rfl,(fun v hv=>by cases hv),hI.out.setOp 8,World.ownsRow_nil _ _ _ _⟩)
    obtain ⟨c0,c1,c2,c3,c4,f0,f1,f2,f3,f4⟩:=own5 hI.out.ownE
    obtain ⟨d0,d1,d2,d3,d4,g0,g1,g2,g3,g4⟩:=own5 hI.out.ownR
    obtain ⟨b0,b1,b2⟩:=own3 hI.out.ownD
    obtain ⟨i0,hi,hz0,hz1,hz2⟩:=info_parts info44
    go_wp2_with fail
    clear c0 c1 c2 c3 c4 f0 f1 f2 f3 f4 d0 d1 d2 d3 d4 g0 g1 g2 g3 g4 b0 b1 b2
    go_loopw [7] (fun i wr=>∃ k : Nat,k≤3∧i = .int .i64 k∧Hid (RelI w wr b a n c w.heap.size (w2.heap.size + 1) w2.heap.size kind name t k)) (fun i _=>4 - (intOf i).toNat)
    case atStart=>exact ⟨0,by omega,rfl,hS.out⟩
    case round =>
      obtain ⟨k,hk,rfl,hR⟩:=hrel
      obtain ⟨va,vc,l,hl,hak,hLs,hTI,hown⟩:=hR.out
      have hl0:=Lib.hid hl
      have ha0:=Lib.hid hak
      have hI0:=Lib.hid hTI
      have hown0:=Lib.hid hown
      have hLs0:=Lib.hid hLs
      have hlt0 : ∀ j,(Value.slice va k vc).ownBlock = some j→j < wr.heap.size:=fun j hj=>(hown.lt j hj).2
      replace hlt0:=Lib.hid hlt0
      clear hl hak hLs hTI hown
      go_wp2_with fail
      refine (next_any _ a n c _ 3 (by omega) (by omega) (hI0.out.codes hC.out)).mono ?_
      rintro e w4 ⟨⟨m,rfl,hm0,hm1⟩,hH,hG⟩
      have hI4:=Lib.hid (hI0.out.call hG hH)
      have hown4:=Lib.hid (owns_kept hown0.out hG (by omega))
      have hl4 : w2.heap.size + 1 < w4.heap.size:=hI4.out.ownE.lt
      have hLs4:=Lib.hid (fun v hv=>(hLs0.out v hv).mono (newG_grown hG))
      have hlt4:=Lib.hid (fun j hj=>Nat.lt_of_lt_of_le (hlt0.out j hj) hG.size)
      clear hH hG hLs0 hlt0
      obtain ⟨c0,c1,c2,c3,c4,f0,f1,f2,f3,f4⟩:=own5 hI4.out.ownE
      obtain ⟨d0,d1,d2,d3,d4,g0,g1,g2,g3,g4⟩:=own5 hI4.out.ownR
      obtain ⟨b0,b1,b2⟩:=own3 hI4.out.ownD
      by_cases hkm : (k : Int)≤m
      · go_wp2_with fail
        go_region_law
          ((first
            | (refine step_append_lies _ (by rfl) _ _ _ (by rfl) (w2.heap.size + 1 + 1) 76 i0 _ 4 56 Tryz.underlying28 hi hz0 hz1 hz2 rfl (by omega) (.slice va k vc) k _ (by rfl) (hown5.out.alloc _) ⟨w5.heap.size,0,none⟩ 1 1 dv.row (by rfl) (by rfl) (World.news_of_block (cs:=dv.row.toArray) (t:=76) (fr:=(0,0)) (heap_alloc_new w5 _)) (vd_one dv) (by omega) (by unfold maxLen; omega) (by omega) (by simp; omega) (w5.heap.size + 1) (by simp) ?_; intro gg cap w6 hown6 hgrow6 hat hlt6; have hE6:=own_past (hown5.out.alloc _) (hI5.out.ownE.alloc _) hgrow6 (show w2.heap.size + 1 < w2.heap.size + 1 + 1 from Nat.lt_succ_self _); have y3:=hE6.cell 3; have z3:=hE6.free 3; simp [exprE] at y3)
            | (go_simp; go_at_call 57; refine (value_any _ a n c _ (hI4.out.drew.codes hC.out) (hI4.out.drew.glob hg0.out) _).mono ?_; rintro e w5 ⟨⟨dv,rfl,hd,hLd⟩,hH5,hG6⟩; have hLs5:=Lib.hid (vals_more hLs4.out hlt4.out (show w2.heap.size + 1 + 1≤w4.heap.size from hl4) hG6 hLd); have hI5:=Lib.hid (hI4.out.drew.call hG6 hH5); have hl5 : w2.heap.size + 1 < w5.heap.size:=hI5.out.ownE.lt; have x3:=hI5.out.ownE.cell 3; simp [exprE] at x3; have hown5:=Lib.hid (owns_kept (owns_drew hown4.out) hG6 (by omega)); have hd0:=Lib.hid hd; clear hH5 hG6 hd hLd; unfold VD.row)))
        all_goals
          have hN:=Lib.hid (relI_next hl0.out ha0.out (hd0.out.trans (kindOf_self ht1 ht2)) hLs5.out hat hI5.out hown5.out hgrow6 hown6)
          clear hgrow6 hown6 hat
          go_wp2
          go_roundw
          case rel=>exact ⟨k + 1,by omega,by go_num,hN.out⟩
          case measure=>simp [intOf]; omega
      · go_wp2
        refine bodyPost_ret (v:=.agg #[.int .i64 8,.string kind,.string name,.slice va k vc,.slice none 0 0]) (by simp [results,Tryz.results29,go_sem,d0,d1,d2,d3,d4]) rfl ?_
        refine ⟨⟨8,kind,name,l,va,k,vc,rfl,?_,?_,fits_here hT.out (by omega) (by omega) (by omega) (by have:=hl0.out; omega) (fits_in8 hne5.out ha0.out)⟩,?_,?_⟩
        · have hl1:=hl0.out
          have hR:=hI4.out.rw
          refine rows_of_owns_new (base:=w2.heap.size + 1 + 1) (e:=76) (n:=k) ?_ (by omega) (by omega) (l.map VD.row) (by simp [hl1]) (by intro r hr; obtain ⟨d,-,rfl⟩:=List.mem_map.1 hr; rfl) rfl
          exact (ownsRow_setCell_below (ownsRow_setCell_below (ownsRow_setCell_below (ownsRow_setCell_below (ownsRow_setCell_below hown4.out (by simp <;> omega) _) (by simp <;> omega) _) (by simp <;> omega) _) (by simp <;> omega) _) (by simp <;> omega) _)
        · intro v hv
          have hR:=hI4.out.rw
          exact LAtLow ((LAtSet (LAtSet (LAtSet (LAtSet (LAtSet ((hLs4.out v hv).mono (newG_none _ _ _ _)) (by simp <;> omega) _) (by simp <;> omega) _) (by simp <;> omega) _) (by simp <;> omega) _) (by simp <;> omega) _)) (show w.heap.size≤w2.heap.size + 1 + 1 by omega)
        · exact (Head.set (Head.set (Head.set (Head.set (Head.set hI4.out.head (by simp <;> omega) _) (by simp <;> omega) _) (by simp <;> omega) _) (by simp <;> omega) _) (by simp <;> omega) _)
        · exact (g_setCell (g_setCell (g_setCell (g_setCell (g_setCell hI4.out.grown (by simp <;> omega) _) (by simp <;> omega) _) (by simp <;> omega) _) (by simp <;> omega) _) (by simp <;> omega) _)
  · by_cases hne5 : t = 3∨t = 5
    · rcases hne5 with rfl | rfl
      · skip
        have hI4:=Lib.hid (hI.out.setOp 11)
        obtain ⟨c0,c1,c2,c3,c4,f0,f1,f2,f3,f4⟩:=own5 hI.out.ownE
        obtain ⟨d0,d1,d2,d3,d4,g0,g1,g2,g3,g4⟩:=own5 hI.out.ownR
        obtain ⟨b0,b1,b2⟩:=own3 hI.out.ownD
        go_wp2_with fail
        refine (value_any b a n c _ (hI4.out.codes hC.out) (hI4.out.glob hg0.out) _).mono ?_
        rintro e w5 ⟨⟨dv,rfl,hdk,hLd⟩,hH,hG⟩
        have hL5:=Lib.hid (LAtLow (B:=w2.heap.size + 2) hLd (show w2.heap.size + 2≤_ from hI4.out.ownE.lt))
        have hI5:=Lib.hid (hI4.out.call hG hH)
        have hs5 : w.heap.size + 2≤w5.heap.size:=by have h1:=hI5.out.ownE.lt; have h2:=hI5.out.re; omega
        have hlE : w2.heap.size + 1 < w5.heap.size:=hI5.out.ownE.lt
        have hlR : w.heap.size < w5.heap.size:=by omega
        have hdk1:=Lib.hid hdk
        clear hH hG hdk hLd
        clear c0 c1 c2 c3 c4 f0 f1 f2 f3 f4 d0 d1 d2 d3 d4 g0 g1 g2 g3 g4 b0 b1 b2
        obtain ⟨c0,c1,c2,c3,c4,f0,f1,f2,f3,f4⟩:=own5 hI5.out.ownE
        obtain ⟨d0,d1,d2,d3,d4,g0,g1,g2,g3,g4⟩:=own5 hI5.out.ownR
        obtain ⟨b0,b1,b2⟩:=own3 hI5.out.ownD
        unfold VD.row
        go_wp2
        refine bodyPost_ret (v:=.agg #[.int .i64 (11),.string kind,.string name,.slice (some ⟨w5.heap.size,0,none⟩) 1 1,.slice none 0 0]) (by simp [results,Tryz.results29,go_sem,d0,d1,d2,d3,d4,hlR]) rfl ?_
        refine ⟨⟨11,kind,name,[dv],some ⟨w5.heap.size,0,none⟩,1,1,rfl,?_,?_,fits_here hT.out (by omega) (by omega) (by omega) (by simp) (fits_contains (by omega) hdk1.out)⟩,?_,?_⟩
        · exact rows_of_own_new (Own.new' (by simp)) (by omega) (by omega) 4 [dv.row] (by simp [VD.row]) (by simp [VD.row]) 1 (by simp) (by decide)
        · intro v hv
          obtain rfl:=List.mem_singleton.1 hv
          exact LAtLow (LAtAlloc (LAtSet (LAtSet (LAtSet (LAtSet (LAtSet (LAtSet hL5.out (by simp <;> omega) _) (by simp <;> omega) _) (by simp <;> omega) _) (by simp <;> omega) _) (by simp <;> omega) _) (by simp <;> omega) _) _) (by omega)
        · exact Head.alloc (Head.set (Head.set (Head.set (Head.set (Head.set (Head.set hI5.out.head (by simp <;> omega) _) (by simp <;> omega) _) (by simp <;> omega) _) (by simp <;> omega) _) (by simp <;> omega) _) (by simp <;> omega) _) _
        · exact g_alloc (g_setCell (g_setCell (g_setCell (g_setCell (g_setCell (g_setCell hI5.out.grown (by simp <;> omega) _) (by simp <;> omega) _) (by simp <;> omega) _) (by simp <;> omega) _) (by simp <;> omega) _) (by simp <;> omega) _) _
      · skip
        have hI4:=Lib.hid (hI.out.setOp 11)
        obtain ⟨c0,c1,c2,c3,c4,f0,f1,f2,f3,f4⟩:=own5 hI.out.ownE
        obtain ⟨d0,d1,d2,d3,d4,g0,g1,g2,g3,g4⟩:=own5 hI.out.ownR
        obtain ⟨b0,b1,b2⟩:=own3 hI.out.ownD
        go_wp2_with fail
        refine (value_any b a n c _ (hI4.out.codes hC.out) (hI4.out.glob hg0.out) _).mono ?_
        rintro e w5 ⟨⟨dv,rfl,hdk,hLd⟩,hH,hG⟩
        have hL5:=Lib.hid (LAtLow (B:=w2.heap.size + 2) hLd (show w2.heap.size + 2≤_ from hI4.out.ownE.lt))
        have hI5:=Lib.hid (hI4.out.call hG hH)
        have hs5 : w.heap.size + 2≤w5.heap.size:=by have h1:=hI5.out.ownE.lt; have h2:=hI5.out.re; omega
        have hlE : w2.heap.size + 1 < w5.heap.size:=hI5.out.ownE.lt
        have hlR : w.heap.size < w5.heap.size:=by omega
        have hdk1:=Lib.hid hdk
        clear hH hG hdk hLd
        clear c0 c1 c2 c3 c4 f0 f1 f2 f3 f4 d0 d1 d2 d3 d4 g0 g1 g2 g3 g4 b0 b1 b2
        obtain ⟨c0,c1,c2,c3,c4,f0,f1,f2,f3,f4⟩:=own5 hI5.out.ownE
        obtain ⟨d0,d1,d2,d3,d4,g0,g1,g2,g3,g4⟩:=own5 hI5.out.ownR
        obtain ⟨b0,b1,b2⟩:=own3 hI5.out.ownD
        unfold VD.row
        go_wp2
        refine bodyPost_ret (v:=.agg #[.int .i64 (11),.string kind,.string name,.slice (some ⟨w5.heap.size,0,none⟩) 1 1,.slice none 0 0]) (by simp [results,Tryz.results29,go_sem,d0,d1,d2,d3,d4,hlR]) rfl ?_
        refine ⟨⟨11,kind,name,[dv],some ⟨w5.heap.size,0,none⟩,1,1,rfl,?_,?_,fits_here hT.out (by omega) (by omega) (by omega) (by simp) (fits_contains (by omega) hdk1.out)⟩,?_,?_⟩
        · exact rows_of_own_new (Own.new' (by simp)) (by omega) (by omega) 4 [dv.row] (by simp [VD.row]) (by simp [VD.row]) 1 (by simp) (by decide)
        · intro v hv
          obtain rfl:=List.mem_singleton.1 hv
          exact LAtLow (LAtAlloc (LAtSet (LAtSet (LAtSet (LAtSet (LAtSet (LAtSet hL5.out (by simp <;> omega) _) (by simp <;> omega) _) (by simp <;> omega) _) (by simp <;> omega) _) (by simp <;> omega) _) (by simp <;> omega) _) _) (by omega)
        · exact Head.alloc (Head.set (Head.set (Head.set (Head.set (Head.set (Head.set hI5.out.head (by simp <;> omega) _) (by simp <;> omega) _) (by simp <;> omega) _) (by simp <;> omega) _) (by simp <;> omega) _) (by simp <;> omega) _) _
        · exact g_alloc (g_setCell (g_setCell (g_setCell (g_setCell (g_setCell (g_setCell hI5.out.grown (by simp <;> omega) _) (by simp <;> omega) _) (by simp <;> omega) _) (by simp <;> omega) _) (by simp <;> omega) _) (by simp <;> omega) _) _
    have t3 : (t == 3) = false:=by simp; omega
    have t5 : (t == 5) = false:=by simp; omega
    have hI4:=Lib.hid (hI.out.setOp 7)
    obtain ⟨c0,c1,c2,c3,c4,f0,f1,f2,f3,f4⟩:=own5 hI.out.ownE
    obtain ⟨d0,d1,d2,d3,d4,g0,g1,g2,g3,g4⟩:=own5 hI.out.ownR
    obtain ⟨b0,b1,b2⟩:=own3 hI.out.ownD
    go_wp2_with fail
    refine (value_any b a n c _ (hI4.out.codes hC.out) (hI4.out.glob hg0.out) _).mono ?_
    rintro e w5 ⟨⟨dv,rfl,hdk,hLd⟩,hH,hG⟩
    have hL5:=Lib.hid (LAtLow (B:=w2.heap.size + 2) hLd (show w2.heap.size + 2≤_ from hI4.out.ownE.lt))
    have hI5:=Lib.hid (hI4.out.call hG hH)
    have hs5 : w.heap.size + 2≤w5.heap.size:=by have h1:=hI5.out.ownE.lt; have h2:=hI5.out.re; omega
    have hlE : w2.heap.size + 1 < w5.heap.size:=hI5.out.ownE.lt
    have hlR : w.heap.size < w5.heap.size:=by omega
    have hdk1:=Lib.hid hdk
    clear hH hG hdk hLd
    clear c0 c1 c2 c3 c4 f0 f1 f2 f3 f4 d0 d1 d2 d3 d4 g0 g1 g2 g3 g4 b0 b1 b2
    obtain ⟨c0,c1,c2,c3,c4,f0,f1,f2,f3,f4⟩:=own5 hI5.out.ownE
    obtain ⟨d0,d1,d2,d3,d4,g0,g1,g2,g3,g4⟩:=own5 hI5.out.ownR
    obtain ⟨b0,b1,b2⟩:=own3 hI5.out.ownD
    unfold VD.row
    go_wp2
    refine bodyPost_ret (v:=.agg #[.int .i64 (7),.string kind,.string name,.slice (some ⟨w5.heap.size,0,none⟩) 1 1,.slice none 0 0]) (by simp [results,Tryz.results29,go_sem,d0,d1,d2,d3,d4,hlR]) rfl ?_
    refine ⟨⟨7,kind,name,[dv],some ⟨w5.heap.size,0,none⟩,1,1,rfl,?_,?_,fits_here hT.out (by omega) (by omega) (by omega) (by simp) (fits_eq (hdk1.out.trans (kindOf_self (by omega) (by omega))))⟩,?_,?_⟩
    · exact rows_of_own_new (Own.new' (by simp)) (by omega) (by omega) 4 [dv.row] (by simp [VD.row]) (by simp [VD.row]) 1 (by simp) (by decide)
    · intro v hv
      obtain rfl:=List.mem_singleton.1 hv
      exact LAtLow (LAtAlloc (LAtSet (LAtSet (LAtSet (LAtSet (LAtSet (LAtSet hL5.out (by simp <;> omega) _) (by simp <;> omega) _) (by simp <;> omega) _) (by simp <;> omega) _) (by simp <;> omega) _) (by simp <;> omega) _) _) (by omega)
    · exact Head.alloc (Head.set (Head.set (Head.set (Head.set (Head.set (Head.set hI5.out.head (by simp <;> omega) _) (by simp <;> omega) _) (by simp <;> omega) _) (by simp <;> omega) _) (by simp <;> omega) _) (by simp <;> omega) _) _
    · exact g_alloc (g_setCell (g_setCell (g_setCell (g_setCell (g_setCell (g_setCell hI5.out.grown (by simp <;> omega) _) (by simp <;> omega) _) (by simp <;> omega) _) (by simp <;> omega) _) (by simp <;> omega) _) (by simp <;> omega) _) _
  · have ht6 : t = 1∨t = 2∨t = 3∨t = 4∨t = 5:=by omega
    rcases ht6 with rfl | rfl | rfl | rfl | rfl
    · skip
      have hI4:=Lib.hid (hI.out.setOp 7)
      obtain ⟨c0,c1,c2,c3,c4,f0,f1,f2,f3,f4⟩:=own5 hI.out.ownE
      obtain ⟨d0,d1,d2,d3,d4,g0,g1,g2,g3,g4⟩:=own5 hI.out.ownR
      obtain ⟨b0,b1,b2⟩:=own3 hI.out.ownD
      go_wp2_with fail
      refine (value_any b a n c _ (hI4.out.codes hC.out) (hI4.out.glob hg0.out) _).mono ?_
      rintro e w5 ⟨⟨dv,rfl,hdk,hLd⟩,hH,hG⟩
      have hL5:=Lib.hid (LAtLow (B:=w2.heap.size + 2) hLd (show w2.heap.size + 2≤_ from hI4.out.ownE.lt))
      have hI5:=Lib.hid (hI4.out.call hG hH)
      have hs5 : w.heap.size + 2≤w5.heap.size:=by have h1:=hI5.out.ownE.lt; have h2:=hI5.out.re; omega
      have hlE : w2.heap.size + 1 < w5.heap.size:=hI5.out.ownE.lt
      have hlR : w.heap.size < w5.heap.size:=by omega
      have hdk1:=Lib.hid hdk
      clear hH hG hdk hLd
      clear c0 c1 c2 c3 c4 f0 f1 f2 f3 f4 d0 d1 d2 d3 d4 g0 g1 g2 g3 g4 b0 b1 b2
      obtain ⟨c0,c1,c2,c3,c4,f0,f1,f2,f3,f4⟩:=own5 hI5.out.ownE
      obtain ⟨d0,d1,d2,d3,d4,g0,g1,g2,g3,g4⟩:=own5 hI5.out.ownR
      obtain ⟨b0,b1,b2⟩:=own3 hI5.out.ownD
      unfold VD.row
      go_wp2
      refine bodyPost_ret (v:=.agg #[.int .i64 (7),.string kind,.string name,.slice (some ⟨w5.heap.size,0,none⟩) 1 1,.slice none 0 0]) (by simp [results,Tryz.results29,go_sem,d0,d1,d2,d3,d4,hlR]) rfl ?_
      refine ⟨⟨7,kind,name,[dv],some ⟨w5.heap.size,0,none⟩,1,1,rfl,?_,?_,fits_here hT.out (by omega) (by omega) (by omega) (by simp) (fits_eq (hdk1.out.trans (kindOf_self (by omega) (by omega))))⟩,?_,?_⟩
      · exact rows_of_own_new (Own.new' (by simp)) (by omega) (by omega) 4 [dv.row] (by simp [VD.row]) (by simp [VD.row]) 1 (by simp) (by decide)
      · intro v hv
        obtain rfl:=List.mem_singleton.1 hv
        exact LAtLow (LAtAlloc (LAtSet (LAtSet (LAtSet (LAtSet (LAtSet (LAtSet hL5.out (by simp <;> omega) _) (by simp <;> omega) _) (by simp <;> omega) _) (by simp <;> omega) _) (by simp <;> omega) _) (by simp <;> omega) _) _) (by omega)
      · exact Head.alloc (Head.set (Head.set (Head.set (Head.set (Head.set (Head.set hI5.out.head (by simp <;> omega) _) (by simp <;> omega) _) (by simp <;> omega) _) (by simp <;> omega) _) (by simp <;> omega) _) (by simp <;> omega) _) _
      · exact g_alloc (g_setCell (g_setCell (g_setCell (g_setCell (g_setCell (g_setCell hI5.out.grown (by simp <;> omega) _) (by simp <;> omega) _) (by simp <;> omega) _) (by simp <;> omega) _) (by simp <;> omega) _) (by simp <;> omega) _) _
    · skip
      obtain ⟨c0,c1,c2,c3,c4,f0,f1,f2,f3,f4⟩:=own5 hI.out.ownE
      obtain ⟨d0,d1,d2,d3,d4,g0,g1,g2,g3,g4⟩:=own5 hI.out.ownR
      obtain ⟨b0,b1,b2⟩:=own3 hI.out.ownD
      go_wp2_with fail
      refine (next_any b a n c _ 4 (by omega) (by omega) (hI.out.codes hC.out)).mono ?_
      rintro e w4 ⟨⟨m2,rfl,hm20,hm21⟩,hH,hG⟩
      have hJ:=Lib.hid (hI.out.call hG hH)
      have hI4:=Lib.hid (hJ.out.setOp (12 + m2))
      clear hH hG
      clear c0 c1 c2 c3 c4 f0 f1 f2 f3 f4 d0 d1 d2 d3 d4 g0 g1 g2 g3 g4 b0 b1 b2
      obtain ⟨c0,c1,c2,c3,c4,f0,f1,f2,f3,f4⟩:=own5 hJ.out.ownE
      obtain ⟨d0,d1,d2,d3,d4,g0,g1,g2,g3,g4⟩:=own5 hJ.out.ownR
      obtain ⟨b0,b1,b2⟩:=own3 hJ.out.ownD
      go_wp2_with fail
      refine (value_any b a n c _ (hI4.out.codes hC.out) (hI4.out.glob hg0.out) _).mono ?_
      rintro e w5 ⟨⟨dv,rfl,hdk,hLd⟩,hH,hG⟩
      have hL5:=Lib.hid (LAtLow (B:=w2.heap.size + 2) hLd (show w2.heap.size + 2≤_ from hI4.out.ownE.lt))
      have hI5:=Lib.hid (hI4.out.call hG hH)
      have hs5 : w.heap.size + 2≤w5.heap.size:=by have h1:=hI5.out.ownE.lt; have h2:=hI5.out.re; omega
      have hlE : w2.heap.size + 1 < w5.heap.size:=hI5.out.ownE.lt
      have hlR : w.heap.size < w5.heap.size:=by omega
      have hdk1:=Lib.hid hdk
      clear hH hG hdk hLd
      clear c0 c1 c2 c3 c4 f0 f1 f2 f3 f4 d0 d1 d2 d3 d4 g0 g1 g2 g3 g4 b0 b1 b2
      obtain ⟨c0,c1,c2,c3,c4,f0,f1,f2,f3,f4⟩:=own5 hI5.out.ownE
      obtain ⟨d0,d1,d2,d3,d4,g0,g1,g2,g3,g4⟩:=own5 hI5.out.ownR
      obtain ⟨b0,b1,b2⟩:=own3 hI5.out.ownD
      unfold VD.row
      go_wp2
      refine bodyPost_ret (v:=.agg #[.int .i64 (12 + m2),.string kind,.string name,.slice (some ⟨w5.heap.size,0,none⟩) 1 1,.slice none 0 0]) (by simp [results,Tryz.results29,go_sem,d0,d1,d2,d3,d4,hlR]) rfl ?_
      refine ⟨⟨12 + m2,kind,name,[dv],some ⟨w5.heap.size,0,none⟩,1,1,rfl,?_,?_,fits_here hT.out (by omega) (by omega) (by omega) (by simp) (fits_cmp (by omega) (by omega) (hdk1.out.trans (kindOf_self (by omega) (by omega))))⟩,?_,?_⟩
      · exact rows_of_own_new (Own.new' (by simp)) (by omega) (by omega) 4 [dv.row] (by simp [VD.row]) (by simp [VD.row]) 1 (by simp) (by decide)
      · intro v hv
        obtain rfl:=List.mem_singleton.1 hv
        exact LAtLow (LAtAlloc (LAtSet (LAtSet (LAtSet (LAtSet (LAtSet (LAtSet hL5.out (by simp <;> omega) _) (by simp <;> omega) _) (by simp <;> omega) _) (by simp <;> omega) _) (by simp <;> omega) _) (by simp <;> omega) _) _) (by omega)
      · exact Head.alloc (Head.set (Head.set (Head.set (Head.set (Head.set (Head.set hI5.out.head (by simp <;> omega) _) (by simp <;> omega) _) (by simp <;> omega) _) (by simp <;> omega) _) (by simp <;> omega) _) (by simp <;> omega) _) _
      · exact g_alloc (g_setCell (g_setCell (g_setCell (g_setCell (g_setCell (g_setCell hI5.out.grown (by simp <;> omega) _) (by simp <;> omega) _) (by simp <;> omega) _) (by simp <;> omega) _) (by simp <;> omega) _) (by simp <;> omega) _) _
    · skip
      obtain ⟨c0,c1,c2,c3,c4,f0,f1,f2,f3,f4⟩:=own5 hI.out.ownE
      obtain ⟨d0,d1,d2,d3,d4,g0,g1,g2,g3,g4⟩:=own5 hI.out.ownR
      obtain ⟨b0,b1,b2⟩:=own3 hI.out.ownD
      go_wp2_with fail
      refine (next_any b a n c _ 2 (by omega) (by omega) (hI.out.codes hC.out)).mono ?_
      rintro e w4 ⟨⟨m2,rfl,hm20,hm21⟩,hH,hG⟩
      have hJ:=Lib.hid (hI.out.call hG hH)
      have hI4:=Lib.hid (hJ.out.setOp (9 + m2))
      clear hH hG
      clear c0 c1 c2 c3 c4 f0 f1 f2 f3 f4 d0 d1 d2 d3 d4 g0 g1 g2 g3 g4 b0 b1 b2
      obtain ⟨c0,c1,c2,c3,c4,f0,f1,f2,f3,f4⟩:=own5 hJ.out.ownE
      obtain ⟨d0,d1,d2,d3,d4,g0,g1,g2,g3,g4⟩:=own5 hJ.out.ownR
      obtain ⟨b0,b1,b2⟩:=own3 hJ.out.ownD
      go_wp2_with fail
      refine (value_any b a n c _ (hI4.out.codes hC.out) (hI4.out.glob hg0.out) _).mono ?_
      rintro e w5 ⟨⟨dv,rfl,hdk,hLd⟩,hH,hG⟩
      have hL5:=Lib.hid (LAtLow (B:=w2.heap.size + 2) hLd (show w2.heap.size + 2≤_ from hI4.out.ownE.lt))
      have hI5:=Lib.hid (hI4.out.call hG hH)
      have hs5 : w.heap.size + 2≤w5.heap.size:=by have h1:=hI5.out.ownE.lt; have h2:=hI5.out.re; omega
      have hlE : w2.heap.size + 1 < w5.heap.size:=hI5.out.ownE.lt
      have hlR : w.heap.size < w5.heap.size:=by omega
      have hdk1:=Lib.hid hdk
      clear hH hG hdk hLd
      clear c0 c1 c2 c3 c4 f0 f1 f2 f3 f4 d0 d1 d2 d3 d4 g0 g1 g2 g3 g4 b0 b1 b2
      obtain ⟨c0,c1,c2,c3,c4,f0,f1,f2,f3,f4⟩:=own5 hI5.out.ownE
      obtain ⟨d0,d1,d2,d3,d4,g0,g1,g2,g3,g4⟩:=own5 hI5.out.ownR
      obtain ⟨b0,b1,b2⟩:=own3 hI5.out.ownD
      unfold VD.row
      go_wp2
      refine bodyPost_ret (v:=.agg #[.int .i64 (9 + m2),.string kind,.string name,.slice (some ⟨w5.heap.size,0,none⟩) 1 1,.slice none 0 0]) (by simp [results,Tryz.results29,go_sem,d0,d1,d2,d3,d4,hlR]) rfl ?_
      refine ⟨⟨9 + m2,kind,name,[dv],some ⟨w5.heap.size,0,none⟩,1,1,rfl,?_,?_,fits_here hT.out (by omega) (by omega) (by omega) (by simp) (fits_starts (by omega) rfl hdk1.out)⟩,?_,?_⟩
      · exact rows_of_own_new (Own.new' (by simp)) (by omega) (by omega) 4 [dv.row] (by simp [VD.row]) (by simp [VD.row]) 1 (by simp) (by decide)
      · intro v hv
        obtain rfl:=List.mem_singleton.1 hv
        exact LAtLow (LAtAlloc (LAtSet (LAtSet (LAtSet (LAtSet (LAtSet (LAtSet hL5.out (by simp <;> omega) _) (by simp <;> omega) _) (by simp <;> omega) _) (by simp <;> omega) _) (by simp <;> omega) _) (by simp <;> omega) _) _) (by omega)
      · exact Head.alloc (Head.set (Head.set (Head.set (Head.set (Head.set (Head.set hI5.out.head (by simp <;> omega) _) (by simp <;> omega) _) (by simp <;> omega) _) (by simp <;> omega) _) (by simp <;> omega) _) (by simp <;> omega) _) _
      · exact g_alloc (g_setCell (g_setCell (g_setCell (g_setCell (g_setCell (g_setCell hI5.out.grown (by simp <;> omega) _) (by simp <;> omega) _) (by simp <;> omega) _) (by simp <;> omega) _) (by simp <;> omega) _) (by simp <;> omega) _) _
    · skip
      obtain ⟨c0,c1,c2,c3,c4,f0,f1,f2,f3,f4⟩:=own5 hI.out.ownE
      obtain ⟨d0,d1,d2,d3,d4,g0,g1,g2,g3,g4⟩:=own5 hI.out.ownR
      obtain ⟨b0,b1,b2⟩:=own3 hI.out.ownD
      go_wp2_with fail
      refine (next_any b a n c _ 4 (by omega) (by omega) (hI.out.codes hC.out)).mono ?_
      rintro e w4 ⟨⟨m2,rfl,hm20,hm21⟩,hH,hG⟩
      have hJ:=Lib.hid (hI.out.call hG hH)
      have hI4:=Lib.hid (hJ.out.setOp (12 + m2))
      clear hH hG
      clear c0 c1 c2 c3 c4 f0 f1 f2 f3 f4 d0 d1 d2 d3 d4 g0 g1 g2 g3 g4 b0 b1 b2
      obtain ⟨c0,c1,c2,c3,c4,f0,f1,f2,f3,f4⟩:=own5 hJ.out.ownE
      obtain ⟨d0,d1,d2,d3,d4,g0,g1,g2,g3,g4⟩:=own5 hJ.out.ownR
      obtain ⟨b0,b1,b2⟩:=own3 hJ.out.ownD
      go_wp2_with fail
      refine (value_any b a n c _ (hI4.out.codes hC.out) (hI4.out.glob hg0.out) _).mono ?_
      rintro e w5 ⟨⟨dv,rfl,hdk,hLd⟩,hH,hG⟩
      have hL5:=Lib.hid (LAtLow (B:=w2.heap.size + 2) hLd (show w2.heap.size + 2≤_ from hI4.out.ownE.lt))
      have hI5:=Lib.hid (hI4.out.call hG hH)
      have hs5 : w.heap.size + 2≤w5.heap.size:=by have h1:=hI5.out.ownE.lt; have h2:=hI5.out.re; omega
      have hlE : w2.heap.size + 1 < w5.heap.size:=hI5.out.ownE.lt
      have hlR : w.heap.size < w5.heap.size:=by omega
      have hdk1:=Lib.hid hdk
      clear hH hG hdk hLd
      clear c0 c1 c2 c3 c4 f0 f1 f2 f3 f4 d0 d1 d2 d3 d4 g0 g1 g2 g3 g4 b0 b1 b2
      obtain ⟨c0,c1,c2,c3,c4,f0,f1,f2,f3,f4⟩:=own5 hI5.out.ownE
      obtain ⟨d0,d1,d2,d3,d4,g0,g1,g2,g3,g4⟩:=own5 hI5.out.ownR
      obtain ⟨b0,b1,b2⟩:=own3 hI5.out.ownD
      unfold VD.row
      go_wp2
      refine bodyPost_ret (v:=.agg #[.int .i64 (12 + m2),.string kind,.string name,.slice (some ⟨w5.heap.size,0,none⟩) 1 1,.slice none 0 0]) (by simp [results,Tryz.results29,go_sem,d0,d1,d2,d3,d4,hlR]) rfl ?_
      refine ⟨⟨12 + m2,kind,name,[dv],some ⟨w5.heap.size,0,none⟩,1,1,rfl,?_,?_,fits_here hT.out (by omega) (by omega) (by omega) (by simp) (fits_cmp (by omega) (by omega) (hdk1.out.trans (kindOf_self (by omega) (by omega))))⟩,?_,?_⟩
      · exact rows_of_own_new (Own.new' (by simp)) (by omega) (by omega) 4 [dv.row] (by simp [VD.row]) (by simp [VD.row]) 1 (by simp) (by decide)
      · intro v hv
        obtain rfl:=List.mem_singleton.1 hv
        exact LAtLow (LAtAlloc (LAtSet (LAtSet (LAtSet (LAtSet (LAtSet (LAtSet hL5.out (by simp <;> omega) _) (by simp <;> omega) _) (by simp <;> omega) _) (by simp <;> omega) _) (by simp <;> omega) _) (by simp <;> omega) _) _) (by omega)
      · exact Head.alloc (Head.set (Head.set (Head.set (Head.set (Head.set (Head.set hI5.out.head (by simp <;> omega) _) (by simp <;> omega) _) (by simp <;> omega) _) (by simp <;> omega) _) (by simp <;> omega) _) (by simp <;> omega) _) _
      · exact g_alloc (g_setCell (g_setCell (g_setCell (g_setCell (g_setCell (g_setCell hI5.out.grown (by simp <;> omega) _) (by simp <;> omega) _) (by simp <;> omega) _) (by simp <;> omega) _) (by simp <;> omega) _) (by simp <;> omega) _) _
    · skip
      have hI4:=Lib.hid (hI.out.setOp 7)
      obtain ⟨c0,c1,c2,c3,c4,f0,f1,f2,f3,f4⟩:=own5 hI.out.ownE
      obtain ⟨d0,d1,d2,d3,d4,g0,g1,g2,g3,g4⟩:=own5 hI.out.ownR
      obtain ⟨b0,b1,b2⟩:=own3 hI.out.ownD
      go_wp2_with fail
      refine (value_any b a n c _ (hI4.out.codes hC.out) (hI4.out.glob hg0.out) _).mono ?_
      rintro e w5 ⟨⟨dv,rfl,hdk,hLd⟩,hH,hG⟩
      have hL5:=Lib.hid (LAtLow (B:=w2.heap.size + 2) hLd (show w2.heap.size + 2≤_ from hI4.out.ownE.lt))
      have hI5:=Lib.hid (hI4.out.call hG hH)
      have hs5 : w.heap.size + 2≤w5.heap.size:=by have h1:=hI5.out.ownE.lt; have h2:=hI5.out.re; omega
      have hlE : w2.heap.size + 1 < w5.heap.size:=hI5.out.ownE.lt
      have hlR : w.heap.size < w5.heap.size:=by omega
      have hdk1:=Lib.hid hdk
      clear hH hG hdk hLd
      clear c0 c1 c2 c3 c4 f0 f1 f2 f3 f4 d0 d1 d2 d3 d4 g0 g1 g2 g3 g4 b0 b1 b2
      obtain ⟨c0,c1,c2,c3,c4,f0,f1,f2,f3,f4⟩:=own5 hI5.out.ownE
      obtain ⟨d0,d1,d2,d3,d4,g0,g1,g2,g3,g4⟩:=own5 hI5.out.ownR
      obtain ⟨b0,b1,b2⟩:=own3 hI5.out.ownD
      unfold VD.row
      go_wp2
      refine bodyPost_ret (v:=.agg #[.int .i64 (7),.string kind,.string name,.slice (some ⟨w5.heap.size,0,none⟩) 1 1,.slice none 0 0]) (by simp [results,Tryz.results29,go_sem,d0,d1,d2,d3,d4,hlR]) rfl ?_
      refine ⟨⟨7,kind,name,[dv],some ⟨w5.heap.size,0,none⟩,1,1,rfl,?_,?_,fits_here hT.out (by omega) (by omega) (by omega) (by simp) (fits_eq (hdk1.out.trans (kindOf_self (by omega) (by omega))))⟩,?_,?_⟩
      · exact rows_of_own_new (Own.new' (by simp)) (by omega) (by omega) 4 [dv.row] (by simp [VD.row]) (by simp [VD.row]) 1 (by simp) (by decide)
      · intro v hv
        obtain rfl:=List.mem_singleton.1 hv
        exact LAtLow (LAtAlloc (LAtSet (LAtSet (LAtSet (LAtSet (LAtSet (LAtSet hL5.out (by simp <;> omega) _) (by simp <;> omega) _) (by simp <;> omega) _) (by simp <;> omega) _) (by simp <;> omega) _) (by simp <;> omega) _) _) (by omega)
      · exact Head.alloc (Head.set (Head.set (Head.set (Head.set (Head.set (Head.set hI5.out.head (by simp <;> omega) _) (by simp <;> omega) _) (by simp <;> omega) _) (by simp <;> omega) _) (by simp <;> omega) _) (by simp <;> omega) _) _
      · exact g_alloc (g_setCell (g_setCell (g_setCell (g_setCell (g_setCell (g_setCell hI5.out.grown (by simp <;> omega) _) (by simp <;> omega) _) (by simp <;> omega) _) (by simp <;> omega) _) (by simp <;> omega) _) (by simp <;> omega) _) _
  · have ht6 : t = 1∨t = 2∨t = 3∨t = 4∨t = 5:=by omega
    rcases ht6 with rfl | rfl | rfl | rfl | rfl
    · skip
      have hI4:=Lib.hid (hI.out.setOp 7)
      obtain ⟨c0,c1,c2,c3,c4,f0,f1,f2,f3,f4⟩:=own5 hI.out.ownE
      obtain ⟨d0,d1,d2,d3,d4,g0,g1,g2,g3,g4⟩:=own5 hI.out.ownR
      obtain ⟨b0,b1,b2⟩:=own3 hI.out.ownD
      go_wp2_with fail
      refine (value_any b a n c _ (hI4.out.codes hC.out) (hI4.out.glob hg0.out) _).mono ?_
      rintro e w5 ⟨⟨dv,rfl,hdk,hLd⟩,hH,hG⟩
      have hL5:=Lib.hid (LAtLow (B:=w2.heap.size + 2) hLd (show w2.heap.size + 2≤_ from hI4.out.ownE.lt))
      have hI5:=Lib.hid (hI4.out.call hG hH)
      have hs5 : w.heap.size + 2≤w5.heap.size:=by have h1:=hI5.out.ownE.lt; have h2:=hI5.out.re; omega
      have hlE : w2.heap.size + 1 < w5.heap.size:=hI5.out.ownE.lt
      have hlR : w.heap.size < w5.heap.size:=by omega
      have hdk1:=Lib.hid hdk
      clear hH hG hdk hLd
      clear c0 c1 c2 c3 c4 f0 f1 f2 f3 f4 d0 d1 d2 d3 d4 g0 g1 g2 g3 g4 b0 b1 b2
      obtain ⟨c0,c1,c2,c3,c4,f0,f1,f2,f3,f4⟩:=own5 hI5.out.ownE
      obtain ⟨d0,d1,d2,d3,d4,g0,g1,g2,g3,g4⟩:=own5 hI5.out.ownR
      obtain ⟨b0,b1,b2⟩:=own3 hI5.out.ownD
      unfold VD.row
      go_wp2
      refine bodyPost_ret (v:=.agg #[.int .i64 (7),.string kind,.string name,.slice (some ⟨w5.heap.size,0,none⟩) 1 1,.slice none 0 0]) (by simp [results,Tryz.results29,go_sem,d0,d1,d2,d3,d4,hlR]) rfl ?_
      refine ⟨⟨7,kind,name,[dv],some ⟨w5.heap.size,0,none⟩,1,1,rfl,?_,?_,fits_here hT.out (by omega) (by omega) (by omega) (by simp) (fits_eq (hdk1.out.trans (kindOf_self (by omega) (by omega))))⟩,?_,?_⟩
      · exact rows_of_own_new (Own.new' (by simp)) (by omega) (by omega) 4 [dv.row] (by simp [VD.row]) (by simp [VD.row]) 1 (by simp) (by decide)
      · intro v hv
        obtain rfl:=List.mem_singleton.1 hv
        exact LAtLow (LAtAlloc (LAtSet (LAtSet (LAtSet (LAtSet (LAtSet (LAtSet hL5.out (by simp <;> omega) _) (by simp <;> omega) _) (by simp <;> omega) _) (by simp <;> omega) _) (by simp <;> omega) _) (by simp <;> omega) _) _) (by omega)
      · exact Head.alloc (Head.set (Head.set (Head.set (Head.set (Head.set (Head.set hI5.out.head (by simp <;> omega) _) (by simp <;> omega) _) (by simp <;> omega) _) (by simp <;> omega) _) (by simp <;> omega) _) (by simp <;> omega) _) _
      · exact g_alloc (g_setCell (g_setCell (g_setCell (g_setCell (g_setCell (g_setCell hI5.out.grown (by simp <;> omega) _) (by simp <;> omega) _) (by simp <;> omega) _) (by simp <;> omega) _) (by simp <;> omega) _) (by simp <;> omega) _) _
    · skip
      obtain ⟨c0,c1,c2,c3,c4,f0,f1,f2,f3,f4⟩:=own5 hI.out.ownE
      obtain ⟨d0,d1,d2,d3,d4,g0,g1,g2,g3,g4⟩:=own5 hI.out.ownR
      obtain ⟨b0,b1,b2⟩:=own3 hI.out.ownD
      go_wp2_with fail
      refine (next_any b a n c _ 4 (by omega) (by omega) (hI.out.codes hC.out)).mono ?_
      rintro e w4 ⟨⟨m2,rfl,hm20,hm21⟩,hH,hG⟩
      have hJ:=Lib.hid (hI.out.call hG hH)
      have hI4:=Lib.hid (hJ.out.setOp (12 + m2))
      clear hH hG
      clear c0 c1 c2 c3 c4 f0 f1 f2 f3 f4 d0 d1 d2 d3 d4 g0 g1 g2 g3 g4 b0 b1 b2
      obtain ⟨c0,c1,c2,c3,c4,f0,f1,f2,f3,f4⟩:=own5 hJ.out.ownE
      obtain ⟨d0,d1,d2,d3,d4,g0,g1,g2,g3,g4⟩:=own5 hJ.out.ownR
      obtain ⟨b0,b1,b2⟩:=own3 hJ.out.ownD
      go_wp2_with fail
      refine (value_any b a n c _ (hI4.out.codes hC.out) (hI4.out.glob hg0.out) _).mono ?_
      rintro e w5 ⟨⟨dv,rfl,hdk,hLd⟩,hH,hG⟩
      have hL5:=Lib.hid (LAtLow (B:=w2.heap.size + 2) hLd (show w2.heap.size + 2≤_ from hI4.out.ownE.lt))
      have hI5:=Lib.hid (hI4.out.call hG hH)
      have hs5 : w.heap.size + 2≤w5.heap.size:=by have h1:=hI5.out.ownE.lt; have h2:=hI5.out.re; omega
      have hlE : w2.heap.size + 1 < w5.heap.size:=hI5.out.ownE.lt
      have hlR : w.heap.size < w5.heap.size:=by omega
      have hdk1:=Lib.hid hdk
      clear hH hG hdk hLd
      clear c0 c1 c2 c3 c4 f0 f1 f2 f3 f4 d0 d1 d2 d3 d4 g0 g1 g2 g3 g4 b0 b1 b2
      obtain ⟨c0,c1,c2,c3,c4,f0,f1,f2,f3,f4⟩:=own5 hI5.out.ownE
      obtain ⟨d0,d1,d2,d3,d4,g0,g1,g2,g3,g4⟩:=own5 hI5.out.ownR
      obtain ⟨b0,b1,b2⟩:=own3 hI5.out.ownD
      unfold VD.row
      go_wp2
      refine bodyPost_ret (v:=.agg #[.int .i64 (12 + m2),.string kind,.string name,.slice (some ⟨w5.heap.size,0,none⟩) 1 1,.slice none 0 0]) (by simp [results,Tryz.results29,go_sem,d0,d1,d2,d3,d4,hlR]) rfl ?_
      refine ⟨⟨12 + m2,kind,name,[dv],some ⟨w5.heap.size,0,none⟩,1,1,rfl,?_,?_,fits_here hT.out (by omega) (by omega) (by omega) (by simp) (fits_cmp (by omega) (by omega) (hdk1.out.trans (kindOf_self (by omega) (by omega))))⟩,?_,?_⟩
      · exact rows_of_own_new (Own.new' (by simp)) (by omega) (by omega) 4 [dv.row] (by simp [VD.row]) (by simp [VD.row]) 1 (by simp) (by decide)
      · intro v hv
        obtain rfl:=List.mem_singleton.1 hv
        exact LAtLow (LAtAlloc (LAtSet (LAtSet (LAtSet (LAtSet (LAtSet (LAtSet hL5.out (by simp <;> omega) _) (by simp <;> omega) _) (by simp <;> omega) _) (by simp <;> omega) _) (by simp <;> omega) _) (by simp <;> omega) _) _) (by omega)
      · exact Head.alloc (Head.set (Head.set (Head.set (Head.set (Head.set (Head.set hI5.out.head (by simp <;> omega) _) (by simp <;> omega) _) (by simp <;> omega) _) (by simp <;> omega) _) (by simp <;> omega) _) (by simp <;> omega) _) _
      · exact g_alloc (g_setCell (g_setCell (g_setCell (g_setCell (g_setCell (g_setCell hI5.out.grown (by simp <;> omega) _) (by simp <;> omega) _) (by simp <;> omega) _) (by simp <;> omega) _) (by simp <;> omega) _) (by simp <;> omega) _) _
    · skip
      obtain ⟨c0,c1,c2,c3,c4,f0,f1,f2,f3,f4⟩:=own5 hI.out.ownE
      obtain ⟨d0,d1,d2,d3,d4,g0,g1,g2,g3,g4⟩:=own5 hI.out.ownR
      obtain ⟨b0,b1,b2⟩:=own3 hI.out.ownD
      go_wp2_with fail
      refine (next_any b a n c _ 4 (by omega) (by omega) (hI.out.codes hC.out)).mono ?_
      rintro e w4 ⟨⟨m2,rfl,hm20,hm21⟩,hH,hG⟩
      have hJ:=Lib.hid (hI.out.call hG hH)
      have hI4:=Lib.hid (hJ.out.setOp (12 + m2))
      clear hH hG
      clear c0 c1 c2 c3 c4 f0 f1 f2 f3 f4 d0 d1 d2 d3 d4 g0 g1 g2 g3 g4 b0 b1 b2
      obtain ⟨c0,c1,c2,c3,c4,f0,f1,f2,f3,f4⟩:=own5 hJ.out.ownE
      obtain ⟨d0,d1,d2,d3,d4,g0,g1,g2,g3,g4⟩:=own5 hJ.out.ownR
      obtain ⟨b0,b1,b2⟩:=own3 hJ.out.ownD
      go_wp2_with fail
      refine (value_any b a n c _ (hI4.out.codes hC.out) (hI4.out.glob hg0.out) _).mono ?_
      rintro e w5 ⟨⟨dv,rfl,hdk,hLd⟩,hH,hG⟩
      have hL5:=Lib.hid (LAtLow (B:=w2.heap.size + 2) hLd (show w2.heap.size + 2≤_ from hI4.out.ownE.lt))
      have hI5:=Lib.hid (hI4.out.call hG hH)
      have hs5 : w.heap.size + 2≤w5.heap.size:=by have h1:=hI5.out.ownE.lt; have h2:=hI5.out.re; omega
      have hlE : w2.heap.size + 1 < w5.heap.size:=hI5.out.ownE.lt
      have hlR : w.heap.size < w5.heap.size:=by omega
      have hdk1:=Lib.hid hdk
      clear hH hG hdk hLd
      clear c0 c1 c2 c3 c4 f0 f1 f2 f3 f4 d0 d1 d2 d3 d4 g0 g1 g2 g3 g4 b0 b1 b2
      obtain ⟨c0,c1,c2,c3,c4,f0,f1,f2,f3,f4⟩:=own5 hI5.out.ownE
      obtain ⟨d0,d1,d2,d3,d4,g0,g1,g2,g3,g4⟩:=own5 hI5.out.ownR
      obtain ⟨b0,b1,b2⟩:=own3 hI5.out.ownD
      unfold VD.row
      go_wp2
      refine bodyPost_ret (v:=.agg #[.int .i64 (12 + m2),.string kind,.string name,.slice (some ⟨w5.heap.size,0,none⟩) 1 1,.slice none 0 0]) (by simp [results,Tryz.results29,go_sem,d0,d1,d2,d3,d4,hlR]) rfl ?_
      refine ⟨⟨12 + m2,kind,name,[dv],some ⟨w5.heap.size,0,none⟩,1,1,rfl,?_,?_,fits_here hT.out (by omega) (by omega) (by omega) (by simp) (fits_cmp (by omega) (by omega) (hdk1.out.trans (kindOf_self (by omega) (by omega))))⟩,?_,?_⟩
      · exact rows_of_own_new (Own.new' (by simp)) (by omega) (by omega) 4 [dv.row] (by simp [VD.row]) (by simp [VD.row]) 1 (by simp) (by decide)
      · intro v hv
        obtain rfl:=List.mem_singleton.1 hv
        exact LAtLow (LAtAlloc (LAtSet (LAtSet (LAtSet (LAtSet (LAtSet (LAtSet hL5.out (by simp <;> omega) _) (by simp <;> omega) _) (by simp <;> omega) _) (by simp <;> omega) _) (by simp <;> omega) _) (by simp <;> omega) _) _) (by omega)
      · exact Head.alloc (Head.set (Head.set (Head.set (Head.set (Head.set (Head.set hI5.out.head (by simp <;> omega) _) (by simp <;> omega) _) (by simp <;> omega) _) (by simp <;> omega) _) (by simp <;> omega) _) (by simp <;> omega) _) _
      · exact g_alloc (g_setCell (g_setCell (g_setCell (g_setCell (g_setCell (g_setCell hI5.out.grown (by simp <;> omega) _) (by simp <;> omega) _) (by simp <;> omega) _) (by simp <;> omega) _) (by simp <;> omega) _) (by simp <;> omega) _) _
    · skip
      obtain ⟨c0,c1,c2,c3,c4,f0,f1,f2,f3,f4⟩:=own5 hI.out.ownE
      obtain ⟨d0,d1,d2,d3,d4,g0,g1,g2,g3,g4⟩:=own5 hI.out.ownR
      obtain ⟨b0,b1,b2⟩:=own3 hI.out.ownD
      go_wp2_with fail
      refine (next_any b a n c _ 4 (by omega) (by omega) (hI.out.codes hC.out)).mono ?_
      rintro e w4 ⟨⟨m2,rfl,hm20,hm21⟩,hH,hG⟩
      have hJ:=Lib.hid (hI.out.call hG hH)
      have hI4:=Lib.hid (hJ.out.setOp (12 + m2))
      clear hH hG
      clear c0 c1 c2 c3 c4 f0 f1 f2 f3 f4 d0 d1 d2 d3 d4 g0 g1 g2 g3 g4 b0 b1 b2
      obtain ⟨c0,c1,c2,c3,c4,f0,f1,f2,f3,f4⟩:=own5 hJ.out.ownE
      obtain ⟨d0,d1,d2,d3,d4,g0,g1,g2,g3,g4⟩:=own5 hJ.out.ownR
      obtain ⟨b0,b1,b2⟩:=own3 hJ.out.ownD
      go_wp2_with fail
      refine (value_any b a n c _ (hI4.out.codes hC.out) (hI4.out.glob hg0.out) _).mono ?_
      rintro e w5 ⟨⟨dv,rfl,hdk,hLd⟩,hH,hG⟩
      have hL5:=Lib.hid (LAtLow (B:=w2.heap.size + 2) hLd (show w2.heap.size + 2≤_ from hI4.out.ownE.lt))
      have hI5:=Lib.hid (hI4.out.call hG hH)
      have hs5 : w.heap.size + 2≤w5.heap.size:=by have h1:=hI5.out.ownE.lt; have h2:=hI5.out.re; omega
      have hlE : w2.heap.size + 1 < w5.heap.size:=hI5.out.ownE.lt
      have hlR : w.heap.size < w5.heap.size:=by omega
      have hdk1:=Lib.hid hdk
      clear hH hG hdk hLd
      clear c0 c1 c2 c3 c4 f0 f1 f2 f3 f4 d0 d1 d2 d3 d4 g0 g1 g2 g3 g4 b0 b1 b2
      obtain ⟨c0,c1,c2,c3,c4,f0,f1,f2,f3,f4⟩:=own5 hI5.out.ownE
      obtain ⟨d0,d1,d2,d3,d4,g0,g1,g2,g3,g4⟩:=own5 hI5.out.ownR
      obtain ⟨b0,b1,b2⟩:=own3 hI5.out.ownD
      unfold VD.row
      go_wp2
      refine bodyPost_ret (v:=.agg #[.int .i64 (12 + m2),.string kind,.string name,.slice (some ⟨w5.heap.size,0,none⟩) 1 1,.slice none 0 0]) (by simp [results,Tryz.results29,go_sem,d0,d1,d2,d3,d4,hlR]) rfl ?_
      refine ⟨⟨12 + m2,kind,name,[dv],some ⟨w5.heap.size,0,none⟩,1,1,rfl,?_,?_,fits_here hT.out (by omega) (by omega) (by omega) (by simp) (fits_cmp (by omega) (by omega) (hdk1.out.trans (kindOf_self (by omega) (by omega))))⟩,?_,?_⟩
      · exact rows_of_own_new (Own.new' (by simp)) (by omega) (by omega) 4 [dv.row] (by simp [VD.row]) (by simp [VD.row]) 1 (by simp) (by decide)
      · intro v hv
        obtain rfl:=List.mem_singleton.1 hv
        exact LAtLow (LAtAlloc (LAtSet (LAtSet (LAtSet (LAtSet (LAtSet (LAtSet hL5.out (by simp <;> omega) _) (by simp <;> omega) _) (by simp <;> omega) _) (by simp <;> omega) _) (by simp <;> omega) _) (by simp <;> omega) _) _) (by omega)
      · exact Head.alloc (Head.set (Head.set (Head.set (Head.set (Head.set (Head.set hI5.out.head (by simp <;> omega) _) (by simp <;> omega) _) (by simp <;> omega) _) (by simp <;> omega) _) (by simp <;> omega) _) (by simp <;> omega) _) _
      · exact g_alloc (g_setCell (g_setCell (g_setCell (g_setCell (g_setCell (g_setCell hI5.out.grown (by simp <;> omega) _) (by simp <;> omega) _) (by simp <;> omega) _) (by simp <;> omega) _) (by simp <;> omega) _) (by simp <;> omega) _) _
    · skip
      have hI4:=Lib.hid (hI.out.setOp 7)
      obtain ⟨c0,c1,c2,c3,c4,f0,f1,f2,f3,f4⟩:=own5 hI.out.ownE
      obtain ⟨d0,d1,d2,d3,d4,g0,g1,g2,g3,g4⟩:=own5 hI.out.ownR
      obtain ⟨b0,b1,b2⟩:=own3 hI.out.ownD
      go_wp2_with fail
      refine (value_any b a n c _ (hI4.out.codes hC.out) (hI4.out.glob hg0.out) _).mono ?_
      rintro e w5 ⟨⟨dv,rfl,hdk,hLd⟩,hH,hG⟩
      have hL5:=Lib.hid (LAtLow (B:=w2.heap.size + 2) hLd (show w2.heap.size + 2≤_ from hI4.out.ownE.lt))
      have hI5:=Lib.hid (hI4.out.call hG hH)
      have hs5 : w.heap.size + 2≤w5.heap.size:=by have h1:=hI5.out.ownE.lt; have h2:=hI5.out.re; omega
      have hlE : w2.heap.size + 1 < w5.heap.size:=hI5.out.ownE.lt
      have hlR : w.heap.size < w5.heap.size:=by omega
      have hdk1:=Lib.hid hdk
      clear hH hG hdk hLd
      clear c0 c1 c2 c3 c4 f0 f1 f2 f3 f4 d0 d1 d2 d3 d4 g0 g1 g2 g3 g4 b0 b1 b2
      obtain ⟨c0,c1,c2,c3,c4,f0,f1,f2,f3,f4⟩:=own5 hI5.out.ownE
      obtain ⟨d0,d1,d2,d3,d4,g0,g1,g2,g3,g4⟩:=own5 hI5.out.ownR
      obtain ⟨b0,b1,b2⟩:=own3 hI5.out.ownD
      unfold VD.row
      go_wp2
      refine bodyPost_ret (v:=.agg #[.int .i64 (7),.string kind,.string name,.slice (some ⟨w5.heap.size,0,none⟩) 1 1,.slice none 0 0]) (by simp [results,Tryz.results29,go_sem,d0,d1,d2,d3,d4,hlR]) rfl ?_
      refine ⟨⟨7,kind,name,[dv],some ⟨w5.heap.size,0,none⟩,1,1,rfl,?_,?_,fits_here hT.out (by omega) (by omega) (by omega) (by simp) (fits_eq (hdk1.out.trans (kindOf_self (by omega) (by omega))))⟩,?_,?_⟩
      · exact rows_of_own_new (Own.new' (by simp)) (by omega) (by omega) 4 [dv.row] (by simp [VD.row]) (by simp [VD.row]) 1 (by simp) (by decide)
      · intro v hv
        obtain rfl:=List.mem_singleton.1 hv
        exact LAtLow (LAtAlloc (LAtSet (LAtSet (LAtSet (LAtSet (LAtSet (LAtSet hL5.out (by simp <;> omega) _) (by simp <;> omega) _) (by simp <;> omega) _) (by simp <;> omega) _) (by simp <;> omega) _) (by simp <;> omega) _) _) (by omega)
      · exact Head.alloc (Head.set (Head.set (Head.set (Head.set (Head.set (Head.set hI5.out.head (by simp <;> omega) _) (by simp <;> omega) _) (by simp <;> omega) _) (by simp <;> omega) _) (by simp <;> omega) _) (by simp <;> omega) _) _
      · exact g_alloc (g_setCell (g_setCell (g_setCell (g_setCell (g_setCell (g_setCell hI5.out.grown (by simp <;> omega) _) (by simp <;> omega) _) (by simp <;> omega) _) (by simp <;> omega) _) (by simp <;> omega) _) (by simp <;> omega) _) _
end Go.Proofs.YtfffpflflggonaaGreatDoor.draw
