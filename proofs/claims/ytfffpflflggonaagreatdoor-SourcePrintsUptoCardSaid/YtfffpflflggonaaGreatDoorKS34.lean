/- Copies: a list of values, copied one by one. Drawn conditions: words on memory that a loop of appends does not touch; what a drawn condition is. A changed condition: what the change holds on its way. Bounds of a changed condition: how many parts, how long its lists. Copies: conditions. Whether two conditions are of one content: the program's Expr. Which attribute is found: the reference's Find and Lookup. Whether a test holds: the reference's Test. Whether two rows of texts are equal: the reference's Same. Whether two values are equal: the reference's Equal at any two values. Whether a test holds: the reference's Test. Whether two conditions are of one content: the reference's SameExpr; the place of a condition in a list: Index. What a reader hands back; conditions of one content are alike. -/
import Derived.Test.YtfffpflflggonaaGreatDoorKS15
import Derived.Test.YtfffpflflggonaaGreatDoorKDraw5
import Derived.OwnWalk
import Derived.Test.YtfffpflflggonaaGreatDoorKS27
import Derived.Laws.IdiomCopy
import Derived.Laws.OwnMore
import Derived.Lib.QuietBelow
import Derived.BigQuiet
import Derived.Test.YtfffpflflggonaaGreatDoorKS28
namespace Go.Proofs.YtfffpflflggonaaGreatDoor.clause
open Go.RowKit schema value text draw
def SameL (l' l : List VD) : Prop:=l'.length = l.length∧∀ i (h' : i < l'.length) (h : i < l.length),SameV l'[i] l[i]
end Go.Proofs.YtfffpflflggonaaGreatDoor.clause
namespace Go.Proofs.YtfffpflflggonaaGreatDoor.draw
open Go.RowKit schema
mutual
def smallE (N : Nat) : ED→Prop
  | .mk op kind name vals kids=>vals.length≤N∧kids.length≤N∧((op = 4→0 < kids.length)∧kind.size≤1048576∧name.size≤1048576)∧smallL N kids
def smallL (N : Nat) : List ED→Prop
  | []=>True
  | k :: r=>smallE N k∧smallL N r
end
mutual
def depE : ED→Nat
  | .mk _ _ _ _ ks=>depL ks
def depL : List ED→Nat
  | []=>0
  | k :: r=>max (depE k + 1) (depL r)
end
def Fine (segs : List ByteArray) (D : Nat) (d : ED) : Prop:=exprS declD segs d = 0∧smallE 4 d∧depE d≤D
def FineL (segs : List ByteArray) (D : Nat) (l : List ED) : Prop:=exprL declD segs l = 0∧smallL 4 l∧depL l≤D
theorem Fine.up {segs : List ByteArray} {D D' : Nat} {d : ED} (h : Fine segs D d) (hD : D≤D') : Fine segs D' d:=⟨h.1,h.2.1,Nat.le_trans h.2.2 hD⟩
def DL (levels : Int) : Nat:=2 * (levels - 1).toNat
theorem dl_one {levels : Int} (h : 1 < levels) : DL (levels - 1) + 1≤DL levels:=by unfold DL; omega
theorem dl_two {levels : Int} (h : 1 < levels) : DL (levels - 1) + 2≤DL levels:=by unfold DL; omega
def ExprIs (B b : Nat) (segs : List ByteArray) (D : Nat) (e : Ending) (w' : World) : Prop :=
  ∃ (d : ED) (op : Int) (kind name : ByteArray) (va : Option Addr) (vn vc : Nat) (ka : Option Addr) (kn kc : Nat),e = .returned (.agg #[.int .i64 op,.string kind,.string name,.slice va vn vc,.slice ka kn kc]) ∧
    EAt (newM B b w') d [.int .i64 op,.string kind,.string name,.slice va vn vc,.slice ka kn kc]∧Fine segs D d
structure XI (w u : World) (b : Nat) (a : Option Addr) (n c r : Nat) : Prop where
  head : Head b a n c u
  grown : w.grownBy u (some b)
  ownR : Own u r zeroE 31
  br : b < w.heap.size
  rw : w.heap.size≤r
theorem XI.call {w u x : World} {b : Nat} {a : Option Addr} {n c r : Nat} (h : XI w u b a n c r) (hG : u.grownBy x (some b)) (hH : Head b a n c x) : XI w x b a n c r:=by
  obtain ⟨h1,h2,h3,h4,h5⟩:=h
  exact ⟨hH,g_call h2 hG,h3.kept hG (by simp; omega),h4,h5⟩
theorem XI.alloc {w u : World} {b : Nat} {a : Option Addr} {n c r : Nat} (h : XI w u b a n c r) (o : Obj) : XI w (u.alloc o) b a n c r:=h.call (World.grownBy_alloc u o _) (h.head.alloc o)
theorem XI.codes {w u : World} {b : Nat} {a : Option Addr} {n c r : Nat} (h : XI w u b a n c r) (hC : Codes b a n c w) : Codes b a n c u:=hC.still h.grown h.head
theorem XI.glob {w u : World} {b : Nat} {a : Option Addr} {n c r : Nat} (h : XI w u b a n c r) (hg : Glob (but b w)) : Glob (but b u):=hg.mono (sub_of_grown h.grown)
theorem XI.segs {w u : World} {b : Nat} {a : Option Addr} {n c r : Nat} (h : XI w u b a n c r) {sv : Value} {segs : List ByteArray} (hs : RowsAt (but b w) 1 sv (segs.map strRow)) : RowsAt (but b u) 1 sv (segs.map strRow):=hs.mono (sub_of_grown h.grown)
theorem hasS_self {l : List ByteArray} {k : Nat} (h : k < l.length) : hasS l[k].toList l = true:=by
  induction l generalizing k with
  | nil=>simp at h
  | cons x r ih =>
    cases k with
    | zero=>simp [hasS]
    | succ k=>rw [hasS,List.getElem_cons_succ,ih (by simpa using h)]; simp
theorem eat_true (m : Mem) : EAt m (.mk 1 ⟨#[]⟩ ⟨#[]⟩ [] []) [.int .i64 1,.string ⟨#[]⟩,.string ⟨#[]⟩,.slice none 0 0,.slice none 0 0] :=
  EAt.mk [] (rows_nil _ _) (rows_nil _ _) rfl (fun v hv=>by cases hv) (fun i r k hi=>by simp at hi)
theorem eat_seg (m : Mem) (s : ByteArray) : EAt m (.mk 5 ⟨#[]⟩ s [] []) [.int .i64 5,.string ⟨#[]⟩,.string s,.slice none 0 0,.slice none 0 0] :=
  EAt.mk [] (rows_nil _ _) (rows_nil _ _) rfl (fun v hv=>by cases hv) (fun i r k hi=>by simp at hi)
theorem eat_test {m : Mem} {op : Int} {kind name : ByteArray} {l : List VD} {v : Value} (h : RowsAt m 4 v (l.map VD.row)) (hL : ∀ v∈l,LAt m v) : EAt m (.mk op kind name l []) [.int .i64 op,.string kind,.string name,v,.slice none 0 0] :=
  EAt.mk [] h (rows_nil _ _) rfl hL (fun i r k hi=>by simp at hi)
theorem eat_not {m : Mem} {d : ED} {r : List Value} {v : Value} (h : RowsAt m 5 v [r]) (hE : EAt m d r) : EAt m (.mk 4 ⟨#[]⟩ ⟨#[]⟩ [] [d]) [.int .i64 4,.string ⟨#[]⟩,.string ⟨#[]⟩,.slice none 0 0,v] :=
  EAt.mk [r] (rows_nil _ _) h rfl (fun v hv=>by cases hv) (fun i r' k hi hk=>by
    cases i with
    | zero=>simp at hi hk; subst hi; subst hk; exact hE
    | succ i=>simp at hi)
theorem sz_nil : (⟨#[]⟩ : ByteArray).size = 0:=rfl
theorem s_true (segs : List ByteArray) (D : Nat) : Fine segs D (.mk 1 ⟨#[]⟩ ⟨#[]⟩ [] []):=by simp [Fine,exprS,hereS,exprL,smallE,smallL,depE,depL,sz_nil]
theorem s_seg {segs : List ByteArray} {D k : Nat} (h : k < segs.length) (hz : segs[k].size≤1048576) : Fine segs D (.mk 5 ⟨#[]⟩ segs[k] [] []):=by simp [Fine,exprS,hereS,exprL,hasS_self h,smallE,smallL,depE,depL,sz_nil,hz]
theorem s_test {segs : List ByteArray} {D : Nat} {op : Int} {kind name : ByteArray} {l : List VD} (h : TestFits op kind name l) : Fine segs D (.mk op kind name l []):=by
  have h4:=h.2.2.2
  have h0 : op ≠ 4:=by have:=h.1; omega
  simp [Fine,exprS,h.2.2.1 segs,exprL,smallE,smallL,h4,h0,depE,depL,h.2.1.2.1,h.2.1.2.2]
theorem s_not {segs : List ByteArray} {D : Nat} {d : ED} (h : Fine segs D d) : Fine segs (D + 1) (.mk 4 ⟨#[]⟩ ⟨#[]⟩ [] [d]):=by
  have h2:=h.2.2
  simp [Fine,exprS,hereS,exprL,smallE,smallL,h.1,h.2.1,depE,depL,sz_nil]
  omega
theorem s_conj {segs : List ByteArray} {D : Nat} {op : Int} {l : List ED} (ho : op = 2∨op = 3) (hl : l.length≤4) (h : FineL segs D l) : Fine segs D (.mk op ⟨#[]⟩ ⟨#[]⟩ [] l):=by
  have h2:=h.2.2
  rcases ho with rfl | rfl <;> simp [Fine,exprS,hereS,h.1,smallE,h.2.1,hl,depE,h2,sz_nil]
theorem smallL_snoc {N : Nat} {l : List ED} {d : ED} (h : smallL N l) (hd : smallE N d) : smallL N (l ++ [d]):=by
  induction l with
  | nil=>exact ⟨hd,trivial⟩
  | cons x r ih=>exact ⟨h.1,ih h.2⟩
theorem exprL_snoc {decl : List DD} {segs : List ByteArray} {l : List ED} {d : ED} (h : exprL decl segs l = 0) (hd : exprS decl segs d = 0) : exprL decl segs (l ++ [d]) = 0:=by
  induction l with
  | nil=>simp [exprL,hd]
  | cons x r ih =>
    rw [exprL] at h
    split at h
    · rename_i hx
      rw [List.cons_append,exprL,if_pos hx]
      exact ih h
    · rename_i hx
      exact absurd h hx
theorem depL_snoc : ∀ (l : List ED) (d : ED),depL (l ++ [d]) = max (depL l) (depE d + 1)
  | [],d=>by simp [depL]
  | x :: r,d=>by rw [List.cons_append,depL,depL,depL_snoc r d]; omega
theorem fineL_snoc {segs : List ByteArray} {D D' : Nat} {l : List ED} {d : ED} (h : FineL segs D l) (hd : Fine segs D' d) (hD : D' + 1≤D) : FineL segs D (l ++ [d]) :=
  ⟨exprL_snoc h.1 hd.1,smallL_snoc h.2.1 hd.2.1,by have h1:=h.2.2; have h2:=hd.2.2; rw [depL_snoc]; omega⟩
theorem fineL_nil (segs : List ByteArray) (D : Nat) : FineL segs D []:=⟨rfl,trivial,Nat.zero_le _⟩
def exprK (op : Int) (v : Value) : Array Value:=#[.int .i64 op,.string ⟨#[]⟩,.string ⟨#[]⟩,.slice none 0 0,v]
def RelC (w wr : World) (b : Nat) (a : Option Addr) (n c r e : Nat) (op : Int) (segs : List ByteArray) (D : Nat) (k : Nat) : Prop :=
  ∃ ka kc,∃ (rows : List (List Value)) (kids : List ED),rows.length = k∧kids.length = k∧(∀ x∈rows,x.length = 5) ∧
    (∀ (i : Nat) (x : List Value) (kd : ED),rows[i]? = some x→kids[i]? = some kd→EAt (newG (e + 1) b (Value.slice ka k kc).ownBlock wr) kd x)∧FineL segs D kids ∧
    XI w wr b a n c r∧r < e∧Own wr e (exprK op (.slice ka k kc)) 31∧wr.ownsRow (e + 1) 31 5 (.slice ka k kc) k rows.flatten
theorem relC_start {w u : World} {b : Nat} {a : Option Addr} {n c r : Nat} {op : Int} {segs : List ByteArray} {D : Nat} (h : XI w u b a n c r) : RelC w (u.alloc (.cells (exprK op (.slice none 0 0)) 31)) b a n c r u.heap.size op segs D 0 :=
  ⟨none,0,[],[],rfl,rfl,by simp,fun i x kd hi=>by simp at hi,fineL_nil segs D,h.alloc _,h.ownR.lt,Own.new u _ _,World.ownsRow_nil _ _ _ _⟩
theorem RelC.call {w u x : World} {b : Nat} {a : Option Addr} {n c r e : Nat} {op : Int} {segs : List ByteArray} {D : Nat} {k : Nat} (h : RelC w u b a n c r e op segs D k) (hG : u.grownBy x (some b)) (hH : Head b a n c x) : RelC w x b a n c r e op segs D k:=by
  obtain ⟨ka,kc,rows,kids,h1,h2,h3,h4,h5,h6,h7,h8,h9⟩:=h
  have hb:=h6.br
  have hr:=h6.rw
  exact ⟨ka,kc,rows,kids,h1,h2,h3,fun i x kd hi hk=>(h4 i x kd hi hk).mono (newG_grown hG),h5,h6.call hG hH,h7,h8.kept hG (by simp; omega),owns_kept h9 hG (by omega)⟩
theorem relC_next {w wr X w8 : World} {b : Nat} {a : Option Addr} {n c r e gg cap kc : Nat} {ka : Option Addr} {op : Int} {segs : List ByteArray} {D Dk : Nat} {k : Nat} {rows : List (List Value)} {kids : List ED} {x : List Value} {kd : ED} {o : Obj}
    (h1 : rows.length = k) (h2 : kids.length = k) (h3 : ∀ x∈rows,x.length = 5)
    (h4 : ∀ (i : Nat) (x : List Value) (kd : ED),rows[i]? = some x→kids[i]? = some kd→EAt (newG (e + 1) b (Value.slice ka k kc).ownBlock wr) kd x) (h5 : FineL segs D kids)
    (h6 : XI w X b a n c r) (h7 : r < e) (h8 : Own X e (exprK op (.slice ka k kc)) 31) (h9 : wr.ownsRow (e + 1) 31 5 (.slice ka k kc) k rows.flatten)
    (hX : wr.grownBy X (some b)) (hs : e < wr.heap.size) (hx5 : x.length = 5) (hE : EAt (newM wr.heap.size b X) kd x) (hS : Fine segs Dk kd) (hD : Dk + 1≤D)
    (hg : (X.alloc o).grownBy w8 (Value.slice ka k kc).ownBlock) (hat : (Value.slice ka k kc).ownBlock = some gg∨gg = (X.alloc o).heap.size)
    (hown8 : w8.ownsRow (e + 1) 31 5 (.slice (some ⟨gg,0,none⟩) (k + 1) cap) (k + 1) (rows.flatten ++ x)) :
    RelC w (w8.setCell ⟨e,4,none⟩ (.slice (some ⟨gg,0,none⟩) (k + 1) cap)) b a n c r e op segs D (k + 1):=by
  have hb:=h6.br
  have hr:=h6.rw
  have ho:=(owns_kept h9 hX (by omega)).alloc o
  have hlt : ∀ j,(Value.slice ka k kc).ownBlock = some j→j < wr.heap.size:=fun j hj=>(h9.lt j hj).2
  have mX : Sub (newG (e + 1) b (Value.slice ka k kc).ownBlock X) (newG (e + 1) b (some gg) (w8.setCell ⟨e,4,none⟩ (.slice (some ⟨gg,0,none⟩) (k + 1) cap))) :=
    ((newG_grown (World.grownBy_alloc X o _)).trans (newG_app hg hat)).trans (newG_set (by simp) _)
  refine ⟨some ⟨gg,0,none⟩,cap,rows ++ [x],kids ++ [kd],by simp [h1],by simp [h2],?_,?_,fineL_snoc h5 hS hD,?_,h7,?_,?_⟩
  · intro y hy
    rcases List.mem_append.1 hy with hy | hy
    · exact h3 y hy
    · simp at hy; subst hy; exact hx5
  · intro i y d hi hd
    show EAt (newG (e + 1) b (some gg) _) d y
    rcases Nat.lt_or_ge i k with hi1 | hi1
    · rw [List.getElem?_append_left (by omega)] at hi hd
      exact (h4 i y d hi hd).mono ((newG_grown hX).trans mX)
    · rw [List.getElem?_append_right (by omega)] at hi hd
      rw [h1] at hi
      rw [h2] at hd
      cases hik : i - k with
      | zero =>
        rw [hik] at hi hd
        simp at hi hd
        subst hi
        subst hd
        exact hE.mono ((newM_newG (by omega) hlt X).trans mX)
      | succ q=>rw [hik] at hi; simp at hi
  · exact ⟨((h6.head.alloc o).kept hg (row_far ho (by omega))).set (by simp; omega) _,g_setCell (g_own (g_alloc h6.grown o) hg (fun i e=>by have:=(ho.lt i e).1; omega)) (by simp; omega) _,
      (own_past ho (h6.ownR.alloc o) hg (by omega)).setOther (by simp; omega) _,h6.br,h6.rw⟩
  · exact (own_past ho (h8.alloc o) hg (by omega)).set 4 _
  · have e1 : (rows ++ [x]).flatten = rows.flatten ++ x:=by simp
    rw [e1]
    exact ownsRow_setCell_below hown8 (by simp) _
theorem info26 : (Tryz.prog.info? 31).map (fun i=>(i.zero,i.size,i.bytes)) = some (some (.agg #[.int .i64 0,.string ⟨#[]⟩,.string ⟨#[]⟩,.slice none 0 0,.slice none 0 0]),5,88):=by kernel_rfl
end Go.Proofs.YtfffpflflggonaaGreatDoor.draw
namespace Go.Proofs.YtfffpflflggonaaGreatDoor.draw
open Go.RowKit schema
structure CX (w u : World) (b : Nat) (a : Option Addr) (n c : Nat) (A : Array Value) (M0 M : Mem) : Prop where
  head : Head b a n c u
  grown : w.grownBy u (some b)
  br : b < w.heap.size
  box : Own u w.heap.size A 31
  res : Own u (w.heap.size + 1) zeroE 31
  sub0 : Sub M0 w.cell?
  ext : Ext M0 M (w.heap.size + 2)
  sub : Sub M u.cell?
  off : Off b M
theorem CX.start {w : World} {b : Nat} {a : Option Addr} {n c : Nat} {M : Mem} (h : Codes b a n c w) (hM : Sub M w.cell?) (ho : Off b M) (A : Array Value) :
    CX w ((w.alloc (.cells A 31)).alloc (.cells zeroE 31)) b a n c A M M:=by
  have h2:=Own.new (w.alloc (.cells A 31)) zeroE 31
  rw [show (w.alloc (.cells A 31)).heap.size = w.heap.size + 1 by simp] at h2
  exact ⟨(h.1.alloc _).alloc _,g_alloc (g_alloc (grown_refl _ _) _) _,h.lt,(Own.new w A _).alloc _,h2,hM,Ext.refl _ _,sub_alloc (sub_alloc hM _) _,ho⟩
theorem CX.size {w u : World} {b : Nat} {a : Option Addr} {n c : Nat} {A : Array Value} {M0 M : Mem} (h : CX w u b a n c A M0 M) : w.heap.size + 2≤u.heap.size:=h.res.lt
theorem CX.offs {w u : World} {b : Nat} {a : Option Addr} {n c : Nat} {A : Array Value} {M0 M : Mem} (h : CX w u b a n c A M0 M) {k : Nat} (h1 : w.heap.size≤k) (h2 : k < w.heap.size + 2) : Off k M:=(off_new h.sub0 h1).ext h.ext h2
theorem CX.codes {w u : World} {b : Nat} {a : Option Addr} {n c : Nat} {A : Array Value} {M0 M : Mem} (h : CX w u b a n c A M0 M) (hC : Codes b a n c w) : Codes b a n c u:=hC.still h.grown h.head
theorem CX.glob {w u : World} {b : Nat} {a : Option Addr} {n c : Nat} {A : Array Value} {M0 M : Mem} (h : CX w u b a n c A M0 M) (hg : Glob (but b w)) : Glob (but b u):=hg.mono (sub_of_grown h.grown)
theorem CX.call {w u x : World} {b : Nat} {a : Option Addr} {n c : Nat} {A : Array Value} {M0 M : Mem} (h : CX w u b a n c A M0 M) (hG : u.grownBy x (some b)) (hH : Head b a n c x) : CX w x b a n c A M0 M :=
  ⟨hH,g_call h.grown hG,h.br,h.box.kept hG (by have:=h.br; simp; omega),h.res.kept hG (by have:=h.br; simp; omega),h.sub0,h.ext,sub_grow h.sub hG (fun k e=>by injection e with e; subst e; exact h.off),h.off⟩
theorem CX.alloc {w u : World} {b : Nat} {a : Option Addr} {n c : Nat} {A : Array Value} {M0 M : Mem} (h : CX w u b a n c A M0 M) (o : Obj) : CX w (u.alloc o) b a n c A M0 M:=h.call (World.grownBy_alloc u o _) (h.head.alloc o)
theorem CX.set {w u : World} {b : Nat} {a : Option Addr} {n c : Nat} {A : Array Value} {M0 M : Mem} (h : CX w u b a n c A M0 M) (i : Nat) (v : Value) : CX w (u.setCell ⟨w.heap.size,i,none⟩ v) b a n c (A.setIfInBounds i v) M0 M :=
  ⟨h.head.set (by have:=h.br; simp; omega) _,g_setCell h.grown (by simp) _,h.br,h.box.set i v,h.res.setOther (by simp) _,h.sub0,h.ext,sub_setCell h.sub (h.offs (Nat.le_refl _) (by simp)) _,h.off⟩
theorem CX.grow {w u x : World} {b : Nat} {a : Option Addr} {n c : Nat} {A : Array Value} {M0 M : Mem} (h : CX w u b a n c A M0 M) {r : Option Nat} (hG : u.grownBy x r) (hr : ∀ k,r = some k→w.heap.size + 2≤k∧Off k M) : CX w x b a n c A M0 M:=by
  have hne : ∀ k,k < w.heap.size + 2→r ≠ some k:=fun k hk e=>by have:=(hr k e).1; omega
  have hb:=h.br
  refine ⟨h.head.kept hG (hne b (by omega)),?_,hb,h.box.kept hG (hne _ (by omega)),h.res.kept hG (hne _ (by omega)),h.sub0,h.ext,sub_grow h.sub hG (fun k e=>(hr k e).2),h.off⟩
  exact g_own h.grown hG (fun i e=>by have:=(hr i e).1; omega)
theorem CX.join {w u x : World} {b : Nat} {a : Option Addr} {n c : Nat} {A : Array Value} {M0 M : Mem} (h : CX w u b a n c A M0 M) (hG : u.grownBy x (some b)) (hH : Head b a n c x) : CX w x b a n c A M0 (joinN M u.heap.size b x):=by
  have h1:=h.call hG hH
  exact ⟨h1.head,h1.grown,h1.br,h1.box,h1.res,h1.sub0,h.ext.trans (joinN_ext h1.sub) h.size,joinN_sub h1.sub,joinN_off h.off⟩
theorem CX.block {w u : World} {b : Nat} {a : Option Addr} {n c : Nat} {A : Array Value} {M0 M : Mem} (h : CX w u b a n c A M0 M) {g : Nat} (hg : w.heap.size + 2≤g) (ho : Off g M) : CX w u b a n c A M0 (addB M g u) :=
  ⟨h.head,h.grown,h.br,h.box,h.res,h.sub0,h.ext.trans (addB_ext ho hg) (Nat.le_refl _),addB_sub h.sub,addB_off h.off (by have:=h.br; omega)⟩
theorem CX.extend {w u x : World} {b : Nat} {a : Option Addr} {n c : Nat} {A : Array Value} {M0 M M' : Mem} (h : CX w u b a n c A M0 M) (hG : u.grownBy x (some b)) (hH : Head b a n c x) (he : Ext M M' u.heap.size) (hs : Sub M' x.cell?) (ho : Off b M') : CX w x b a n c A M0 M':=by
  have h1:=h.call hG hH
  exact ⟨h1.head,h1.grown,h1.br,h1.box,h1.res,h1.sub0,h.ext.trans he h.size,hs,ho⟩
theorem CX.done {w u : World} {b : Nat} {a : Option Addr} {n c : Nat} {A : Array Value} {M0 M : Mem} (h : CX w u b a n c A M0 M) {d : ED} {op : Int} {kind name : ByteArray} {va : Option Addr} {vn vc : Nat} {ka : Option Addr} {kn kc : Nat}
    (hE : EAt M d [.int .i64 op,.string kind,.string name,.slice va vn vc,.slice ka kn kc]) (x0 x1 x2 x3 x4 : Value) :
    Drawn b a n c w (fun e w'=>CondIs M0 b w e w') (.returned (.agg #[.int .i64 op,.string kind,.string name,.slice va vn vc,.slice ka kn kc]))
      (((((u.setCell ⟨w.heap.size + 1,0,none⟩ x0).setCell ⟨w.heap.size + 1,1,none⟩ x1).setCell ⟨w.heap.size + 1,2,none⟩ x2).setCell ⟨w.heap.size + 1,3,none⟩ x3).setCell ⟨w.heap.size + 1,4,none⟩ x4):=by
  have hb:=h.br
  have ho : Off (w.heap.size + 1) M:=h.offs (by omega) (by omega)
  refine ⟨⟨M,d,op,kind,name,va,vn,vc,ka,kn,kc,rfl,h.ext.low (by omega),?_,h.off,hE⟩,?_,?_⟩
  · exact sub_setCell (sub_setCell (sub_setCell (sub_setCell (sub_setCell h.sub ho _) ho _) ho _) ho _) ho _
  · exact (Head.set (Head.set (Head.set (Head.set (Head.set h.head (by simp <;> omega) _) (by simp <;> omega) _) (by simp <;> omega) _) (by simp <;> omega) _) (by simp <;> omega) _)
  · exact (g_setCell (g_setCell (g_setCell (g_setCell (g_setCell h.grown (by simp <;> omega) _) (by simp <;> omega) _) (by simp <;> omega) _) (by simp <;> omega) _) (by simp <;> omega) _)
theorem rows_put {w : World} {g n cap : Nat} {rows : List (List Value)} (h : RowsAt w.cell? 5 (.slice (some ⟨g,0,none⟩) n cap) rows) (hs : ∀ r∈rows,r.length = 5) {k : Nat} (hk : k < n) (y0 y1 y2 y3 y4 : Value) :
    RowsAt (w.setCells g (k * 5) [y0,y1,y2,y3,y4]).cell? 5 (.slice (some ⟨g,0,none⟩) n cap) (rows.set k [y0,y1,y2,y3,y4]):=by
  obtain ⟨hl,hc,hm⟩:=rows_len h
  obtain ⟨a,c,h1,-,-,h4⟩:=h
  injection h1 with h5 h6 h7
  subst h5; subst h7
  rcases h4 with h4 | ⟨blk,off,h8,h9⟩
  · rw [h4] at hl; simp at hl; omega
  injection h8 with h8
  injection h8 with h10 h11
  subst h10; subst h11
  refine ⟨some ⟨g,0,none⟩,cap,by simp [hl],by simpa [hl] using hc,hm,Or.inr ⟨g,0,rfl,fun i r hi j x hx=>?_⟩⟩
  have hcell : ∀ i,i < n→∀ j,j < 5→∃ v,(rows[i]?.getD [])[j]? = some v∧w.cell? ⟨g,i * 5 + j,none⟩ = some v:=by
    intro i hi j hj
    have e1 : rows[i]? = some (rows[i]'(by omega)):=List.getElem?_eq_getElem (by omega)
    have e2 : (rows[i]'(by omega)).length = 5:=hs _ (List.getElem_mem _)
    have e3 : (rows[i]'(by omega))[j]? = some ((rows[i]'(by omega))[j]'(by omega)):=List.getElem?_eq_getElem (by omega)
    refine ⟨_,by rw [e1]; exact e3,?_⟩
    have:=h9 i _ e1 j _ e3
    rw [Nat.zero_add] at this
    exact this
  rw [Nat.zero_add]
  have hin : i < n:=by have:=(List.getElem?_eq_some_iff.1 hi).1; simp at this; omega
  by_cases e : i = k
  · subst e
    rw [List.getElem?_set_self (by omega)] at hi
    obtain rfl : [y0,y1,y2,y3,y4] = r:=Option.some.inj hi
    have hj : j < 5:=(List.getElem?_eq_some_iff.1 hx).1
    have:=World.cell?_setCells_in g [y0,y1,y2,y3,y4] (i * 5) w (fun j hj=>by obtain ⟨v,-,hv⟩:=hcell i hin j (by simpa using hj); rw [hv]; rfl) j (by simpa using hj)
    rw [List.getElem?_eq_getElem (show j < [y0,y1,y2,y3,y4].length by simpa using hj)] at hx
    exact this.trans hx
  · rw [List.getElem?_set_ne (fun h=>e h.symm)] at hi
    have hj : j < 5:=by have:=(List.getElem?_eq_some_iff.1 hx).1; rw [hs r (List.mem_of_getElem? hi)] at this; exact this
    rw [World.cell?_setCells_out g _ _ _ _ (fun _ _=>by simp only [List.length_cons,List.length_nil]; omega)]
    have:=h9 i r hi j x hx
    rw [Nat.zero_add] at this
    exact this
end Go.Proofs.YtfffpflflggonaaGreatDoor.draw
namespace Go.Proofs.YtfffpflflggonaaGreatDoor.draw
open Go.RowKit schema
mutual
def cntE : ED→Nat
  | .mk _ _ _ _ ks=>1 + cntL ks
def cntL : List ED→Nat
  | []=>0
  | k :: r=>cntE k + cntL r
end
mutual
def fewE (N : Nat) : ED→Prop
  | .mk _ kind name vals kids=>vals.length≤N∧(kids.length≤N∧kind.size≤1048576∧name.size≤1048576)∧fewL N kids
def fewL (N : Nat) : List ED→Prop
  | []=>True
  | k :: r=>fewE N k∧fewL N r
end
mutual
theorem fewE_up {N M : Nat} (h : N≤M) : ∀ d : ED,fewE N d→fewE M d
  | .mk _ _ _ _ ks,hd=>⟨Nat.le_trans hd.1 h,⟨Nat.le_trans hd.2.1.1 h,hd.2.1.2⟩,fewL_up h ks hd.2.2⟩
theorem fewL_up {N M : Nat} (h : N≤M) : ∀ l : List ED,fewL N l→fewL M l
  | [],_=>trivial
  | k :: r,hl=>⟨fewE_up h k hl.1,fewL_up h r hl.2⟩
end
mutual
theorem fewE_of_small {N M : Nat} (h : N≤M) : ∀ d : ED,smallE N d→fewE M d
  | .mk _ _ _ _ ks,hd=>⟨Nat.le_trans hd.1 h,⟨Nat.le_trans hd.2.1 h,hd.2.2.1.2⟩,fewL_of_small h ks hd.2.2.2⟩
theorem fewL_of_small {N M : Nat} (h : N≤M) : ∀ l : List ED,smallL N l→fewL M l
  | [],_=>trivial
  | k :: r,hl=>⟨fewE_of_small h k hl.1,fewL_of_small h r hl.2⟩
end
theorem fewL_snoc {N : Nat} : ∀ {l : List ED} {d : ED},fewL N l→fewE N d→fewL N (l ++ [d])
  | [],_,_,hd=>⟨hd,trivial⟩
  | _ :: r,_,hl,hd=>⟨hl.1,fewL_snoc (l:=r) hl.2 hd⟩
theorem cntL_snoc : ∀ (l : List ED) (d : ED),cntL (l ++ [d]) = cntL l + cntE d
  | [],d=>by simp [cntL]
  | x :: r,d=>by rw [List.cons_append,cntL,cntL,cntL_snoc r d]; omega
theorem fewL_set {N : Nat} : ∀ {l : List ED} {k : Nat} {d : ED},fewL N l→fewE N d→fewL N (l.set k d)
  | [],_,_,_,_=>trivial
  | _ :: _,0,_,hl,hd=>⟨hd,hl.2⟩
  | _ :: r,k + 1,_,hl,hd=>⟨hl.1,fewL_set (l:=r) (k:=k) hl.2 hd⟩
theorem cntL_set : ∀ (l : List ED) (k : Nat) (x d : ED),l[k]? = some x→cntL (l.set k d) + cntE x = cntL l + cntE d
  | [],_,_,_,h=>by simp at h
  | y :: r,0,x,d,h=>by
    simp at h; subst h
    rw [List.set_cons_zero,cntL,cntL]; omega
  | y :: r,k + 1,x,d,h=>by
    have h1:=cntL_set r k x d (by simpa using h)
    rw [List.set_cons_succ,cntL,cntL]; omega
def Gr (N K k : Nat) (d : ED) : Prop:=cntE d≤K + k∧fewE (N + 10 + k) d
theorem Gr.up {N K k k' : Nat} {d : ED} (h : Gr N K k d) (hk : k≤k') : Gr N K k' d:=⟨by have:=h.1; omega,fewE_up (by omega) d h.2⟩
theorem gr_start {N : Nat} {d : ED} (h : smallE N d) : Gr N (cntE d) 0 d:=⟨Nat.le_refl _,fewE_of_small (by omega) d h⟩
section
variable {N K k : Nat} {op : Int} {kind name : ByteArray} {vals : List VD} {kids : List ED}
theorem gr_head (h : Gr N K k (.mk op kind name vals kids)) (op' : Int) (kind' name' : ByteArray) (hn : kind'.size≤1048576∧name'.size≤1048576) : Gr N K k (.mk op' kind' name' vals kids):=⟨h.1,h.2.1,⟨h.2.2.1.1,hn⟩,h.2.2.2⟩
theorem Gr.nm (h : Gr N K k (.mk op kind name vals kids)) : kind.size≤1048576∧name.size≤1048576:=h.2.2.1.2
theorem gr_vals (h : Gr N K k (.mk op kind name vals kids)) {vals' : List VD} (hl : vals'.length≤N + 10 + k) : Gr N K k (.mk op kind name vals' kids):=⟨h.1,hl,h.2.2⟩
theorem few_test {M : Nat} (hM : 4≤M) {o : Int} {ki na : ByteArray} {l : List VD} (hl : l.length≤4) (hn : ki.size≤1048576∧na.size≤1048576) : fewE M (.mk o ki na l []):=⟨Nat.le_trans hl hM,⟨Nat.zero_le _,hn⟩,trivial⟩
theorem gr_snoc (h : Gr N K k (.mk op kind name vals kids)) {o : Int} {ki na : ByteArray} {l : List VD} (hl : l.length≤4) (hn : ki.size≤1048576∧na.size≤1048576) : Gr N K (k + 1) (.mk op kind name vals (kids ++ [.mk o ki na l []])):=by
  obtain ⟨h1,h2,⟨h3,h5⟩,h4⟩:=h
  rw [cntE] at h1
  refine ⟨?_,Nat.le_trans h2 (by omega),⟨by rw [List.length_append]; show kids.length + 1≤_; omega,h5⟩,fewL_snoc (fewL_up (by omega) kids h4) (few_test (by omega) hl hn)⟩
  rw [cntE,cntL_snoc,cntE,cntL]; omega
theorem gr_not {d : ED} (h : Gr N K k d) : Gr N K (k + 1) (.mk 4 ⟨#[]⟩ ⟨#[]⟩ [] [d]):=by
  obtain ⟨h1,h2⟩:=h
  refine ⟨by rw [cntE,cntL,cntL]; omega,Nat.zero_le _,⟨by show 1≤_; omega,by decide,by decide⟩,fewE_up (by omega) d h2,trivial⟩
theorem gr_list {d : ED} (h : Gr N K k d) {o : Int} {ki na : ByteArray} {l : List VD} (hl : l.length≤4) (hn : ki.size≤1048576∧na.size≤1048576) : Gr N K (k + 2) (.mk 2 ⟨#[]⟩ ⟨#[]⟩ [] [d,.mk o ki na l []]):=by
  obtain ⟨h1,h2⟩:=h
  refine ⟨by rw [cntE,cntL,cntL,cntL,cntE,cntL]; omega,Nat.zero_le _,⟨by show 2≤_; omega,by decide,by decide⟩,fewE_up (by omega) d h2,few_test (by omega) hl hn,trivial⟩
theorem gr_set (h : Gr N (cntE (.mk op kind name vals kids)) 0 (.mk op kind name vals kids)) {i : Nat} {x d : ED} (hi : kids[i]? = some x) (hd : Gr N (cntE x) 20 d) : Gr N (cntE (.mk op kind name vals kids)) 20 (.mk op kind name vals (kids.set i d)):=by
  obtain ⟨-,h2,⟨h3,h7⟩,h4⟩:=h
  have h5:=cntL_set kids i x d hi
  have h6:=hd.1
  refine ⟨by rw [cntE,cntE]; omega,Nat.le_trans h2 (by omega),⟨by rw [List.length_set]; omega,h7⟩,fewL_set (fewL_up (by omega) kids h4) hd.2⟩
end
def CondG (M : Mem) (N : Nat) (d0 : ED) (b : Nat) (w : World) (e : Ending) (w' : World) : Prop :=
  ∃ (M' : Mem) (d : ED) (op : Int) (kind name : ByteArray) (va : Option Addr) (vn vc : Nat) (ka : Option Addr) (kn kc : Nat),e = .returned (.agg #[.int .i64 op,.string kind,.string name,.slice va vn vc,.slice ka kn kc]) ∧
    Ext M M' w.heap.size∧Sub M' w'.cell?∧Off b M'∧EAt M' d [.int .i64 op,.string kind,.string name,.slice va vn vc,.slice ka kn kc]∧Gr N (cntE d0) 20 d
theorem CX.doneG {w u : World} {b : Nat} {a : Option Addr} {n c : Nat} {A : Array Value} {M0 M : Mem} (h : CX w u b a n c A M0 M) {d : ED} {op : Int} {kind name : ByteArray} {va : Option Addr} {vn vc : Nat} {ka : Option Addr} {kn kc : Nat}
    (hE : EAt M d [.int .i64 op,.string kind,.string name,.slice va vn vc,.slice ka kn kc]) {N : Nat} {d0 : ED} (hGr : Gr N (cntE d0) 20 d) (x0 x1 x2 x3 x4 : Value) :
    Drawn b a n c w (fun e w'=>CondG M0 N d0 b w e w') (.returned (.agg #[.int .i64 op,.string kind,.string name,.slice va vn vc,.slice ka kn kc]))
      (((((u.setCell ⟨w.heap.size + 1,0,none⟩ x0).setCell ⟨w.heap.size + 1,1,none⟩ x1).setCell ⟨w.heap.size + 1,2,none⟩ x2).setCell ⟨w.heap.size + 1,3,none⟩ x3).setCell ⟨w.heap.size + 1,4,none⟩ x4):=by
  have hb:=h.br
  have ho : Off (w.heap.size + 1) M:=h.offs (by omega) (by omega)
  refine ⟨⟨M,d,op,kind,name,va,vn,vc,ka,kn,kc,rfl,h.ext.low (by omega),?_,h.off,hE,hGr⟩,?_,?_⟩
  · exact sub_setCell (sub_setCell (sub_setCell (sub_setCell (sub_setCell h.sub ho _) ho _) ho _) ho _) ho _
  · exact (Head.set (Head.set (Head.set (Head.set (Head.set h.head (by simp <;> omega) _) (by simp <;> omega) _) (by simp <;> omega) _) (by simp <;> omega) _) (by simp <;> omega) _)
  · exact (g_setCell (g_setCell (g_setCell (g_setCell (g_setCell h.grown (by simp <;> omega) _) (by simp <;> omega) _) (by simp <;> omega) _) (by simp <;> omega) _) (by simp <;> omega) _)
end Go.Proofs.YtfffpflflggonaaGreatDoor.draw
namespace Go.Proofs.YtfffpflflggonaaGreatDoor.clause
open Go.RowKit schema value text draw
mutual
def SameE : ED→ED→Prop
  | .mk op k n v ks,.mk op' k' n' v' ks'=>op = op'∧k = k'∧n = n'∧SameL v v'∧SameEL ks ks'
def SameEL : List ED→List ED→Prop
  | [],[]=>True
  | a :: r,b :: s=>SameE a b∧SameEL r s
  | _,_=>False
end
theorem SameEL.len : ∀ {l' l : List ED},SameEL l' l→l'.length = l.length
  | [],[],_=>rfl
  | [],_ :: _,h=>by simp [SameEL] at h
  | _ :: _,[],h=>by simp [SameEL] at h
  | _ :: _,_ :: _,h=>by simp [h.2.len]
end Go.Proofs.YtfffpflflggonaaGreatDoor.clause
namespace Go.Proofs.YtfffpflflggonaaGreatDoor.clause
open Go.RowKit schema value text draw
def sameVL : List VD→List VD→Bool
  | [],[]=>true
  | a :: r,b :: s=>eqV a b && sameVL r s
  | _,_=>false
mutual
def sameB : ED→ED→Bool
  | .mk op k n v ks,.mk op' k' n' v' ks'=>op == op' && (k.toList == k'.toList && (n.toList == n'.toList && (sameVL v v' && sameKL ks ks')))
def sameKL : List ED→List ED→Bool
  | [],[]=>true
  | a :: r,b :: s=>sameB a b && sameKL r s
  | _,_=>false
end
theorem sameVL_len : ∀ {a b : List VD},a.length ≠ b.length→sameVL a b = false
  | [],[],h=>absurd rfl h
  | [],_ :: _,_=>rfl
  | _ :: _,[],_=>rfl
  | x :: r,y :: s,h=>by rw [sameVL,sameVL_len (a:=r) (b:=s) (by simpa using h),Bool.and_false]
theorem sameKL_len : ∀ {a b : List ED},a.length ≠ b.length→sameKL a b = false
  | [],[],h=>absurd rfl h
  | [],_ :: _,_=>rfl
  | _ :: _,[],_=>rfl
  | x :: r,y :: s,h=>by rw [sameKL,sameKL_len (a:=r) (b:=s) (by simpa using h),Bool.and_false]
def RV (a b : List VD) (k : Nat) : Prop:=sameVL (a.drop k) (b.drop k) = sameVL a b
theorem rv_hit {a b : List VD} {k : Nat} (h : k < a.length) (h' : k < b.length) (h1 : eqV a[k] b[k] = false) (T : RV a b k) : sameVL a b = false:=by
  unfold RV at T; rw [← T,List.drop_eq_getElem_cons h,List.drop_eq_getElem_cons h',sameVL,h1]; rfl
theorem rv_miss {a b : List VD} {k : Nat} (h : k < a.length) (h' : k < b.length) (h1 : eqV a[k] b[k] = true) (T : RV a b k) : RV a b (k + 1):=by
  unfold RV at *; rw [← T,List.drop_eq_getElem_cons h,List.drop_eq_getElem_cons h',sameVL,h1]; rfl
theorem rv_end {a b : List VD} {k : Nat} (h : ¬ k < a.length) (h' : a.length = b.length) (T : RV a b k) : sameVL a b = true:=by
  unfold RV at T; rw [← T,List.drop_eq_nil_of_le (by omega),List.drop_eq_nil_of_le (by omega)]; rfl
def RK (a b : List ED) (k : Nat) : Prop:=sameKL (a.drop k) (b.drop k) = sameKL a b
theorem rk_hit {a b : List ED} {k : Nat} (h : k < a.length) (h' : k < b.length) (h1 : sameB a[k] b[k] = false) (T : RK a b k) : sameKL a b = false:=by
  unfold RK at T; rw [← T,List.drop_eq_getElem_cons h,List.drop_eq_getElem_cons h',sameKL,h1]; rfl
theorem rk_miss {a b : List ED} {k : Nat} (h : k < a.length) (h' : k < b.length) (h1 : sameB a[k] b[k] = true) (T : RK a b k) : RK a b (k + 1):=by
  unfold RK at *; rw [← T,List.drop_eq_getElem_cons h,List.drop_eq_getElem_cons h',sameKL,h1]; rfl
theorem rk_end {a b : List ED} {k : Nat} (h : ¬ k < a.length) (h' : a.length = b.length) (T : RK a b k) : sameKL a b = true:=by
  unfold RK at T; rw [← T,List.drop_eq_nil_of_le (by omega),List.drop_eq_nil_of_le (by omega)]; rfl
def SameOk (f : FuncId) (m : Mem) (d : ED) (r : List Value) : Prop:=∀ (m' : Mem) (d' : ED) (r' : List Value),EAt m' d' r'→∀ w : World,Sub m w.cell?→Sub m' w.cell?→Calls Tryz.prog f #[.agg r.toArray,.agg r'.toArray] w fun e w'=>e = .returned (.bool (sameB d d'))∧Below w.heap.size w w'
end Go.Proofs.YtfffpflflggonaaGreatDoor.clause
namespace Go.Proofs.YtfffpflflggonaaGreatDoor.clause
open Go.RowKit schema value text draw
end Go.Proofs.YtfffpflflggonaaGreatDoor.clause
namespace Go.Proofs.YtfffpflflggonaaGreatDoor.clause
open Go.RowKit schema value text draw
end Go.Proofs.YtfffpflflggonaaGreatDoor.clause
namespace Go.Proofs.YtfffpflflggonaaGreatDoor.value
open Go.RowKit text
set_option maxRecDepth 100000 in
set_option maxHeartbeats 2000000 in
theorem same_ref (la lb : Option Addr) (ca cb : Nat) (xs ys : List ByteArray) (w : World) (hX : LIn w la xs) (hY : LIn w lb ys) (hm : xs.length≤9223372036854775807) :
    Calls Tryz.prog 120 #[.slice la xs.length ca,.slice lb ys.length cb] w fun e w'=>e = .returned (.bool (lsL xs == lsL ys))∧Below w.heap.size w w':=by
  go_enter Tryz.func120,Tryz.ntmps120
  by_cases hl : xs.length = ys.length
  · rw [← hl]
    have hl2:=Lib.hid hl
    clear hl
    go_wp2
    go_loopw [5] (fun i wr=>Hid (Below w.heap.size w wr)∧∃ k : Nat,k≤xs.length∧i = .int .i64 k∧Hid (∀ j (hx : j < xs.length) (hy : j < ys.length),j < k→xs[j].toList = ys[j].toList)) (fun i _=>xs.length - (intOf i).toNat)
    case atStart=>exact ⟨Below.refl _ _,0,Nat.zero_le _,rfl,fun _ _ _ h=>absurd h (by omega)⟩
    case round =>
      obtain ⟨hb,k,hk,rfl,hA⟩:=hrel
      by_cases hlt : k < xs.length
      · have hly : k < ys.length:=by have:=hl2.out; omega
        rcases hX with h0 | ⟨bx,ox,rfl,hcx⟩
        · rw [h0] at hlt; simp at hlt
        rcases hY with h0 | ⟨bY,oy,rfl,hcy⟩
        · rw [h0] at hly; simp at hly
        have hc1:=sub_of_below hb.out _ _ (hcx k hlt)
        have hc2:=sub_of_below hb.out _ _ (hcy k hly)
        have n0 : (0 : Int)≤(k : Int):=Int.natCast_nonneg _
        have n1 : (k : Int) < (xs.length : Int):=by omega
        clear hcx hcy
        by_cases he : xs[k].toList = ys[k].toList
        · have hA2:=Lib.hid (show ∀ j (hx : j < xs.length) (hy : j < ys.length),j < k + 1→xs[j].toList = ys[j].toList from fun j hx hy h=>by
            rcases Nat.lt_or_ge j k with h1 | h1
            · exact hA.out j hx hy h1
            · obtain rfl : j = k:=by omega
              exact he)
          have q : (!xs[k].toList == ys[k].toList) = false:=by simp [he]
          clear he
          go_wp2_with fail
          go_quiet (fail)
          go_wp2
          go_roundw
          case rel=>exact ⟨bel_drew hb.out _,k + 1,by omega,by go_num,hA2.out⟩
          case measure=>simp [intOf]; omega
        · have hQ:=Lib.hid (ls_bad hlt hly he)
          have q : (!xs[k].toList == ys[k].toList) = true:=by simp [he]
          clear he
          go_wp2_with fail
          go_quiet (fail)
          go_wp2
          go_ret
          exact ⟨ret_bool hQ.out,bel_drew hb.out _⟩
      · have hQ:=Lib.hid (ls_good hl2.out (fun j hx hy=>hA.out j hx hy (by omega)))
        go_wp2
        go_ret
        exact ⟨ret_bool hQ.out,hb.out⟩
  · have hQ:=Lib.hid (ls_len hl)
    have q : ((xs.length : Int) == (ys.length : Int)) = false:=by simp; omega
    have q' : ((xs.length : Int) != (ys.length : Int)) = true:=by simp; omega
    go_wp2
    go_ret
    exact ⟨ret_bool hQ.out,Below.refl _ _⟩
end Go.Proofs.YtfffpflflggonaaGreatDoor.value
namespace Go.Proofs.YtfffpflflggonaaGreatDoor.value
open Go.RowKit text
set_option maxRecDepth 100000 in
set_option maxHeartbeats 2000000 in
theorem equal_ref (k l n m : Int) (s t : ByteArray) (la lb : Option Addr) (ca cb : Nat) (xs ys : List ByteArray) (w : World) (hX : LIn w la xs) (hY : LIn w lb ys) (hm : xs.length≤9223372036854775807) :
    Calls Tryz.prog 54 #[.agg #[.int .i64 k,.int .i64 n,.string s,.slice la xs.length ca],.agg #[.int .i64 l,.int .i64 m,.string t,.slice lb ys.length cb]] w fun e w'=>e = .returned (.bool (eqVV k l n m s t (lsL xs == lsL ys)))∧Below w.heap.size w w':=by
  have hB:=Lib.hid (show Below w.heap.size w ((w.alloc (.cells #[.int .i64 k,.int .i64 n,.string s,.slice la xs.length ca] 76)).alloc (.cells #[.int .i64 l,.int .i64 m,.string t,.slice lb ys.length cb] 76)) from ((Below.refl _ _).alloc (Nat.le_refl _) _).alloc (by simp) _)
  have hX1:=Lib.hid (hX.below hB.out)
  have hY1:=Lib.hid (hY.below hB.out)
  go_enter Tryz.func54,Tryz.ntmps54
  cases hk : (k == l) with
  | false =>
    have hQ:=Lib.hid (show false = eqVV k l n m s t (lsL xs == lsL ys) by unfold eqVV; rw [hk]; rfl)
    go_wp2
    go_ret
    exact ⟨ret_b hQ.out,hB.out⟩
  | true =>
    cases hn : (n == m) with
    | false =>
      have hQ:=Lib.hid (show false = eqVV k l n m s t (lsL xs == lsL ys) by unfold eqVV; rw [hk,hn]; rfl)
      go_wp2
      go_ret
      exact ⟨ret_b hQ.out,hB.out⟩
    | true =>
      cases ht : (s.toList == t.toList) with
      | false =>
        have hQ:=Lib.hid (show false = eqVV k l n m s t (lsL xs == lsL ys) by unfold eqVV; rw [hk,hn,ht]; rfl)
        go_wp2
        go_ret
        exact ⟨ret_b hQ.out,hB.out⟩
      | true =>
        have hQ:=Lib.hid (show (lsL xs == lsL ys) = eqVV k l n m s t (lsL xs == lsL ys) by unfold eqVV; rw [hk,hn,ht]; rfl)
        go_wp2_with fail
        refine (same_ref la lb ca cb xs ys _ hX1.out hY1.out hm).mono ?_
        rintro e w1 ⟨rfl,hb1⟩
        have hB2:=Lib.hid (hB.out.trans (hb1.mono hB.out.size))
        go_wp2
        go_ret
        exact ⟨ret_b hQ.out,hB2.out⟩
end Go.Proofs.YtfffpflflggonaaGreatDoor.value
namespace Go.Proofs.YtfffpflflggonaaGreatDoor.clause
open Go.RowKit Go.Sort schema value text draw
theorem eqr_any (a b : VD) (w : World) (ha : LAt w.cell? a) (hb : LAt w.cell? b) :
    Calls Tryz.prog 54 #[.agg #[.int .i64 a.kind,.int .i64 a.num,.string a.text,.slice a.ptr a.len a.cap],.agg #[.int .i64 b.kind,.int .i64 b.num,.string b.text,.slice b.ptr b.len b.cap]] w fun e w'=>e = .returned (.bool (eqV a b))∧Below w.heap.size w w':=by
  rw [vd_len ha,vd_len hb]
  exact equal_ref a.kind b.kind a.num b.num a.text b.text a.ptr b.ptr a.cap b.cap a.ls b.ls w (lin_of_rows ha.rows) (lin_of_rows hb.rows) (lenI ha)
end Go.Proofs.YtfffpflflggonaaGreatDoor.clause
namespace Go.Proofs.YtfffpflflggonaaGreatDoor.clause
open Go.RowKit Go.Sort schema value text draw
set_option maxRecDepth 100000 in
set_option maxHeartbeats 4000000 in
theorem reqV (xs ys : List VD) (a b : Option Addr) (n m c d : Nat) (w : World) (hX : RowsAt w.cell? 4 (.slice a n c) (xs.map VD.row)) (hY : RowsAt w.cell? 4 (.slice b m d) (ys.map VD.row)) (hLx : ∀ v∈xs,LAt w.cell? v) (hLy : ∀ v∈ys,LAt w.cell? v) :
    Calls Tryz.prog 27 #[.slice a n c,.slice b m d] w fun e w'=>e = .returned (.bool (sameVL xs ys))∧Below w.heap.size w w':=by
  have hn:=(len_of hX).1
  have hm:=(len_of hY).1
  have hn2:=(len_of hX).2
  have hm2:=(len_of hY).2
  simp only [List.length_map] at hn hm
  subst hn; subst hm
  replace hX:=Lib.hid hX
  replace hY:=Lib.hid hY
  replace hLx:=Lib.hid hLx
  replace hLy:=Lib.hid hLy
  go_enter Tryz.func27,Tryz.ntmps27
  by_cases hl : xs.length = ys.length
  case neg =>
    have hQ:=Lib.hid (sameVL_len hl)
    have hne : ((xs.length : Int) != (ys.length : Int)) = true:=by simp; omega
    go_wp2
    go_ret
    exact ⟨ret_to hQ.out,Below.refl _ _⟩
  rw [← hl]
  replace hl:=Lib.hid hl
  go_wp2
  go_loopw [5] (fun i wr=>∃ k : Nat,k≤xs.length∧i = .int .i64 k∧Hid (Below w.heap.size w wr)∧Hid (RV xs ys k)) (fun i _=>xs.length - (intOf i).toNat)
  case atStart=>exact ⟨0,Nat.zero_le _,rfl,Lib.hid (Below.refl _ _),Lib.hid rfl⟩
  case round =>
    obtain ⟨k,hk,rfl,hb,hT⟩:=hrel
    by_cases hlt : k < xs.length
    case neg =>
      have hE:=Lib.hid (rv_end hlt hl.out hT.out)
      go_wp2
      go_ret
      exact ⟨ret_to hE.out,hb.out⟩
    have hly : k < ys.length:=by have:=hl.out; omega
    obtain ⟨bx,ox,rfl,x0,x1,x2,x3⟩:=vd_at (hX.out.mono (sub_of_below hb.out)) hlt
    obtain ⟨bY,oy,rfl,y0,y1,y2,y3⟩:=vd_at (hY.out.mono (sub_of_below hb.out)) hly
    have hlx:=(hLx.out _ (List.getElem_mem hlt)).mono (sub_of_below hb.out)
    have hlyy:=(hLy.out _ (List.getElem_mem hly)).mono (sub_of_below hb.out)
    have n0 : (0 : Int)≤(k : Int):=by omega
    have n1 : (k : Int) < (xs.length : Int):=by omega
    have hHit:=Lib.hid (fun h1=>rv_hit hlt hly h1 hT.out)
    have hMiss:=Lib.hid (fun h1=>rv_miss hlt hly h1 hT.out)
    generalize xs[k] = u at x0 x1 x2 x3 hlx hHit hMiss
    generalize ys[k] = v at y0 y1 y2 y3 hlyy hHit hMiss
    have cK:=Lib.hid (fun (dq : Nat) (os : Array Obj)=>Calls.regrown_of (eqr_any u v (Sort.grow (redrawn wr dq) os) (hlx.mono (sub_of_below (below_regrown wr dq os))) (hlyy.mono (sub_of_below (below_regrown wr dq os)))))
    have k0:=cell_regrown x0
    have k1:=cell_regrown x1
    have k2:=cell_regrown x2
    have k3:=cell_regrown x3
    have m0:=cell_regrown y0
    have m1:=cell_regrown y1
    have m2:=cell_regrown y2
    have m3:=cell_regrown y3
    clear hlx hlyy x0 x1 x2 x3 y0 y1 y2 y3
    go_wp2_with fail
    refine wp_region_quiet_below (by kernel_rfl) (by kernel_rfl) ?_
    repeat (go_big_quiet_step (exact cK.out _ _))
    refine wpQuiet_nil ?_
    intro _ hw'
    obtain ⟨⟨dq,osq⟩,hw''⟩:=hw'
    subst hw''
    have hbr:=Lib.hid (hb.out.trans ((below_regrown wr dq osq).mono hb.out.size))
    clear cK k0 k1 k2 k3 m0 m1 m2 m3
    generalize Sort.grow (redrawn wr dq) osq = w5 at hbr ⊢
    cases h1 : eqV u v with
    | false =>
      have hq:=Lib.hid (hHit.out h1)
      clear hHit hMiss
      go_wp2
      go_ret
      exact ⟨ret_to hq.out,hbr.out⟩
    | true =>
      have hq:=Lib.hid (hMiss.out h1)
      clear hHit hMiss
      go_wp2
      go_roundw
      case rel=>exact ⟨k + 1,by omega,by go_num,hbr,hq⟩
      case measure=>simp [intOf]; omega
set_option maxRecDepth 100000 in
set_option maxHeartbeats 4000000 in
theorem reqE (xs ys : List ED) (rx ry : List (List Value)) (a b : Option Addr) (n m c d : Nat) (w : World) (hX : RowsAt w.cell? 5 (.slice a n c) rx) (hY : RowsAt w.cell? 5 (.slice b m d) ry) (hlx : rx.length = xs.length) (hly : ry.length = ys.length)
    (hLx : ∀ (i : Nat) (r : List Value) (k : ED),rx[i]? = some r→xs[i]? = some k→EAt w.cell? k r) (hLy : ∀ (i : Nat) (r : List Value) (k : ED),ry[i]? = some r→ys[i]? = some k→EAt w.cell? k r)
    (hcl : ∀ (i : Nat) (r r' : List Value) (k k' : ED) (w' : World),rx[i]? = some r→xs[i]? = some k→ry[i]? = some r'→ys[i]? = some k'→Below w.heap.size w w'→Calls Tryz.prog 11 #[.agg r.toArray,.agg r'.toArray] w' fun e w''=>e = .returned (.bool (sameB k k'))∧Below w'.heap.size w' w'') :
    Calls Tryz.prog 28 #[.slice a n c,.slice b m d] w fun e w'=>e = .returned (.bool (sameKL xs ys))∧Below w.heap.size w w':=by
  have hn:=(len_of hX).1
  have hm:=(len_of hY).1
  have hn2:=(len_of hX).2
  have hm2:=(len_of hY).2
  rw [hlx] at hn
  rw [hly] at hm
  subst hn; subst hm
  replace hX:=Lib.hid hX
  replace hY:=Lib.hid hY
  replace hLx:=Lib.hid hLx
  replace hcl:=Lib.hid hcl
  replace hlx:=Lib.hid hlx
  replace hly:=Lib.hid hly
  replace hLy:=Lib.hid hLy
  go_enter Tryz.func28,Tryz.ntmps28
  by_cases hl : xs.length = ys.length
  case neg =>
    have hQ:=Lib.hid (sameKL_len hl)
    have hne : ((xs.length : Int) != (ys.length : Int)) = true:=by simp; omega
    go_wp2
    go_ret
    exact ⟨ret_to hQ.out,Below.refl _ _⟩
  rw [← hl]
  replace hl:=Lib.hid hl
  go_wp2
  go_loopw [5] (fun i wr=>∃ k : Nat,k≤xs.length∧i = .int .i64 k∧Hid (Below w.heap.size w wr)∧Hid (RK xs ys k)) (fun i _=>xs.length - (intOf i).toNat)
  case atStart=>exact ⟨0,Nat.zero_le _,rfl,Lib.hid (Below.refl _ _),Lib.hid rfl⟩
  case round =>
    obtain ⟨k,hk,rfl,hb,hT⟩:=hrel
    by_cases hlt : k < xs.length
    case neg =>
      have hE:=Lib.hid (rk_end hlt hl.out hT.out)
      go_wp2
      go_ret
      exact ⟨ret_to hE.out,hb.out⟩
    have hky : k < ys.length:=by have:=hl.out; omega
    obtain ⟨bx,ox,xop,xkind,xname,xva,xvn,xvc,xka,xkn,xkc,rfl,x0,x1,x2,x3,x4,hrx⟩:=kid_at (hX.out.mono (sub_of_below hb.out)) hlx.out (fun j r k h1 h2=>hLx.out j r k h1 h2) hlt
    obtain ⟨bY,oy,yop,ykind,yname,yva,yvn,yvc,yka,ykn,ykc,rfl,y0,y1,y2,y3,y4,hry⟩:=kid_at (hY.out.mono (sub_of_below hb.out)) hly.out (fun j r k h1 h2=>hLy.out j r k h1 h2) hky
    have n0 : (0 : Int)≤(k : Int):=by omega
    have n1 : (k : Int) < (xs.length : Int):=by omega
    have hHit:=Lib.hid (fun h1=>rk_hit hlt hky h1 hT.out)
    have hMiss:=Lib.hid (fun h1=>rk_miss hlt hky h1 hT.out)
    have cK:=Lib.hid (fun (dq : Nat) (os : Array Obj)=>Calls.regrown_of (hcl.out k _ _ xs[k] ys[k] (Sort.grow (redrawn wr dq) os) hrx (List.getElem?_eq_getElem hlt) hry (List.getElem?_eq_getElem hky) (hb.out.trans ((below_regrown wr dq os).mono hb.out.size))))
    have k0:=cell_regrown x0
    have k1:=cell_regrown x1
    have k2:=cell_regrown x2
    have k3:=cell_regrown x3
    have k4:=cell_regrown x4
    have m0:=cell_regrown y0
    have m1:=cell_regrown y1
    have m2:=cell_regrown y2
    have m3:=cell_regrown y3
    have m4:=cell_regrown y4
    clear hrx hry x0 x1 x2 x3 x4 y0 y1 y2 y3 y4
    generalize xs[k] = u at cK hHit hMiss
    generalize ys[k] = v at cK hHit hMiss
    go_wp2_with fail
    refine wp_region_quiet_below (by kernel_rfl) (by kernel_rfl) ?_
    repeat (go_big_quiet_step (exact cK.out _ _))
    refine wpQuiet_nil ?_
    intro _ hw'
    obtain ⟨⟨dq,osq⟩,hw''⟩:=hw'
    subst hw''
    have hbr:=Lib.hid (hb.out.trans ((below_regrown wr dq osq).mono hb.out.size))
    clear cK k0 k1 k2 k3 k4 m0 m1 m2 m3 m4
    generalize Sort.grow (redrawn wr dq) osq = w5 at hbr ⊢
    cases h1 : sameB u v with
    | false =>
      have hq:=Lib.hid (hHit.out h1)
      clear hHit hMiss
      go_wp2
      go_ret
      exact ⟨ret_to hq.out,hbr.out⟩
    | true =>
      have hq:=Lib.hid (hMiss.out h1)
      clear hHit hMiss
      go_wp2
      go_roundw
      case rel=>exact ⟨k + 1,by omega,by go_num,hbr,hq⟩
      case measure=>simp [intOf]; omega
set_option maxRecDepth 100000 in
set_option maxHeartbeats 4000000 in
theorem rsame_step (m : Mem) (op : Int) (kind name : ByteArray) (vals : List VD) (kids : List ED) (vs ks : Value) (rows : List (List Value)) (hv : RowsAt m 4 vs (vals.map VD.row)) (hk : RowsAt m 5 ks rows) (hl : rows.length = kids.length) (hL : ∀ v∈vals,LAt m v)
    (hE : ∀ (i : Nat) (r : List Value) (k : ED),rows[i]? = some r→kids[i]? = some k→EAt m k r)
    (ih : ∀ (j : Nat) (r : List Value) (k : ED),rows[j]? = some r→kids[j]? = some k→SameOk 11 m k r) :
    SameOk 11 m (.mk op kind name vals kids) [.int .i64 op,.string kind,.string name,vs,ks]:=by
  intro m' d' r' h' w hs hs'
  obtain ⟨op',kind',name',va',vn',vc',ka',kn',kc',rfl⟩:=eat_five h'
  obtain ⟨vals',kids',rows',rfl,hv',hk',hl',hL',hE'⟩:=eat_parts h'
  obtain ⟨va,vn,vc,rfl⟩ : ∃ a n c,vs = .slice a n c:=by obtain ⟨a,c,h,-⟩:=hv; exact ⟨_,_,_,h⟩
  obtain ⟨ka,kn,kc,rfl⟩ : ∃ a n c,ks = .slice a n c:=by obtain ⟨a,c,h,-⟩:=hk; exact ⟨_,_,_,h⟩
  have hB : Below w.heap.size w ((w.alloc (.cells #[.int .i64 op,.string kind,.string name,.slice va vn vc,.slice ka kn kc] 31)).alloc (.cells #[.int .i64 op',.string kind',.string name',.slice va' vn' vc',.slice ka' kn' kc'] 31)):=((Below.refl _ _).alloc (Nat.le_refl _) _).alloc (by simp) _
  have hX:=(Own.new w #[.int .i64 op,.string kind,.string name,.slice va vn vc,.slice ka kn kc] 31).alloc (.cells #[.int .i64 op',.string kind',.string name',.slice va' vn' vc',.slice ka' kn' kc'] 31)
  have hY:=Own.new (w.alloc (.cells #[.int .i64 op,.string kind,.string name,.slice va vn vc,.slice ka kn kc] 31)) #[.int .i64 op',.string kind',.string name',.slice va' vn' vc',.slice ka' kn' kc'] 31
  rw [World.size_alloc] at hY
  have hs1:=hs.trans (sub_of_below hB)
  have hs1':=hs'.trans (sub_of_below hB)
  have hgoV:=Lib.hid (reqV vals vals' va va' vn vn' vc vc' _ (hv.mono hs1) (hv'.mono hs1') (fun v hm=>(hL v hm).mono hs1) (fun v hm=>(hL' v hm).mono hs1'))
  have hgoE:=Lib.hid (fun (w1 : World) (hb : Below ((w.alloc (.cells #[.int .i64 op,.string kind,.string name,.slice va vn vc,.slice ka kn kc] 31)).alloc (.cells #[.int .i64 op',.string kind',.string name',.slice va' vn' vc',.slice ka' kn' kc'] 31)).heap.size ((w.alloc (.cells #[.int .i64 op,.string kind,.string name,.slice va vn vc,.slice ka kn kc] 31)).alloc (.cells #[.int .i64 op',.string kind',.string name',.slice va' vn' vc',.slice ka' kn' kc'] 31)) w1)=>reqE kids kids' rows rows' ka ka' kn kn' kc kc' w1 (hk.mono (hs1.trans (sub_of_below hb))) (hk'.mono (hs1'.trans (sub_of_below hb))) hl hl' (fun i r k h1 h2=>(hE i r k h1 h2).mono (hs1.trans (sub_of_below hb))) (fun i r k h1 h2=>(hE' i r k h1 h2).mono (hs1'.trans (sub_of_below hb)))
    (fun i r r' k k' w' h1 h2 h3 h4 hb'=>ih i r k h1 h2 m' k' r' (hE' i r' k' h3 h4) w' ((hs1.trans (sub_of_below hb)).trans (sub_of_below hb')) ((hs1'.trans (sub_of_below hb)).trans (sub_of_below hb'))))
  have hQ:=Lib.hid (show sameB (.mk op kind name vals kids) (.mk op' kind' name' vals' kids') = (op == op' && (kind.toList == kind'.toList && (name.toList == name'.toList && (sameVL vals vals' && sameKL kids kids')))) from rfl)
  clear hv hk hl hL hE ih hv' hk' hl' hL' hE' h' hs hs' hs1 hs1'
  have hxl:=hX.lt
  have hyl:=hY.lt
  go_enter Tryz.func11,Tryz.ntmps11
  cases e1 : (op == op') with
  | false =>
    rw [e1] at hQ
    replace hB:=Lib.hid hB
    go_wp2
    go_ret
    exact ⟨ret_to (by rw [hQ.out]; rfl),hB.out⟩
  | true =>
  rw [e1] at hQ
  cases e2 : (kind.toList == kind'.toList) with
  | false =>
    rw [e2] at hQ
    replace hB:=Lib.hid hB
    go_wp2
    go_ret
    exact ⟨ret_to (by rw [hQ.out]; rfl),hB.out⟩
  | true =>
  rw [e2] at hQ
  cases e3 : (name.toList == name'.toList) with
  | false =>
    rw [e3] at hQ
    replace hB:=Lib.hid hB
    go_wp2
    go_ret
    exact ⟨ret_to (by rw [hQ.out]; rfl),hB.out⟩
  | true =>
  rw [e3] at hQ
  replace hB:=Lib.hid hB
  go_wp2_with fail
  refine hgoV.out.mono ?_
  rintro e w1 ⟨rfl,hb1⟩
  have hX1:=hX.below hb1 hxl
  have hY1:=hY.below hb1 hyl
  have hB1:=Lib.hid (hB.out.trans (hb1.mono hB.out.size))
  have hgo:=Lib.hid (hgoE.out w1 hb1)
  obtain ⟨x0,x1,x2,x3,x4⟩:=own5z hX1
  obtain ⟨y0,y1,y2,y3,y4⟩:=own5z hY1
  have hxl1:=hX1.lt
  have hyl1:=hY1.lt
  clear hb1 hX1 hY1 hgoV hgoE hX hY hxl hyl
  cases e4 : sameVL vals vals' with
  | false =>
    rw [e4] at hQ
    go_wp2
    go_ret
    exact ⟨ret_to (by rw [hQ.out]; rfl),hB1.out⟩
  | true =>
  rw [e4] at hQ
  go_wp2_with fail
  refine hgo.out.mono ?_
  rintro e w2 ⟨rfl,hb2⟩
  have hB2:=Lib.hid (hB1.out.trans (hb2.mono hB1.out.size))
  clear hgo hb2
  generalize sameKL kids kids' = bb at hQ ⊢
  go_wp2
  go_ret
  exact ⟨ret_to (by rw [hQ.out]; rfl),hB2.out⟩
theorem rsame_any (m : Mem) (d : ED) (r : List Value) (h : EAt m d r) : SameOk 11 m d r:=by
  induction h with
  | mk rows hv hk hl hL hE ih=>exact rsame_step m _ _ _ _ _ _ _ rows hv hk hl hL hE ih
end Go.Proofs.YtfffpflflggonaaGreatDoor.clause
namespace Go.Proofs.YtfffpflflggonaaGreatDoor.src
open Go.RowKit lex value text schema draw clause
theorem bytes_eq {a b : ByteArray} (h : a.data.toList = b.data.toList) : a = b:=ByteArray.ext (Array.ext' h)
theorem vv_eqV {a b : VD} (h : vv a = vv b) : eqV a b = true:=by
  unfold vv at h
  injection h with h1 h2 h3 h4
  unfold eqV eqVV
  rw [h1,h2,bytes_eq h3,h4]
  simp
theorem vv_B : ∀ {a b : List VD},a.map vv = b.map vv→sameVL a b = true
  | [],[],_=>rfl
  | [],_ :: _,h=>by cases h
  | _ :: _,[],h=>by cases h
  | x :: r,y :: s,h=>by
    rw [List.map_cons,List.map_cons] at h
    injection h with h1 h2
    rw [sameVL,vv_eqV h1,vv_B h2]; rfl
mutual
theorem pe_B : ∀ {a b : ED},pe a = pe b→sameB a b = true
  | .mk op k n v ks,.mk op' k' n' v' ks',h=>by
    rw [pe,pe] at h
    injection h with h1 h2 h3 h4 h5
    rw [sameB,h1,bytes_eq h2,bytes_eq h3,vv_B h4,pe_LB h5]
    simp
theorem pe_LB : ∀ {a b : List ED},peL a = peL b→sameKL a b = true
  | [],[],_=>rfl
  | [],_ :: _,h=>by rw [peL,peL] at h; cases h
  | _ :: _,[],h=>by rw [peL,peL] at h; cases h
  | x :: r,y :: s,h=>by
    rw [peL,peL] at h
    injection h with h1 h2
    rw [sameKL,pe_B h1,pe_LB h2]; rfl
end
def outS : Except (Int × Int) PE→PE × Int × Int
  | .ok x=>(x,0,0)
  | .error (q,L)=>(.mk 0 [] [] [] [],L,q)
theorem zero_at (M : Mem) : ExAt M (.mk 0 [] [] [] []) [.int .i64 0,.string ⟨#[]⟩,.string ⟨#[]⟩,.slice none 0 0,.slice none 0 0] :=
  ⟨.mk 0 ⟨#[]⟩ ⟨#[]⟩ [] [],.mk (vals:=[]) (kids:=[]) [] (rows_nil _ _) (rows_nil _ _) rfl (fun v h=>by cases h) (fun i r k h=>by simp at h),rfl⟩
theorem parse_out {l : List UInt8} {w : World} {e : Ending} {w' : World} {x : PE} {L q : Int} (h : ParseIs l w e w') (ho : outS (readS l) = (x,L,q)) : Below w.heap.size w w'∧∃ r,e = .returned (.tuple #[.agg r.toArray,.int .i64 L,.int .i64 q])∧ExAt w'.cell? x r:=by
  obtain ⟨hb,hm⟩:=h
  refine ⟨hb,?_⟩
  cases hr : readS l with
  | ok y =>
    rw [hr] at hm ho
    injection ho with h1 h2
    injection h2 with h2 h3
    subst h1; subst h2; subst h3
    exact hm
  | error z =>
    obtain ⟨z,Z⟩:=z
    rw [hr] at hm ho
    injection ho with h1 h2
    injection h2 with h2 h3
    subst h1; subst h2; subst h3
    exact ⟨_,hm,zero_at _⟩
theorem ex_row {M : Mem} {x : PE} {r : List Value} (h : ExAt M x r) : ∃ (op : Int) (kd nm : ByteArray) (va ka : Option Addr) (vn vc kn kc : Nat),r = [.int .i64 op,.string kd,.string nm,.slice va vn vc,.slice ka kn kc]:=by
  obtain ⟨op,kd,nm,vals,va,vn,vc,ka,kn,kc,rows,e,-⟩:=h.parts
  exact ⟨op,kd,nm,va,ka,vn,vc,kn,kc,e⟩
theorem size_list (s : ByteArray) : s.size = s.data.toList.length:=Array.length_toList.symm
end Go.Proofs.YtfffpflflggonaaGreatDoor.src
