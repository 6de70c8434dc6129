/- append of no elements, wherever they would lie, to a row of the call's own. Conditions and values that were read, as they lie in new memory. Rows of the call's own, of texts, values and conditions: appended to, be they none. -/
import Derived.Test.YtfffpflflggonaaGreatDoorKS0
import Derived.Laws.OwnMore
import Derived.Laws.AppendOwnNone
import Derived.Tactics
import Derived.Test.YtfffpflflggonaaGreatDoorKS15
import Derived.Deep.AppendLies
namespace Go
theorem run_append_owned_zero {P : Program} {w : World} (base : Nat) (t ty e : TypeId) (i : TypeInfo) (size : Nat) (ht : P.underlying t = some (.slice e)) (hi : P.info? e = some i)
    (v : Value) (n : Nat) (xs : List Value) (hown : w.ownsRow base e size v n xs) (a : Option Addr) (c : Nat) :
    (Builtin.append_ #[t,t] ty #[v,.slice a 0 c]).run P w = .ok v w:=by
  rcases hown.2 with ⟨rfl,rfl⟩ | ⟨g,cap,cur,rfl,_,_,hnc,_⟩
  · cases a <;> simp [Builtin.append_,run_underlying ht,sizeOf,typeInfo,hi,Builtin.lenOf,Builtin.firstCells,loadCells,loadCellsFrom]
  · cases a <;> simp [Builtin.append_,run_underlying ht,sizeOf,typeInfo,hi,Builtin.lenOf,Builtin.firstCells,hnc,storeCells,loadCells,loadCellsFrom]
theorem wp_append_own_zero {P : Program} {w : World} {o : Oper} {a : Act} {K : Act→World→Prop} {Q : Exit→Act→World→Prop} (s x : Operand) (t : TypeId)
    (ho : o.op = .call { callee:=.builtin .append,args:=#[s,x],argTypes:=#[t,t] })
    (base : Nat) (e : TypeId) (i : TypeInfo) (size : Nat) (ht : P.underlying t = some (.slice e)) (hi : P.info? e = some i)
    (v : Value) (n : Nat) (xs : List Value) (hs : a.eval s = v) (hown : w.ownsRow base e size v n xs) (ad : Option Addr) (c : Nat) (hx : a.eval x = .slice ad 0 c)
    (h : K (a.put o.dst v) w) : o.wp P a w K Q:=by
  have hrun:=run_append_owned_zero (P:=P) (w:=w) base t o.type e i size ht hi v n xs hown ad c
  unfold Oper.wp
  simp [execOp,ho,resolve,invoke,builtin,hs,hx,hrun,Result.andThen]
  exact h
end Go
namespace Go.Proofs.YtfffpflflggonaaGreatDoor
open Go.RowKit
theorem rows_len {M : Mem} {sz : Nat} {a : Option Addr} {n c : Nat} {rows : List (List Value)} (h : RowsAt M sz (.slice a n c) rows) : rows.length = n∧n≤c∧c≤maxLen:=by
  obtain ⟨a',c',h1,h2,h3,-⟩:=h
  injection h1 with h4 h5 h6
  subst h5; subst h6
  exact ⟨rfl,h2,h3⟩
theorem rows_flat {M : Mem} {sz : Nat} {a : Option Addr} {n c : Nat} {rows : List (List Value)} (h : RowsAt M sz (.slice a n c) rows) (hs : ∀ r∈rows,r.length = sz) (hz : 0 < sz) :
    rows = []∨∃ ad,a = some ad∧∀ j v,rows.flatten[j]? = some v→M (ad.add j) = some v:=by
  obtain ⟨a',c',h1,h2,h3,h4⟩:=h
  injection h1 with h5 h6 h7
  subst h5
  rcases h4 with h4 | ⟨blk,off,h5,h8⟩
  · exact Or.inl h4
  · refine Or.inr ⟨⟨blk,off,none⟩,h5,fun j v hj=>?_⟩
    have hjl : j < rows.length * sz:=by
      have:=(List.getElem?_eq_some_iff.1 hj).1
      rw [flat_len sz rows hs] at this
      exact this
    have hq : j / sz < rows.length:=(Nat.div_lt_iff_lt_mul hz).2 hjl
    have hm : j % sz < sz:=Nat.mod_lt _ hz
    have hr : rows[j / sz]? = some rows[j / sz]:=List.getElem?_eq_getElem hq
    have hl : (rows[j / sz]).length = sz:=hs _ (List.getElem_mem hq)
    have hx : (rows[j / sz])[j % sz]? = some (rows[j / sz])[j % sz]:=List.getElem?_eq_getElem (by omega)
    have h9:=flat_get sz rows hs _ _ hr _ _ hx
    have e1 : j / sz * sz + j % sz = j:=by rw [Nat.mul_comm]; exact Nat.div_add_mod j sz
    rw [e1,hj] at h9
    have h10:=h8 _ _ hr _ _ hx
    have e2 : off + j / sz * sz + j % sz = off + j:=by omega
    rw [e2,← h9] at h10
    have e3 : (⟨blk,off,none⟩ : Addr).add j = ⟨blk,off + j,none⟩:=by unfold Addr.add; split <;> simp_all
    rw [e3]
    exact h10
theorem wp_append_rows {P : Program} {w : World} {o : Oper} {a : Act} {K : Act→World→Prop} {Q : Exit→Act→World→Prop} (s x : Operand) (t : TypeId)
    (ho : o.op = .call { callee:=.builtin .append,args:=#[s,x],argTypes:=#[t,t] })
    (base : Nat) (e : TypeId) (i : TypeInfo) (z : Value) (size bytes : Nat) (ht : P.underlying t = some (.slice e)) (hi : P.info? e = some i) (hz : i.zero = some z)
    (hsize : i.size = size) (hby : i.bytes = bytes) (hzs : z.cells.size = size) (hsz : 0 < size)
    (v : Value) (n : Nat) (xs : List Value) (hs : a.eval s = v) (hown : w.ownsRow base e size v n xs)
    (sa : Option Addr) (m c : Nat) (rows : List (List Value)) (M : Mem) (hx : a.eval x = .slice sa m c) (hR : RowsAt M size (.slice sa m c) rows) (hM : Sub M w.cell?) (hr : ∀ r∈rows,r.length = size) (h1 : ∀ u∈rows.flatten,u.oneCell' = true)
    (h63 : n + m≤maxLen) (hbytes : (n + m) * bytes≤140737488355328) (hbase : base≤w.heap.size)
    (h : ∀ v' w',w'.ownsRow base e size v' (n + m) (xs ++ rows.flatten)→w.grownBy w' v.ownBlock→K (a.put o.dst v') w') : o.wp P a w K Q:=by
  have hln:=(rows_len hR).1
  rcases rows_flat hR hr hsz with rfl | ⟨ad,rfl,hc⟩
  · have hm : m = 0:=by rw [← hln]; rfl
    subst hm
    exact wp_append_own_zero s x t ho base e i size ht hi v n xs hs hown sa c hx (h v w (by simpa using hown) (grown_refl _ _))
  · exact wp_append_own w s x t ho base e i z size bytes ht hi hz hsize hby hzs hsz v n xs hs hown ad m c rows.flatten hx (by rw [flat_len size rows hr,hln]) (fun j u hu=>hM _ _ (hc j u hu)) h1 h63 hbytes hbase (fun v' w' h2 h3 _=>h v' w' h2 h3)
theorem wpList_append_rows {P : Program} {w : World} {ops : Array Oper} {rest : List Oper} {o : Oper} {a : Act} {Q : Exit→Act→World→Prop} (hgd : o.guard = none) (s x : Operand) (t : TypeId)
    (ho : o.op = .call { callee:=.builtin .append,args:=#[s,x],argTypes:=#[t,t] })
    (base : Nat) (e : TypeId) (i : TypeInfo) (z : Value) (size bytes : Nat) (ht : P.underlying t = some (.slice e)) (hi : P.info? e = some i) (hz : i.zero = some z)
    (hsize : i.size = size) (hby : i.bytes = bytes) (hzs : z.cells.size = size) (hsz : 0 < size)
    (v : Value) (n : Nat) (xs : List Value) (hs : a.eval s = v) (hown : w.ownsRow base e size v n xs)
    (sa : Option Addr) (m c : Nat) (rows : List (List Value)) (M : Mem) (hx : a.eval x = .slice sa m c) (hR : RowsAt M size (.slice sa m c) rows) (hM : Sub M w.cell?) (hr : ∀ r∈rows,r.length = size) (h1 : ∀ u∈rows.flatten,u.oneCell' = true)
    (h63 : n + m≤maxLen) (hbytes : (n + m) * bytes≤140737488355328) (hbase : base≤w.heap.size)
    (h : ∀ v' w',w'.ownsRow base e size v' (n + m) (xs ++ rows.flatten)→w.grownBy w' v.ownBlock→wpList P ops Q rest (a.put o.dst v') w') : wpList P ops Q (o :: rest) a w :=
  wpList_plain hgd fun _ hK=>wp_append_rows s x t ho base e i z size bytes ht hi hz hsize hby hzs hsz v n xs hs hown sa m c rows M hx hR hM hr h1 h63 hbytes hbase fun v' w' h2 h3=>hK _ _ (h v' w' h2 h3)
end Go.Proofs.YtfffpflflggonaaGreatDoor
namespace Go.Proofs.YtfffpflflggonaaGreatDoor.src
open Go.RowKit lex value text schema draw clause
def nex (B : Nat) (X : List Nat) (w : World) : Mem:=fun p=>if p.block < B∨p.block∈X then none else w.cell? p
theorem nex_some {B : Nat} {X : List Nat} {w : World} {p : Addr} {v : Value} (h : nex B X w p = some v) : B≤p.block∧p.block ∉ X∧w.cell? p = some v:=by
  unfold nex at h
  split at h
  · cases h
  · rename_i hn
    exact ⟨Nat.le_of_not_lt fun e=>hn (Or.inl e),fun e=>hn (Or.inr e),h⟩
theorem nex_mk {B : Nat} {X : List Nat} {w : World} {p : Addr} {v : Value} (h0 : B≤p.block) (h1 : p.block ∉ X) (h2 : w.cell? p = some v) : nex B X w p = some v:=by
  unfold nex
  rw [if_neg (by rintro (e | e); exact absurd h0 (by omega); exact h1 e)]
  exact h2
theorem nex_in (B : Nat) (X : List Nat) (w : World) : Sub (nex B X w) w.cell?:=fun _ _ h=>(nex_some h).2.2
theorem nex_up {B B' : Nat} {X Y : List Nat} (w : World) (hB : B≤B') (h : ∀ k∈X,k∈Y∨k < B') : Sub (nex B' Y w) (nex B X w):=fun _ _ h1 =>
  have h2:=nex_some h1
  nex_mk (Nat.le_trans hB h2.1) (fun e=>(h _ e).elim h2.2.1 (fun e2=>by have:=h2.1; omega)) h2.2.2
theorem nex_grown {B : Nat} {X : List Nat} {w u : World} {r : Option Nat} (g : w.grownBy u r) (hr : ∀ k,r = some k→k∈X∨k < B) : Sub (nex B X w) (nex B X u):=fun _ _ h1 =>
  have h2:=nex_some h1
  nex_mk h2.1 h2.2.1 (g.cell h2.2.2 (fun e=>(hr _ e.symm).elim h2.2.1 (fun e2=>by have:=h2.1; omega)))
theorem nex_new {B : Nat} {X : List Nat} {w u : World} {r : Option Nat} (g : w.grownBy u r) (hr : ∀ k,r = some k→k∈X∨k < B) {Y : List Nat} (hY : ∀ k∈Y,k∈X∨w.heap.size≤k∨k < B) : Sub (nex B X w) (nex B Y u):=fun p _ h1 =>
  have h2:=nex_some h1
  have hl : p.block < w.heap.size:=World.block_lt_of_cell? w _ h2.2.2
  nex_mk h2.1 (fun e=>by rcases hY _ e with e1 | e1 | e1; exact h2.2.1 e1; omega; have:=h2.1; omega) (g.cell h2.2.2 (fun e=>(hr _ e.symm).elim h2.2.1 (fun e2=>by have:=h2.1; omega)))
theorem nex_set {B : Nat} {X : List Nat} {w : World} {q : Nat} {o : Nat} (h : q∈X∨q < B) (v : Value) : Sub (nex B X w) (nex B X (w.setCell ⟨q,o,none⟩ v)):=nex_grown (grown_setCell w q o v) (fun k e=>by cases e; exact h)
theorem nex_one (B g : Nat) (w : World) : nex B [g] w = newM B g w:=by
  funext p
  unfold nex newM
  simp
theorem nex_part {B B' g : Nat} {X : List Nat} (w : World) (hB : B≤B') (h : ∀ k∈X,k = g∨k < B') : Sub (nex B' [g] w) (nex B X w) :=
  nex_up w hB fun k hk=>(h k hk).imp (fun e=>by simp [e]) id
mutual
def pe : ED→PE
  | .mk op kind name vals kids=>.mk op kind.data.toList name.data.toList (vals.map vv) (peL kids)
def peL : List ED→List PE
  | []=>[]
  | k :: r=>pe k :: peL r
end
theorem peL_map : ∀ l : List ED,peL l = l.map pe
  | []=>by rw [peL]; rfl
  | k :: r=>by rw [peL,peL_map r]; rfl
def ExAt (M : Mem) (x : PE) (r : List Value) : Prop:=∃ d,EAt M d r∧pe d = x
theorem ExAt.mono {M N : Mem} (hs : Sub M N) {x : PE} {r : List Value} (h : ExAt M x r) : ExAt N x r:=by
  obtain ⟨d,h1,h2⟩:=h
  exact ⟨d,h1.mono hs,h2⟩
def KidsAt (M : Mem) (xs : List PE) (rows : List (List Value)) : Prop:=rows.length = xs.length∧∀ (i : Nat) (r : List Value) (x : PE),rows[i]? = some r→xs[i]? = some x→ExAt M x r
theorem KidsAt.mono {M N : Mem} (hs : Sub M N) {xs : List PE} {rows : List (List Value)} (h : KidsAt M xs rows) : KidsAt N xs rows:=⟨h.1,fun i r x h1 h2=>(h.2 i r x h1 h2).mono hs⟩
theorem KidsAt.nil (M : Mem) : KidsAt M [] []:=⟨rfl,fun i r x h=>by simp at h⟩
theorem KidsAt.append {M : Mem} {xs ys : List PE} {rx ry : List (List Value)} (h1 : KidsAt M xs rx) (h2 : KidsAt M ys ry) : KidsAt M (xs ++ ys) (rx ++ ry):=by
  refine ⟨by rw [List.length_append,List.length_append,h1.1,h2.1],fun i r x e1 e2=>?_⟩
  rcases Nat.lt_or_ge i rx.length with h | h
  · rw [List.getElem?_append_left h] at e1
    rw [List.getElem?_append_left (by rw [← h1.1]; exact h)] at e2
    exact h1.2 i r x e1 e2
  · rw [List.getElem?_append_right h] at e1
    rw [List.getElem?_append_right (by rw [← h1.1]; exact h),← h1.1] at e2
    exact h2.2 _ r x e1 e2
theorem KidsAt.one {M : Mem} {x : PE} {r : List Value} (h : ExAt M x r) : KidsAt M [x] [r]:=by
  refine ⟨rfl,fun i r' x' e1 e2=>?_⟩
  match i,e1,e2 with
  | 0,e1,e2 =>
    injection e1 with e1; injection e2 with e2
    subst e1; subst e2
    exact h
  | i + 1,e1,_=>simp at e1
theorem KidsAt.data {M : Mem} : ∀ {xs : List PE} {rows : List (List Value)},KidsAt M xs rows→∃ ds : List ED,ds.length = rows.length∧peL ds = xs∧∀ (i : Nat) (r : List Value) (k : ED),rows[i]? = some r→ds[i]? = some k→EAt M k r
  | [],rows,h=>by
    have : rows = []:=List.eq_nil_of_length_eq_zero h.1
    subst this
    exact ⟨[],rfl,by rw [peL],fun i r k e=>by simp at e⟩
  | x :: xs,[],h=>by have:=h.1; simp at this
  | x :: xs,r :: rows,h=>by
    obtain ⟨d,h1,h2⟩:=h.2 0 r x rfl rfl
    obtain ⟨ds,h3,h4,h5⟩:=KidsAt.data (xs:=xs) (rows:=rows) ⟨by have:=h.1; simpa using this,fun i r x e1 e2=>h.2 (i + 1) r x (by simpa using e1) (by simpa using e2)⟩
    refine ⟨d :: ds,by simp [h3],by rw [peL,h2,h4],fun i r' k e1 e2=>?_⟩
    match i,e1,e2 with
    | 0,e1,e2 =>
      injection e1 with e1; injection e2 with e2
      subst e1; subst e2
      exact h1
    | i + 1,e1,e2=>exact h5 i r' k (by simpa using e1) (by simpa using e2)
theorem ExAt.make {M : Mem} {op : Int} {kd nm : ByteArray} {vals : List VD} {vs ks : Value} {xs : List PE} {rows : List (List Value)} (hv : RowsAt M 4 vs (vals.map VD.row)) (hL : ∀ v∈vals,LAt M v) (hk : RowsAt M 5 ks rows) (hx : KidsAt M xs rows) :
    ExAt M (.mk op kd.data.toList nm.data.toList (vals.map vv) xs) [.int .i64 op,.string kd,.string nm,vs,ks]:=by
  obtain ⟨ds,h1,h2,h3⟩:=hx.data
  exact ⟨.mk op kd nm vals ds,.mk rows hv hk h1.symm hL h3,by rw [pe,h2]⟩
theorem ExAt.parts {M : Mem} {x : PE} {r : List Value} (h : ExAt M x r) : ∃ (op : Int) (kd nm : ByteArray) (vals : List VD) (va : Option Addr) (vn vc : Nat) (ka : Option Addr) (kn kc : Nat) (rows : List (List Value)),
    r = [.int .i64 op,.string kd,.string nm,.slice va vn vc,.slice ka kn kc]∧x = .mk op kd.data.toList nm.data.toList (vals.map vv) x.kids∧RowsAt M 4 (.slice va vn vc) (vals.map VD.row)∧(∀ v∈vals,LAt M v)∧RowsAt M 5 (.slice ka kn kc) rows∧KidsAt M x.kids rows:=by
  obtain ⟨d,h1,rfl⟩:=h
  cases h1 with
  | @mk op kind name vals kids vs ks rows hv hk hl hL h =>
    obtain ⟨va,vc,e1,e2⟩:=hv
    obtain ⟨ka,kc,e3,e4⟩:=hk
    subst e1; subst e3
    refine ⟨op,kind,name,vals,va,_,vc,ka,_,kc,rows,rfl,by rw [pe]; rfl,⟨va,vc,rfl,e2⟩,hL,⟨ka,kc,rfl,e4⟩,?_⟩
    rw [pe]
    show KidsAt M (peL kids) rows
    rw [peL_map]
    refine ⟨by rw [List.length_map,hl],fun i r x e1 e2=>?_⟩
    rw [List.getElem?_map] at e2
    obtain ⟨k,hk1,hk2⟩:=Option.map_eq_some_iff.1 e2
    exact ⟨k,h i r k e1 hk1,hk2⟩
theorem ExAt.len {M : Mem} {x : PE} {r : List Value} (h : ExAt M x r) : r.length = 5:=by
  obtain ⟨op,kd,nm,vals,va,vn,vc,ka,kn,kc,rows,rfl,-⟩:=h.parts
  rfl
theorem ExAt.one {M : Mem} {x : PE} {r : List Value} (h : ExAt M x r) : ∀ u∈r,u.oneCell' = true:=by
  obtain ⟨op,kd,nm,vals,va,vn,vc,ka,kn,kc,rows,rfl,-⟩:=h.parts
  intro u hu
  simp only [List.mem_cons,List.not_mem_nil,or_false] at hu
  rcases hu with rfl | rfl | rfl | rfl | rfl <;> rfl
theorem KidsAt.each {M : Mem} {xs : List PE} {rows : List (List Value)} (h : KidsAt M xs rows) {r : List Value} (hr : r∈rows) : ∃ x,ExAt M x r:=by
  obtain ⟨i,hi,rfl⟩:=List.getElem_of_mem hr
  exact ⟨xs[i]'(by rw [← h.1]; exact hi),h.2 i _ _ (List.getElem?_eq_getElem hi) (List.getElem?_eq_getElem _)⟩
theorem KidsAt.five {M : Mem} {xs : List PE} {rows : List (List Value)} (h : KidsAt M xs rows) : ∀ r∈rows,r.length = 5:=fun r hr=>by
  obtain ⟨x,hx⟩:=h.each hr
  exact hx.len
theorem KidsAt.flat1 {M : Mem} {xs : List PE} {rows : List (List Value)} (h : KidsAt M xs rows) : ∀ u∈rows.flatten,u.oneCell' = true:=fun u hu=>by
  obtain ⟨r,hr,hu⟩:=List.mem_flatten.1 hu
  obtain ⟨x,hx⟩:=h.each hr
  exact hx.one u hu
def ExIs (B g K : Nat) (x : PE) (e : Ending) (w : World) : Prop:=∃ r,e = .returned (.agg r.toArray)∧ExAt (nex B [g] w) x r∧x.kids.length≤K
def ValIs (B g : Nat) (v : VV) (e : Ending) (w : World) : Prop:=∃ d : VD,e = .returned (.agg d.row.toArray)∧LAt (nex B [g] w) d∧vv d = v
def ValsIs (B g : Nat) (l : List VV) (e : Ending) (w : World) : Prop:=∃ (a : Option Addr) (n c : Nat) (ds : List VD),e = .returned (.slice a n c)∧RowsAt (nex B [g] w) 4 (.slice a n c) (ds.map VD.row)∧(∀ d∈ds,LAt (nex B [g] w) d)∧ds.map vv = l
def TxtsIs (B g : Nat) (l : List (List UInt8)) (e : Ending) (w : World) : Prop:=∃ (a : Option Addr) (n c : Nat) (ds : List ByteArray),e = .returned (.slice a n c)∧RowsAt (nex B [g] w) 1 (.slice a n c) (ds.map strRow)∧lsL ds = l∧ds.length≤30001
end Go.Proofs.YtfffpflflggonaaGreatDoor.src
namespace Go.Proofs.YtfffpflflggonaaGreatDoor.src
open Go.RowKit Go.Deep lex value text schema draw clause
def RO (e : TypeId) (sz B : Nat) (v : Value) (L : List (List Value)) (w : World) : Prop:=w.ownsRow B e sz v L.length L.flatten
section
variable {e : TypeId} {sz B : Nat} {v : Value} {L : List (List Value)} {w u : World}
theorem RO.out (h : RO e sz B v L w) : w.ownsRow B e sz v L.length L.flatten:=h
theorem ro_nil (e : TypeId) (sz B : Nat) (w : World) : RO e sz B (.slice none 0 0) [] w:=World.ownsRow_nil w B _ _
theorem RO.kept {r : Option Nat} (h : RO e sz B v L w) (g : w.grownBy u r) (hr : ∀ x,r = some x→x < B) : RO e sz B v L u:=by
  have ho:=h.out
  refine ho.kept g ?_
  cases hv : v.ownBlock with
  | none=>exact Or.inl rfl
  | some k=>exact Or.inr (fun e=>by have:=(ho.lt k hv).1; have:=hr k e.symm; omega)
theorem RO.below (h : RO e sz B v L w) (hb : Below w.heap.size w u) : RO e sz B v L u:=h.kept (grown_of_below hb none) (fun x e=>by cases e)
theorem RO.set (h : RO e sz B v L w) {q i : Nat} (hq : q < B) (x : Value) : RO e sz B v L (w.setCell ⟨q,i,none⟩ x):=h.kept (grown_setCell w q i x) (fun y e=>by cases e; exact hq)
theorem RO.rows (h : RO e sz B v L w) (hs : ∀ r∈L,r.length = sz) : RowsAt w.cell? sz v L:=rows_of_owns h.out L rfl hs rfl
theorem ro_form (h : RO e sz B v L w) (hs : ∀ r∈L,r.length = sz) : ∃ a c,v = .slice a L.length c:=by
  obtain ⟨a,c,h1,-⟩:=h.rows hs
  exact ⟨a,c,h1⟩
theorem RO.new {g : Nat} (h : RO e sz B v L w) (hs : ∀ r∈L,r.length = sz) (hg : g < B) : RowsAt (nex B [g] w) sz v L:=by
  rw [nex_one]
  exact rows_of_owns_new h.out (Nat.le_refl _) hg L rfl hs rfl
theorem RO.below_own (h : RO e sz B v L w) (hB : B≤w.heap.size) (g : w.grownBy u v.ownBlock) : Below B w u :=
  (Below.refl B w).grown g hB (fun k hk=>(h.out.lt k hk).1)
theorem ro_one (w : World) (cs : Array Value) (hB : B≤w.heap.size) (hs : cs.size = sz) : RO e sz B (.slice (some ⟨w.heap.size,0,none⟩) 1 1) [cs.toList] (w.alloc (.cells cs e)):=by
  have:=World.ownsRow_lit (e:=e) w cs 1 hB (by decide) (by rw [hs,Nat.one_mul])
  show World.ownsRow _ B e sz _ 1 ([cs.toList].flatten)
  simpa using this
theorem lit_rows {g : Nat} {cs : List Value} (h : ∀ j,w.cell? ⟨g,j,none⟩ = cs[j]?) : RowsAt w.cell? sz (.slice (some ⟨g,0,none⟩) 1 1) [cs]:=by
  refine ⟨_,1,rfl,by simp,by decide,Or.inr ⟨g,0,rfl,fun i r hr j x hx=>?_⟩⟩
  match i,hr with
  | 0,hr =>
    injection hr with hr
    subst hr
    rw [Nat.zero_mul,Nat.add_zero,Nat.zero_add,h j]
    exact hx
  | i + 1,hr=>simp at hr
end
theorem wp_append_rowsA {P : Program} {w : World} {o : Oper} {a : Act} {K : Act→World→Prop} {Q : Exit→Act→World→Prop} (s x : Operand) (t : TypeId)
    (ho : o.op = .call { callee:=.builtin .append,args:=#[s,x],argTypes:=#[t,t] })
    (base : Nat) (e : TypeId) (i : TypeInfo) (z : Value) (size bytes : Nat) (ht : P.underlying t = some (.slice e)) (hi : P.info? e = some i) (hz : i.zero = some z)
    (hsize : i.size = size) (hby : i.bytes = bytes) (hzs : z.cells.size = size) (hsz : 0 < size)
    (v : Value) (n : Nat) (xs : List Value) (hs : a.eval s = v) (hown : w.ownsRow base e size v n xs)
    (sa : Option Addr) (m c : Nat) (rows : List (List Value)) (hx : a.eval x = .slice sa m c) (hR : RowsAt w.cell? size (.slice sa m c) rows) (hr : ∀ r∈rows,r.length = size) (h1 : ∀ u∈rows.flatten,u.oneCell' = true)
    (h63 : n + m≤maxLen) (hbytes : (n + m) * bytes≤140737488355328) (hbase : base≤w.heap.size)
    (h : ∀ v' w',w'.ownsRow base e size v' (n + m) (xs ++ rows.flatten)→w.grownBy w' v.ownBlock→(∀ k,v'.ownBlock = some k→v.ownBlock = some k∨k = w.heap.size)→K (a.put o.dst v') w') : o.wp P a w K Q:=by
  have hln:=(rows_len hR).1
  rcases rows_flat hR hr hsz with rfl | ⟨ad,rfl,hc⟩
  · have hm : m = 0:=by rw [← hln]; rfl
    subst hm
    exact wp_append_own_zero s x t ho base e i size ht hi v n xs hs hown sa c hx (h v w (by simpa using hown) (grown_refl _ _) (fun k hk=>Or.inl hk))
  · rcases Nat.eq_zero_or_pos m with rfl | hm
    · have hnil : rows = []:=List.eq_nil_of_length_eq_zero hln
      subst hnil
      exact wp_append_own_zero s x t ho base e i size ht hi v n xs hs hown (some ad) c hx (h v w (by simpa using hown) (grown_refl _ _) (fun k hk=>Or.inl hk))
    · exact wp_append_lies w s x t ho base e i z size bytes ht hi hz hsize hby hzs hsz v n xs hs hown ad m c rows.flatten hx (by rw [flat_len size rows hr,hln]) hc h1 hm h63 hbytes hbase _ rfl fun g cap w' h2 h3 h4 _=>h _ w' h2 h3 fun k hk=>by
        have e1 : g = k:=by simpa [Value.ownBlock] using hk
        rw [← e1]
        exact h4
set_option maxRecDepth 100000 in
theorem infoS7 : (Tryz.prog.info? 9).map (fun i=>(i.zero,i.size,i.bytes)) = some (some (.string ⟨#[]⟩),1,16):=by kernel_rfl
theorem wpList_append_str {ops : Array Oper} {rest : List Oper} {o : Oper} {a : Act} {Q : Exit→Act→World→Prop} {w : World} (hgd : o.guard = none) (s x : Operand)
    (ho : o.op = .call { callee:=.builtin .append,args:=#[s,x],argTypes:=#[38,38] })
    (B : Nat) (va : Option Addr) (n vc : Nat) (L : List (List Value)) (hs : a.eval s = .slice va n vc) (hown : RO 9 1 B (.slice va n vc) L w) (h5 : ∀ r∈L,r.length = 1) (hn : n = L.length)
    (sa : Option Addr) (m c : Nat) (L2 : List (List Value)) (hx : a.eval x = .slice sa m c) (hR : RowsAt w.cell? 1 (.slice sa m c) L2) (h52 : ∀ r∈L2,r.length = 1) (h1 : ∀ u∈L2.flatten,u.oneCell' = true)
    (hl : n + m≤1099511627776) (hB : B≤w.heap.size)
    (h : ∀ va' vc' w',RO 9 1 B (.slice va' (n + m) vc') (L ++ L2) w'→n + m = (L ++ L2).length→w.grownBy w' (Value.slice va n vc).ownBlock→(∀ k,(Value.slice va' (n + m) vc').ownBlock = some k→(Value.slice va n vc).ownBlock = some k∨k = w.heap.size)→wpList Tryz.prog ops Q rest (a.put o.dst (.slice va' (n + m) vc')) w') :
    wpList Tryz.prog ops Q (o :: rest) a w:=by
  subst hn
  have hm:=(rows_len hR).1
  subst hm
  obtain ⟨i0,hi,hz0,hz1,hz2⟩:=info_parts infoS7
  refine wpList_plain hgd fun K hK=>?_
  refine wp_append_rowsA s x _ ho B 9 i0 (.string ⟨#[]⟩) 1 16 Tryz.underlying38 hi hz0 hz1 hz2 rfl (by decide) (.slice va L.length vc) L.length L.flatten hs hown.out sa L2.length c L2 hx hR h52 h1 (by unfold maxLen; omega) (by omega) hB ?_
  intro v' w' h2 h3 h4
  have e1 : L.flatten ++ L2.flatten = (L ++ L2).flatten:=by rw [List.flatten_append]
  have e2 : L.length + L2.length = (L ++ L2).length:=by simp
  rw [e1] at h2
  have hbs : RO 9 1 B v' (L ++ L2) w':=by
    show w'.ownsRow B _ 1 _ (L ++ L2).length _
    rw [← e2]
    exact h2
  obtain ⟨va',vc',rfl⟩:=ro_form hbs (fun r hr=>(List.mem_append.1 hr).elim (h5 r) (h52 r))
  rw [← e2] at hbs h4 ⊢
  exact hK _ _ (h va' vc' w' hbs e2 h3 h4)
set_option maxRecDepth 100000 in
theorem infoV7 : (Tryz.prog.info? 76).map (fun i=>(i.zero,i.size,i.bytes)) = some (some (.agg #[.int .i64 0,.int .i64 0,.string ⟨#[]⟩,.slice none 0 0]),4,56):=by kernel_rfl
theorem wpList_append_val {ops : Array Oper} {rest : List Oper} {o : Oper} {a : Act} {Q : Exit→Act→World→Prop} {w : World} (hgd : o.guard = none) (s x : Operand)
    (ho : o.op = .call { callee:=.builtin .append,args:=#[s,x],argTypes:=#[28,28] })
    (B : Nat) (va : Option Addr) (n vc : Nat) (L : List (List Value)) (hs : a.eval s = .slice va n vc) (hown : RO 76 4 B (.slice va n vc) L w) (h5 : ∀ r∈L,r.length = 4) (hn : n = L.length)
    (sa : Option Addr) (m c : Nat) (L2 : List (List Value)) (hx : a.eval x = .slice sa m c) (hR : RowsAt w.cell? 4 (.slice sa m c) L2) (h52 : ∀ r∈L2,r.length = 4) (h1 : ∀ u∈L2.flatten,u.oneCell' = true)
    (hl : n + m≤1099511627776) (hB : B≤w.heap.size)
    (h : ∀ va' vc' w',RO 76 4 B (.slice va' (n + m) vc') (L ++ L2) w'→n + m = (L ++ L2).length→w.grownBy w' (Value.slice va n vc).ownBlock→(∀ k,(Value.slice va' (n + m) vc').ownBlock = some k→(Value.slice va n vc).ownBlock = some k∨k = w.heap.size)→wpList Tryz.prog ops Q rest (a.put o.dst (.slice va' (n + m) vc')) w') :
    wpList Tryz.prog ops Q (o :: rest) a w:=by
  subst hn
  have hm:=(rows_len hR).1
  subst hm
  obtain ⟨i0,hi,hz0,hz1,hz2⟩:=info_parts infoV7
  refine wpList_plain hgd fun K hK=>?_
  refine wp_append_rowsA s x _ ho B 76 i0 (.agg #[.int .i64 0,.int .i64 0,.string ⟨#[]⟩,.slice none 0 0]) 4 56 Tryz.underlying28 hi hz0 hz1 hz2 rfl (by decide) (.slice va L.length vc) L.length L.flatten hs hown.out sa L2.length c L2 hx hR h52 h1 (by unfold maxLen; omega) (by omega) hB ?_
  intro v' w' h2 h3 h4
  have e1 : L.flatten ++ L2.flatten = (L ++ L2).flatten:=by rw [List.flatten_append]
  have e2 : L.length + L2.length = (L ++ L2).length:=by simp
  rw [e1] at h2
  have hbs : RO 76 4 B v' (L ++ L2) w':=by
    show w'.ownsRow B _ 4 _ (L ++ L2).length _
    rw [← e2]
    exact h2
  obtain ⟨va',vc',rfl⟩:=ro_form hbs (fun r hr=>(List.mem_append.1 hr).elim (h5 r) (h52 r))
  rw [← e2] at hbs h4 ⊢
  exact hK _ _ (h va' vc' w' hbs e2 h3 h4)
set_option maxRecDepth 100000 in
theorem infoE7 : (Tryz.prog.info? 31).map (fun i=>(i.zero,i.size,i.bytes)) = some (some (.agg #[.int .i64 0,.string ⟨#[]⟩,.string ⟨#[]⟩,.slice none 0 0,.slice none 0 0]),5,88):=by kernel_rfl
theorem wpList_append_exp {ops : Array Oper} {rest : List Oper} {o : Oper} {a : Act} {Q : Exit→Act→World→Prop} {w : World} (hgd : o.guard = none) (s x : Operand)
    (ho : o.op = .call { callee:=.builtin .append,args:=#[s,x],argTypes:=#[29,29] })
    (B : Nat) (va : Option Addr) (n vc : Nat) (L : List (List Value)) (hs : a.eval s = .slice va n vc) (hown : RO 31 5 B (.slice va n vc) L w) (h5 : ∀ r∈L,r.length = 5) (hn : n = L.length)
    (sa : Option Addr) (m c : Nat) (L2 : List (List Value)) (hx : a.eval x = .slice sa m c) (hR : RowsAt w.cell? 5 (.slice sa m c) L2) (h52 : ∀ r∈L2,r.length = 5) (h1 : ∀ u∈L2.flatten,u.oneCell' = true)
    (hl : n + m≤1099511627776) (hB : B≤w.heap.size)
    (h : ∀ va' vc' w',RO 31 5 B (.slice va' (n + m) vc') (L ++ L2) w'→n + m = (L ++ L2).length→w.grownBy w' (Value.slice va n vc).ownBlock→(∀ k,(Value.slice va' (n + m) vc').ownBlock = some k→(Value.slice va n vc).ownBlock = some k∨k = w.heap.size)→wpList Tryz.prog ops Q rest (a.put o.dst (.slice va' (n + m) vc')) w') :
    wpList Tryz.prog ops Q (o :: rest) a w:=by
  subst hn
  have hm:=(rows_len hR).1
  subst hm
  obtain ⟨i0,hi,hz0,hz1,hz2⟩:=info_parts infoE7
  refine wpList_plain hgd fun K hK=>?_
  refine wp_append_rowsA s x _ ho B 31 i0 (.agg #[.int .i64 0,.string ⟨#[]⟩,.string ⟨#[]⟩,.slice none 0 0,.slice none 0 0]) 5 88 Tryz.underlying29 hi hz0 hz1 hz2 rfl (by decide) (.slice va L.length vc) L.length L.flatten hs hown.out sa L2.length c L2 hx hR h52 h1 (by unfold maxLen; omega) (by omega) hB ?_
  intro v' w' h2 h3 h4
  have e1 : L.flatten ++ L2.flatten = (L ++ L2).flatten:=by rw [List.flatten_append]
  have e2 : L.length + L2.length = (L ++ L2).length:=by simp
  rw [e1] at h2
  have hbs : RO 31 5 B v' (L ++ L2) w':=by
    show w'.ownsRow B _ 5 _ (L ++ L2).length _
    rw [← e2]
    exact h2
  obtain ⟨va',vc',rfl⟩:=ro_form hbs (fun r hr=>(List.mem_append.1 hr).elim (h5 r) (h52 r))
  rw [← e2] at hbs h4 ⊢
  exact hK _ _ (h va' vc' w' hbs e2 h3 h4)
theorem step_append_exp {ops : Array Oper} {o : Oper} {a : Act} {K : Act→World→Prop} {Q : Exit→Act→World→Prop} {E : Prop} {w : World} (hgd : o.guard = none) (s x : Operand)
    (ho : o.op = .call { callee:=.builtin .append,args:=#[s,x],argTypes:=#[29,29] })
    (B : Nat) (va : Option Addr) (n vc : Nat) (L : List (List Value)) (hs : a.eval s = .slice va n vc) (hown : RO 31 5 B (.slice va n vc) L w) (h5 : ∀ r∈L,r.length = 5) (hn : n = L.length)
    (sa : Option Addr) (m c : Nat) (L2 : List (List Value)) (hx : a.eval x = .slice sa m c) (hR : RowsAt w.cell? 5 (.slice sa m c) L2) (h52 : ∀ r∈L2,r.length = 5) (h1 : ∀ u∈L2.flatten,u.oneCell' = true)
    (hl : n + m≤1099511627776) (hB : B≤w.heap.size)
    (h : ∀ va' vc' w',RO 31 5 B (.slice va' (n + m) vc') (L ++ L2) w'→n + m = (L ++ L2).length→w.grownBy w' (Value.slice va n vc).ownBlock→(∀ k,(Value.slice va' (n + m) vc').ownBlock = some k→(Value.slice va n vc).ownBlock = some k∨k = w.heap.size)→K (a.put o.dst (.slice va' (n + m) vc')) w') :
    if Region.wanted o (yielded ops a.tmps) = true then Oper.wp Tryz.prog o a w K Q else E:=by
  have hw : Region.wanted o (yielded ops a.tmps) = true:=by simp [Region.wanted,hgd]
  rw [if_pos hw]
  subst hn
  have hm:=(rows_len hR).1
  subst hm
  obtain ⟨i0,hi,hz0,hz1,hz2⟩:=info_parts infoE7
  refine wp_append_rowsA s x _ ho B 31 i0 (.agg #[.int .i64 0,.string ⟨#[]⟩,.string ⟨#[]⟩,.slice none 0 0,.slice none 0 0]) 5 88 Tryz.underlying29 hi hz0 hz1 hz2 rfl (by decide) (.slice va L.length vc) L.length L.flatten hs hown.out sa L2.length c L2 hx hR h52 h1 (by unfold maxLen; omega) (by omega) hB ?_
  intro v' w' h2 h3 h4
  have e1 : L.flatten ++ L2.flatten = (L ++ L2).flatten:=by rw [List.flatten_append]
  have e2 : L.length + L2.length = (L ++ L2).length:=by simp
  rw [e1] at h2
  have hbs : RO 31 5 B v' (L ++ L2) w':=by
    show w'.ownsRow B _ 5 _ (L ++ L2).length _
    rw [← e2]
    exact h2
  obtain ⟨va',vc',rfl⟩:=ro_form hbs (fun r hr=>(List.mem_append.1 hr).elim (h5 r) (h52 r))
  rw [← e2] at hbs h4 ⊢
  exact h va' vc' w' hbs e2 h3 h4
end Go.Proofs.YtfffpflflggonaaGreatDoor.src
