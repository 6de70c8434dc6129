/- Plain words on memory that all walks of this seat share: what stays when a block of the draws is written, what a slice of rows holds. Small words that all walks over texts share. The reference's Number: the decimal form of any number. -/
import Derived.WalkKit
import Derived.WalkSpells
import Derived.BigQuiet
import Derived.Test.YtfffpflflggonaaGreatDoorChecked
import Derived.WalkLawsBesides
import Derived.Deep.QuietTactic
import Derived.Lib.Hide
import Derived.LoopTactic
import Derived.Outline
import Derived.Laws.Runes
import Derived.Lib.ItoaNum
namespace Go.Proofs.YtfffpflflggonaaGreatDoor
open Go.RowKit
def IntIn (lo hi : Int) (e : Ending) : Prop:=∃ m : Int,e = .returned (.int .i64 m)∧lo≤m∧m < hi
abbrev Mem:=Addr→Option Value
def Sub (m m' : Mem) : Prop:=∀ p v,m p = some v→m' p = some v
theorem Sub.refl (m : Mem) : Sub m m:=fun _ _ h=>h
theorem Sub.trans {a b c : Mem} (h : Sub a b) (k : Sub b c) : Sub a c:=fun p v hp=>k p v (h p v hp)
def but (b : Nat) (w : World) : Mem:=fun p=>if p.block = b then none else w.cell? p
theorem but_sub (b : Nat) (w : World) : Sub (but b w) w.cell?:=by
  intro p v h
  unfold but at h
  split at h
  · cases h
  · exact h
theorem grown_trans {a b c : World} {r : Option Nat} (h : a.grownBy b r) (k : b.grownBy c r) : a.grownBy c r :=
  ⟨k.os.trans h.os,k.tape.trans h.tape,k.output.trans h.output,Nat.le_trans h.size k.size,
    fun i hi hne=>(k.block i (Nat.lt_of_lt_of_le hi h.size) hne).trans (h.block i hi hne)⟩
theorem grown_refl (w : World) (r : Option Nat) : w.grownBy w r:=⟨rfl,rfl,rfl,Nat.le_refl _,fun _ _ _=>rfl⟩
theorem grown_none {a b : World} (h : a.grownBy b none) (r : Option Nat) : a.grownBy b r :=
  ⟨h.os,h.tape,h.output,h.size,fun i hi _=>h.block i hi (by simp)⟩
theorem grown_of_below {a b : World} (h : Below a.heap.size a b) (r : Option Nat) : a.grownBy b r :=
  ⟨h.os,h.tape,h.output,h.size,fun i hi _=>h.block i hi⟩
theorem below_of_grown {a b : World} {r : Nat} {B : Nat} (h : a.grownBy b (some r)) (hB : B≤a.heap.size) (hr : B≤r) : Below B a b :=
  ⟨h.os,h.tape,h.output,h.size,fun i hi=>h.block i (by omega) (by intro e; cases e; omega)⟩
theorem grown_drew (w : World) (r : Option Nat) : w.grownBy w.drew r:=⟨rfl,rfl,rfl,Nat.le_refl _,fun _ _ _=>rfl⟩
theorem grown_drewN (w : World) (n : Nat) (r : Option Nat) : w.grownBy (w.drewN n) r:=⟨rfl,rfl,rfl,Nat.le_refl _,fun _ _ _=>rfl⟩
theorem sub_of_grown {a c : World} {b : Nat} (h : a.grownBy c (some b)) : Sub (but b a) (but b c):=by
  intro p v hp
  unfold but at hp ⊢
  split at hp
  · cases hp
  · rename_i hne
    rw [if_neg hne]
    exact h.cell hp (by intro e; cases e; exact hne rfl)
theorem sub_of_below {a c : World} (h : Below a.heap.size a c) : Sub a.cell? c.cell?:=by
  intro p v hp
  exact (h.cell (World.block_lt_of_cell? a p hp)).trans hp
def RowsAt (m : Mem) (sz : Nat) (v : Value) (rows : List (List Value)) : Prop :=
  ∃ a c,v = .slice a rows.length c∧rows.length≤c∧c≤maxLen∧(rows = []∨∃ blk off,a = some ⟨blk,off,none⟩∧∀ i r,rows[i]? = some r→∀ j x,r[j]? = some x→m ⟨blk,off + i * sz + j,none⟩ = some x)
theorem RowsAt.mono {m m' : Mem} (hs : Sub m m') {sz : Nat} {v : Value} {rows : List (List Value)} (h : RowsAt m sz v rows) : RowsAt m' sz v rows:=by
  obtain ⟨a,c,h1,h2,h3,h4⟩:=h
  refine ⟨a,c,h1,h2,h3,?_⟩
  rcases h4 with h4 | ⟨blk,off,h5,h6⟩
  · exact Or.inl h4
  · exact Or.inr ⟨blk,off,h5,fun i r hi j x hx=>hs _ _ (h6 i r hi j x hx)⟩
theorem RowsAt.cells_mono {m m' : Mem} (hs : Sub m m') {rows : List (List Value)} {blk off sz : Nat} (h : ∀ i r,rows[i]? = some r→∀ j x,r[j]? = some x→m ⟨blk,off + i * sz + j,none⟩ = some x) :
    ∀ i r,rows[i]? = some r→∀ j x,r[j]? = some x→m' ⟨blk,off + i * sz + j,none⟩ = some x:=fun i r hi j x hx=>hs _ _ (h i r hi j x hx)
theorem g_alloc {w u : World} {r : Option Nat} (h : w.grownBy u r) (o : Obj) : w.grownBy (u.alloc o) r :=
  grown_trans h (World.grownBy_alloc u o r)
theorem g_drew {w u : World} {r : Option Nat} (h : w.grownBy u r) : w.grownBy u.drew r:=grown_trans h (grown_drew u r)
theorem g_setCell {w u : World} {r : Option Nat} (h : w.grownBy u r) {p : Addr} (hp : w.heap.size≤p.block) (v : Value) : w.grownBy (u.setCell p v) r :=
  ⟨h.os,h.tape,h.output,by have:=h.size; simp [World.setCell]; omega,fun k hk hne=>(Below.heap_setCell u p v k (by omega)).trans (h.block k hk hne)⟩
theorem g_call {w u v : World} {r : Option Nat} (h : w.grownBy u r) (k : u.grownBy v r) : w.grownBy v r:=grown_trans h k
theorem g_below {w u v : World} {r : Option Nat} (h : w.grownBy u r) (k : Below u.heap.size u v) : w.grownBy v r:=grown_trans h (grown_of_below k r)
theorem g_own {w u v : World} {r row : Option Nat} (h : w.grownBy u r) (k : u.grownBy v row) (hr : ∀ i,row = some i→w.heap.size≤i) : w.grownBy v r :=
  ⟨k.os.trans h.os,k.tape.trans h.tape,k.output.trans h.output,Nat.le_trans h.size k.size,
    fun i hi hne=>(k.block i (Nat.lt_of_lt_of_le hi h.size) (by intro e; have:=hr i e.symm; omega)).trans (h.block i hi hne)⟩
def Own (w : World) (n : Nat) (A : Array Value) (t : TypeId) : Prop:=w.heap[n]? = some (.cells A t (0,0))
theorem Own.new (w : World) (A : Array Value) (t : TypeId) : Own (w.alloc (.cells A t)) w.heap.size A t:=heap_alloc_new w _
theorem Own.new' {w : World} {A : Array Value} {t : TypeId} {n : Nat} (h : n = w.heap.size) : Own (w.alloc (.cells A t)) n A t:=by rw [h]; exact Own.new w A t
theorem Own.lt {w : World} {n : Nat} {A : Array Value} {t : TypeId} (h : Own w n A t) : n < w.heap.size:=by
  rcases Nat.lt_or_ge n w.heap.size with hl | hl
  · exact hl
  · unfold Own at h; rw [Array.getElem?_eq_none (by omega)] at h; cases h
theorem Own.kept {w u : World} {n : Nat} {A : Array Value} {t : TypeId} {r : Option Nat} (h : Own w n A t) (g : w.grownBy u r) (hr : r ≠ some n) : Own u n A t :=
  (g.block n h.lt (fun e=>hr e.symm)).trans h
theorem Own.below {w u : World} {n B : Nat} {A : Array Value} {t : TypeId} (h : Own w n A t) (g : Below B w u) (hr : n < B) : Own u n A t :=
  (g.block n hr).trans h
theorem Own.alloc {w : World} {n : Nat} {A : Array Value} {t : TypeId} (h : Own w n A t) (o : Obj) : Own (w.alloc o) n A t:=h.kept (World.grownBy_alloc w o none) (by simp)
theorem Own.drewN {w : World} {n : Nat} {A : Array Value} {t : TypeId} (h : Own w n A t) (q : Nat) : Own (w.drewN q) n A t:=h
theorem Own.drew {w : World} {n : Nat} {A : Array Value} {t : TypeId} (h : Own w n A t) : Own w.drew n A t:=h
theorem Own.cell {w : World} {n : Nat} {A : Array Value} {t : TypeId} (h : Own w n A t) (i : Nat) : w.cell? ⟨n,i,none⟩ = A[i]?:=by
  unfold Own at h; simp [World.cell?,h]
theorem Own.free {w : World} {n : Nat} {A : Array Value} {t : TypeId} (h : Own w n A t) (i : Nat) : w.frozen? ⟨n,i,none⟩ = false:=by
  unfold Own at h; simp [World.frozen?,h]
theorem Own.set {w : World} {n : Nat} {A : Array Value} {t : TypeId} (h : Own w n A t) (i : Nat) (v : Value) : Own (w.setCell ⟨n,i,none⟩ v) n (A.setIfInBounds i v) t:=by
  unfold Own at *; simp [World.setCell,Array.getElem?_modify,h]
theorem Own.setOther {w : World} {n : Nat} {A : Array Value} {t : TypeId} (h : Own w n A t) {p : Addr} (hp : n ≠ p.block) (v : Value) : Own (w.setCell p v) n A t :=
  (Below.heap_setCell w p v n hp).trans h
theorem owns_slice {w : World} {base : Nat} {e : TypeId} {size : Nat} {v : Value} {n : Nat} {xs : List Value} (h : w.ownsRow base e size v n xs) : ∃ a c,v = .slice a n c:=by
  rcases h.2 with ⟨rfl,rfl⟩ | ⟨g,cap,cur,rfl,_⟩
  · exact ⟨_,_,rfl⟩
  · exact ⟨_,_,rfl⟩
theorem flat_get (sz : Nat) (rows : List (List Value)) (hs : ∀ r∈rows,r.length = sz) : ∀ (i : Nat) (r : List Value),rows[i]? = some r→∀ (j : Nat) (x : Value),r[j]? = some x→rows.flatten[i * sz + j]? = some x:=by
  induction rows with
  | nil=>intro i r hi; simp at hi
  | cons a rest ih =>
    intro i r hi j x hj
    have ha:=hs a (by simp)
    rw [List.flatten_cons]
    cases i with
    | zero =>
      simp only [List.getElem?_cons_zero,Option.some.injEq] at hi
      subst hi
      have hlt:=(List.getElem?_eq_some_iff.1 hj).1
      rw [Nat.zero_mul,Nat.zero_add,List.getElem?_append_left hlt]
      exact hj
    | succ i =>
      have h:=ih (fun r hr=>hs r (by simp [hr])) i r (by simpa using hi) j x hj
      have e : (i + 1) * sz + j = a.length + (i * sz + j):=by rw [ha,Nat.add_mul]; omega
      rw [e,List.getElem?_append_right (by omega)]
      simpa using h
theorem flat_len (sz : Nat) (rows : List (List Value)) (hs : ∀ r∈rows,r.length = sz) : rows.flatten.length = rows.length * sz:=by
  induction rows with
  | nil=>simp
  | cons a rest ih =>
    rw [List.flatten_cons,List.length_append,ih (fun r hr=>hs r (by simp [hr])),hs a (by simp),List.length_cons,Nat.add_mul]
    omega
theorem rows_of_own {w : World} {n : Nat} {A : Array Value} {t : TypeId} (h : Own w n A t) (sz : Nat) (rows : List (List Value)) (hs : ∀ r∈rows,r.length = sz) (hA : A.toList = rows.flatten) (c : Nat) (hc : rows.length≤c) (hm : c≤maxLen) :
    RowsAt w.cell? sz (.slice (some ⟨n,0,none⟩) rows.length c) rows:=by
  refine ⟨_,c,rfl,hc,hm,Or.inr ⟨n,0,rfl,fun i r hi j x hx=>?_⟩⟩
  rw [Nat.zero_add,h.cell]
  have:=flat_get sz rows hs i r hi j x hx
  rw [← hA] at this
  simpa using this
theorem rows_of_owns {w : World} {base : Nat} {e : TypeId} {sz : Nat} {v : Value} {n : Nat} {xs : List Value} (h : w.ownsRow base e sz v n xs) (rows : List (List Value)) (hn : n = rows.length) (hs : ∀ r∈rows,r.length = sz) (hx : xs = rows.flatten) :
    RowsAt w.cell? sz v rows:=by
  subst hx hn
  rcases h.2 with ⟨rfl,h0⟩ | ⟨g,cap,cur,rfl,hb,hg,hnc,hcm,hcs,htake⟩
  · have hr : rows = []:=List.eq_nil_of_length_eq_zero h0
    subst hr
    exact ⟨none,0,rfl,by simp,by simp,Or.inl rfl⟩
  · refine ⟨_,cap,rfl,hnc,hcm,Or.inr ⟨g,0,rfl,fun i r hi j x hx=>?_⟩⟩
    have h1:=flat_get sz rows hs i r hi j x hx
    rw [Nat.zero_add]
    have h2 : w.cell? ⟨g,i * sz + j,none⟩ = cur[i * sz + j]?:=by simp [World.cell?,hg]
    rw [h2]
    rw [← htake,List.getElem?_take] at h1
    split at h1
    · simpa using h1
    · cases h1
theorem rows_nil (m : Mem) (sz : Nat) : RowsAt m sz (.slice none 0 0) []:=⟨none,0,rfl,by simp,by simp,Or.inl rfl⟩
theorem owns_kept {w u : World} {base : Nat} {e : TypeId} {size : Nat} {v : Value} {n : Nat} {xs : List Value} {b : Nat} (h : w.ownsRow base e size v n xs) (hg : w.grownBy u (some b)) (hb : b < base) : u.ownsRow base e size v n xs :=
  h.kept hg (Or.inr (fun e=>by have:=(h.lt b e).1; omega))
theorem owns_drew {w : World} {base : Nat} {e : TypeId} {size : Nat} {v : Value} {n : Nat} {xs : List Value} (h : w.ownsRow base e size v n xs) : w.drew.ownsRow base e size v n xs:=h
theorem row_far {w : World} {base : Nat} {e : TypeId} {size : Nat} {v : Value} {n : Nat} {xs : List Value} (h : w.ownsRow base e size v n xs) {k : Nat} (hk : k < base) : v.ownBlock ≠ some k :=
  fun e=>by have:=(h.lt k e).1; omega
theorem own_past {w u : World} {base : Nat} {e t : TypeId} {size : Nat} {v : Value} {n k : Nat} {xs : List Value} {A : Array Value} (h : w.ownsRow base e size v n xs) (hO : Own w k A t) (hg : w.grownBy u v.ownBlock) (hk : k < base) : Own u k A t :=
  hO.kept hg (row_far h hk)
def IsRow (k : IntKind) (w : World) (a : Option Addr) (len cap : Nat) (zs : List Int) : Prop :=
  (a = none∧len = 0∧cap = 0∧zs = []) ∨
  ∃ x,a = some x∧len≤cap∧cap≤maxLen∧zs.length = cap∧(∀ i,i < zs.length→w.cell? (x.add i) = some (.int k (zs.getD i 0)))∧∀ n∈zs,(Lit.int k n).wf = true
theorem rows_of_own_but {w : World} {n b : Nat} {A : Array Value} {t : TypeId} (h : Own w n A t) (hb : n ≠ b) (sz : Nat) (rows : List (List Value)) (hs : ∀ r∈rows,r.length = sz) (hA : A.toList = rows.flatten) (c : Nat) (hc : rows.length≤c) (hm : c≤maxLen) :
    RowsAt (but b w) sz (.slice (some ⟨n,0,none⟩) rows.length c) rows:=by
  obtain ⟨a,c',h1,h2,h3,h4⟩:=rows_of_own h sz rows hs hA c hc hm
  injection h1 with ha _ hcc
  subst ha
  subst hcc
  refine ⟨_,_,rfl,h2,h3,?_⟩
  rcases h4 with h4 | ⟨blk,off,h5,h6⟩
  · exact Or.inl h4
  · injection h5 with h5
    injection h5 with h7 h8
    subst h7
    subst h8
    refine Or.inr ⟨n,0,rfl,fun i r hi j x hx=>?_⟩
    unfold but
    rw [if_neg hb]
    exact h6 i r hi j x hx
end Go.Proofs.YtfffpflflggonaaGreatDoor
namespace Go.Proofs.YtfffpflflggonaaGreatDoor.text
open Go.RowKit
theorem ret_int {k : IntKind} {a b : Int} (h : a = b) : Ending.returned (.int k a) = .returned (.int k b):=by rw [h]
theorem ret_bool {a b : Bool} (h : a = b) : Ending.returned (.bool a) = .returned (.bool b):=by rw [h]
theorem drop_byte (s : ByteArray) (k : Nat) (h : k < s.size) : s.data.toList.drop k = s[k] :: s.data.toList.drop (k + 1):=by
  rw [List.drop_eq_getElem_cons (by simpa using h)]; rfl
end Go.Proofs.YtfffpflflggonaaGreatDoor.text
namespace Go.Proofs.YtfffpflflggonaaGreatDoor.text
open Go.RowKit
theorem encode_small {r : Int} (h0 : 0≤r) (h : r < 128) : Utf8.encode r = ⟨#[UInt8.ofNat r.toNat]⟩:=by
  unfold Utf8.encode
  have hv : Utf8.valid r = true:=by
    rw [validRune_eq]; unfold validRune; simp; omega
  simp only [hv,if_true]
  rw [if_pos (by omega)]
def digPre (u : Nat) : List UInt8:=if u = 0 then [] else Lib.decDigits u
theorem digPre_step {u : Nat} (h : u ≠ 0) : digPre u = digPre (u / 10) ++ [UInt8.ofNat (48 + u % 10)]:=by
  unfold digPre
  rw [if_neg h]
  by_cases h10 : u < 10
  · rw [Lib.decDigits,dif_pos h10,if_pos (by omega),Nat.mod_eq_of_lt h10]; rfl
  · rw [Lib.decDigits,dif_neg h10,if_neg (by omega)]
theorem Lib.pow_le_of_nDigits (u : Nat) (h : u ≠ 0) : 10 ^ (Lib.nDigits u - 1)≤u:=by
  induction u using Nat.strongRecOn with
  | _ u ih =>
    by_cases h10 : u < 10
    · rw [Lib.nDigits_small h10]; simp; omega
    · rw [Lib.nDigits_big h10]
      have h1:=ih (u / 10) (by omega) (by omega)
      have h2:=Lib.nDigits_pos (u / 10)
      have h3 : Lib.nDigits (u / 10) + 1 - 1 = (Lib.nDigits (u / 10) - 1) + 1:=by omega
      rw [h3,Nat.pow_succ]
      omega
def NumRel (n : Int) (m : Int) (s : ByteArray) : Prop:=digPre m.natAbs ++ s.data.toList = digPre n.natAbs
theorem num_start (n : Int) : NumRel n n ⟨#[]⟩:=by unfold NumRel; simp
theorem num_step {n m d : Int} {s : ByteArray} (hm : m ≠ 0) (hd : d = ((m.natAbs % 10 : Nat) : Int)) (h : NumRel n m s) : NumRel n (Int.tdiv m 10) (Utf8.encode (48 + d) ++ s):=by
  unfold NumRel at *
  have e1 : (Int.tdiv m 10).natAbs = m.natAbs / 10:=by
    rw [Int.natAbs_tdiv]; rfl
  rw [e1,← h,digPre_step (u:=m.natAbs) (by omega),encode_small (by omega) (by omega)]
  have e2 : (48 + d).toNat = 48 + m.natAbs % 10:=by omega
  rw [e2]
  simp
theorem num_end {n : Int} {s : ByteArray} (hn : n ≠ 0) (h : NumRel n 0 s) : s.data.toList = Lib.decDigits n.natAbs:=by
  unfold NumRel at h
  have e0 : digPre (Int.natAbs 0) = []:=rfl
  rw [e0,List.nil_append] at h
  rw [h]
  unfold digPre
  rw [if_neg (by omega)]
theorem num_neg {n : Int} {s : ByteArray} (hn : n < 0) (h : NumRel n 0 s) : (⟨#[45]⟩ ++ s : ByteArray) = ⟨(Lib.itoa n).toArray⟩:=by
  have:=num_end (by omega) h
  apply ByteArray.ext
  apply Array.toList_inj.1
  unfold Lib.itoa
  rw [if_pos hn]
  simp [this]
theorem num_pos {n : Int} {s : ByteArray} (hn : 0 < n) (h : NumRel n 0 s) : s = ⟨(Lib.itoa n).toArray⟩:=by
  have:=num_end (by omega) h
  apply ByteArray.ext
  apply Array.toList_inj.1
  unfold Lib.itoa
  rw [if_neg (by omega),this]
  have e : n.natAbs = n.toNat:=by omega
  rw [e]
theorem itoa_zero : Lib.itoa 0 = [48]:=by unfold Lib.itoa; rw [if_neg (by omega),Lib.decDigits,dif_pos (by decide)]; rfl
theorem digPre_len {u : Nat} (h : u≤9223372036854775808) : (digPre u).length≤19:=by
  unfold digPre
  split
  · simp
  · rename_i h0
    rw [Lib.decDigits_length]
    rcases Nat.lt_or_ge 19 (Lib.nDigits u) with hl | hl
    · exfalso
      have:=Lib.pow_le_of_nDigits u h0
      have h2 : 10 ^ 19≤10 ^ (Lib.nDigits u - 1):=Nat.pow_le_pow_right (by omega) (by omega)
      have h3 : (10 : Nat) ^ 19 = 10000000000000000000:=by decide
      omega
    · exact hl
theorem num_size {n m : Int} {s : ByteArray} (h : NumRel n m s) (hn : n.natAbs≤9223372036854775808) : s.size≤19:=by
  have h1:=congrArg List.length h
  have h2:=digPre_len hn
  simp at h1
  omega
theorem encode_size {r : Int} (h0 : 0≤r) (h : r < 128) : (Utf8.encode r).size≤1:=by rw [encode_small h0 h]; exact Nat.le_refl 1
theorem ret_str {a b : ByteArray} (h : a = b) : Ending.returned (.string a) = .returned (.string b):=by rw [h]
theorem tdiv_abs (m : Int) : (Int.tdiv m 10).natAbs = m.natAbs / 10:=by rw [Int.natAbs_tdiv]; rfl
theorem tmod_neg {m : Int} (h : m < 0) : -(Int.tmod m 10) = ((m.natAbs % 10 : Nat) : Int):=by
  have : Int.tmod m 10 = -(((-m) % 10 : Int)):=by
    have h1 : Int.tmod m 10 = -Int.tmod (-m) 10:=by rw [Int.neg_tmod]; simp
    rw [h1,Int.tmod_eq_emod_of_nonneg (by omega)]
  omega
set_option maxHeartbeats 1000000 in
theorem number_ref (n : Int) (w : World) (h0 : -9223372036854775808≤n) (h1 : n≤9223372036854775807) :
    Calls Tryz.prog 204 #[.int .i64 n] w fun e w'=>e = .returned (.string ⟨(Lib.itoa n).toArray⟩)∧w = w':=by
  go_enter Tryz.func204,Tryz.ntmps204
  by_cases hz : n = 0
  · go_wp2
    go_ret
    exact ⟨by rw [hz,itoa_zero]; rfl,rfl⟩
  go_wp2
  go_loop [0,3,5] (fun mv sv _=>∃ (m : Int) (s : ByteArray),mv = .int .i64 m∧sv = .string s∧-9223372036854775808≤m∧m≤9223372036854775807∧Hid (NumRel n m s)) (fun mv _ _=>(intOf mv).natAbs)
  case atStart=>exact ⟨n,_,rfl,rfl,h0,h1,num_start n⟩
  case round =>
    obtain ⟨m,s,rfl,rfl,hm0,hm1,hR⟩:=hrel
    have hs:=num_size hR.out (by omega)
    rcases Int.lt_trichotomy m 0 with hm | hm | hm
    · have hT:=Lib.hid (tmod_neg hm)
      have hq0 : -9223372036854775808≤m.tdiv 10:=by have:=tdiv_abs m; omega
      have hq1 : m.tdiv 10≤9223372036854775807:=by have:=tdiv_abs m; omega
      have t0 : -9≤m.tmod 10:=by have:=hT.out; omega
      have t1 : m.tmod 10≤0:=by have:=hT.out; omega
      rcases Int.lt_or_eq_of_le t1 with t2 | t2
      · have he:=encode_size (r:=48 + -m.tmod 10) (by omega) (by omega)
        have hN:=Lib.hid (num_step (s:=s) (d:=-m.tmod 10) (by omega) hT.out hR.out)
        go_wp2
        go_round
        case rel=>exact ⟨_,_,rfl,rfl,hq0,hq1,hN.out⟩
        case measure=>have:=tdiv_abs m; simp only [intOf]; omega
      · have he:=encode_size (r:=48 + m.tmod 10) (by omega) (by omega)
        have hN:=Lib.hid (num_step (s:=s) (d:=m.tmod 10) (by omega) (by have:=hT.out; omega) hR.out)
        have t3 : 0≤m.tmod 10:=by omega
        clear t2
        go_wp2
        go_round
        case rel=>exact ⟨_,_,rfl,rfl,hq0,hq1,hN.out⟩
        case measure=>have:=tdiv_abs m; simp only [intOf]; omega
    · subst hm
      by_cases hn : n < 0
      · go_wp2
        go_ret
        exact ⟨ret_str (num_neg hn hR.out),rfl⟩
      · go_wp2
        go_ret
        exact ⟨ret_str (num_pos (by omega) hR.out),rfl⟩
    · have he:=encode_size (r:=48 + m % 10) (by omega) (by omega)
      have hN:=Lib.hid (num_step (s:=s) (d:=m % 10) (by omega) (by omega) hR.out)
      rw [Int.tdiv_eq_ediv_of_nonneg (by omega)] at hN
      go_wp2
      go_round
      case rel=>exact ⟨_,_,rfl,rfl,by omega,by omega,hN.out⟩
      case measure=>simp [intOf]; omega
end Go.Proofs.YtfffpflflggonaaGreatDoor.text
